/- The children behind a stem: the walk of the reference's version. -/
import Derived.Test.YtpamedlmbopfjaaQ12
namespace Go.Proofs.Ytpamedlmbopfjaa
set_option linter.unusedSimpArgs false
set_option linter.unusedVariables false
open Go.RowKit
theorem own_empty (w : World) (base g : Nat) (hb : base ≤ g) (hg : w.heap[g]? = some (.cells #[] 3 (0, 0))) : Own base w (some ⟨g, 0, none⟩) 0 0 [] :=
  ⟨⟨rfl, .inr ⟨g, 0, #[], rfl, hb, hg, Nat.le_refl _, by simp [maxLen], rfl, rfl⟩⟩, fun _ h => nomatch h⟩
theorem al1 (W : World) (A B : Obj) : ((W.alloc A).alloc B).heap[W.heap.size + 1]? = some B := by
  have := heap_alloc_new (W.alloc A) B
  simpa using this
set_option maxHeartbeats 3200000 in
theorem specChildren {fz fz' : Bool} {lo hi lo' hi' : Nat} (ar : Int) (a : Option Addr) (n c : Nat) (rows : List (List Int)) (pa : Option Addr) (pn pc : Nat) (p : List Int) (w : World) (hI : RowsA fz lo hi w a n c rows) (hh : hi ≤ w.heap.size) (har : I64 ar)
    (hP : IntsA fz' lo' hi' w pa pn pc p) (hh' : hi' ≤ w.heap.size) (hn : n ≤ 1048576) :
    Calls Try.prog 11 #[trieV ar a n c, .slice pa pn pc] w (GivesOwn w (childF ar rows p)) := by
  have HAR := hid har; clear har
  have hl := hI.len
  have hs := hI.small
  have hlp := hP.len
  have hsp := hP.small
  have h1 := rangeLo_le ar rows p
  have h2 := rangeHi_le ar rows p
  have hxy := range_le ar rows p
  rw [hl] at h1 h2
  have HL := hid (And.intro hl hlp); clear hl hlp
  obtain ⟨x, hx⟩ : ∃ x, rangeLo ar rows p = x := ⟨_, rfl⟩
  obtain ⟨y, hy⟩ : ∃ y, rangeHi ar rows p = y := ⟨_, rfl⟩
  rw [hx] at h1
  rw [hy] at h2
  rw [hx, hy] at hxy
  have HX := hid (And.intro hx hy); clear hx hy
  go_enter Try.func11, Try.ntmps11
  go_wp2_with fail
  refine (specRange ar a n c rows pa pn pc p _ (hI.be intsOK (B := w.heap.size) (by repeat (first | with_reducible assumption | with_reducible exact Below.refl _ _ | with_reducible refine below_drewN ?_ _ | with_reducible refine Below.al ?_ (by first | with_reducible exact Nat.le_refl _ | omega | (simp; done) | (simp; omega) | exact Nat.le_refl _) _ | with_reducible refine Below.setCell ?_ (by first | with_reducible exact Nat.le_refl _ | omega | (simp; done) | (simp; omega) | exact Nat.le_refl _) _ | assumption | exact Below.refl _ _ | refine below_drewN ?_ _ | refine Below.al ?_ (by first | with_reducible exact Nat.le_refl _ | omega | (simp; done) | (simp; omega) | exact Nat.le_refl _) _ | refine Below.setCell ?_ (by first | with_reducible exact Nat.le_refl _ | omega | (simp; done) | (simp; omega) | exact Nat.le_refl _) _)) hh) (by first | with_reducible exact Nat.le_refl _ | omega | (simp; done) | (simp; omega) | exact Nat.le_refl _) HAR.out (hP.be (B := w.heap.size) (by repeat (first | with_reducible assumption | with_reducible exact Below.refl _ _ | with_reducible refine below_drewN ?_ _ | with_reducible refine Below.al ?_ (by first | with_reducible exact Nat.le_refl _ | omega | (simp; done) | (simp; omega) | exact Nat.le_refl _) _ | with_reducible refine Below.setCell ?_ (by first | with_reducible exact Nat.le_refl _ | omega | (simp; done) | (simp; omega) | exact Nat.le_refl _) _ | assumption | exact Below.refl _ _ | refine below_drewN ?_ _ | refine Below.al ?_ (by first | with_reducible exact Nat.le_refl _ | omega | (simp; done) | (simp; omega) | exact Nat.le_refl _) _ | refine Below.setCell ?_ (by first | with_reducible exact Nat.le_refl _ | omega | (simp; done) | (simp; omega) | exact Nat.le_refl _) _)) hh') (by first | with_reducible exact Nat.le_refl _ | omega | (simp; done) | (simp; omega) | exact Nat.le_refl _)).mono ?_
  rintro e w1 ⟨rfl, hb1⟩
  rw [HX.out.1, HX.out.2]
  have hb2 : Below w.heap.size w w1 := Below.trans (by repeat (first | with_reducible assumption | with_reducible exact Below.refl _ _ | with_reducible refine below_drewN ?_ _ | with_reducible refine Below.al ?_ (by first | with_reducible exact Nat.le_refl _ | omega | (simp; done) | (simp; omega) | exact Nat.le_refl _) _ | with_reducible refine Below.setCell ?_ (by first | with_reducible exact Nat.le_refl _ | omega | (simp; done) | (simp; omega) | exact Nat.le_refl _) _ | assumption | exact Below.refl _ _ | refine below_drewN ?_ _ | refine Below.al ?_ (by first | with_reducible exact Nat.le_refl _ | omega | (simp; done) | (simp; omega) | exact Nat.le_refl _) _ | refine Below.setCell ?_ (by first | with_reducible exact Nat.le_refl _ | omega | (simp; done) | (simp; omega) | exact Nat.le_refl _) _)) (hb1.mono (by first | with_reducible exact Nat.le_refl _ | omega | (simp; done) | (simp; omega) | exact Nat.le_refl _))
  have c0 : w1.cell? ⟨w.heap.size, 0, none⟩ = some (.int .i64 ar) := (by rw [(bcell hb1).1 _ _ (by first | omega | (simp; done) | (simp; omega))]; first | with_reducible assumption | (go_simp; done) | assumption | (simp [World.cell?]; done))
  have c1 : w1.cell? ⟨w.heap.size, 1, none⟩ = some (.slice a n c) := (by rw [(bcell hb1).1 _ _ (by first | omega | (simp; done) | (simp; omega))]; first | with_reducible assumption | (go_simp; done) | assumption | (simp [World.cell?]; done))
  have ho : Own (w.heap.size + 1) w1 (some ⟨w.heap.size + 1, 0, none⟩) 0 0 [] := own_empty _ _ _ (Nat.le_refl _) (by rw [hb1.block _ (by simp)]; exact al1 _ _ _)
  have hz1 : w.heap.size + 1 < w1.heap.size := by have := hb1.size; simp at this; omega
  have HO := hid ho; clear ho
  have HB := hid (And.intro hb1 hb2); clear hb1 hb2
  have HI := hid (And.intro hI hP); clear hI hP
  by_cases hle : (pn : Int) < ar
  · have HF := hid (childF_range (ar := ar) (rows := rows) (p := p) (by rw [HL.out.2]; exact hle))
    have hv : ∀ i, i < y → x ≤ i → ((rx rows i).length : Int) = ar := by
      intro i hi hi'
      have hp : preOK ar rows p = true := by
        cases hq : preOK ar rows p with
        | true => rfl
        | false => have := (range_no hq).2; rw [HX.out.2] at this; omega
      have hvr : validR ar rows = true := by cases hq : validR ar rows with
        | true => rfl
        | false => rw [preOK_val hq] at hp; cases hp
      exact ((validR_out hvr).2.2 i (by rw [HL.out.1]; omega)).1
    have HV := hid hv; clear hv
    go_wp2_with fail
    go_loopw [5, 8] (fun v i wr => ∃ (k : Nat) (ao : Option Addr) (m co : Nat), i = .int .i64 ((x + k : Nat) : Int) ∧ v = .slice ao m co ∧ x + k ≤ y ∧ Own (w.heap.size + 1) wr ao m co (chTo (chAt rows x pn) k) ∧ Below (w.heap.size + 1) w1 wr) (fun _ i _ => y - (intOf i).toNat)
    case atStart => exact ⟨0, _, 0, 0, by simp, rfl, hxy, HO.out, Below.refl _ _⟩
    case round =>
      obtain ⟨k, ao, m, co, hi, rfl, hk, hown, hbel⟩ := hrel
      generalize hj : x + k = j at hi hk
      subst hi
      have hm : m ≤ k := by have g1 := hown.len; have g2 := chTo_len (chAt rows x pn) k; omega
      have hbw : Below w.heap.size w wr := HB.out.2.trans (hbel.mono (by omega))
      have hzw := hbel.size
      have c0r : wr.cell? ⟨w.heap.size, 0, none⟩ = some (.int .i64 ar) := by rw [hbel.cell (p := ⟨w.heap.size, 0, none⟩) (by simp)]; exact c0
      have c1r : wr.cell? ⟨w.heap.size, 1, none⟩ = some (.slice a n c) := by rw [hbel.cell (p := ⟨w.heap.size, 1, none⟩) (by simp)]; exact c1
      have hIr := HI.out.1.be intsOK hbw hh
      have hPr := HI.out.2.be hbw hh'
      have hoi := hown.ints
      have hk2 : k ≤ 1048576 := by omega
      have HJ := hid hj; clear hj
      have HO1 := hid hown; clear hown
      have HB1 := hid (And.intro hbel hbw); clear hbel hbw
      by_cases hlt : j < y
      · obtain ⟨b, off, rfl⟩ := RowsA.some hIr (by omega)
        obtain ⟨_, _, ra, rn, rc, hc, hr, _⟩ := RowsA.at hIr (show j < n by omega)
        have hrn : pn < rn := by have g := HV.out j hlt (by have := HJ.out; omega); have g2 := hr.len; omega
        have hrs := hr.small
        obtain ⟨b2, off2, rfl, _, _, hc2, _⟩ := hr.open (by omega)
        have d0 := hc2 pn hrn
        have hat := hr.at hrn
        have hf : chAt rows x pn k = ix (rx rows j) pn := by unfold chAt; rw [HJ.out]
        generalize hve : ix (rx rows j) pn = v at *
        have HIR := hid (And.intro hIr hPr); clear hIr hPr hc2 hr
        have hml : (chTo (chAt rows x pn) k).length = m := hoi.len
        by_cases hm0 : m = 0
        · have hput := chTo_put (f := chAt rows x pn) (k := k) (.inl (by omega))
          rw [hf] at hput
          have HP := hid (And.intro hput (And.intro hve (And.intro hf hml))); clear hput hve hf hml
          subst hm0
          have HOI := hid hoi; clear hoi
          go_wp2_with (at_builtin; refine wpApp rfl (.tmp 52) (.tmp 54) rfl (w.heap.size + 1) ao 0 co _ rfl (HO1.out.alloc _) _ 1 1 _ rfl (one_ints _ _ _ hat) (by omega) (by simp; omega) ?_)
          intro a1 c1' w2 ho2 hg2
          have hb2 : Below (w.heap.size + 1) w1 w2 := ho0' HO1.out HB1.out.1 (by omega) hg2
          have HO2 := hid ho2; clear ho2
          have HB2 := hid hb2; clear hb2 hg2
          go_wp2
          go_roundw
          case rel => exact ⟨k + 1, a1, 1, c1', by rw [← HJ.out]; go_num, by simp, by have := HJ.out; omega, by rw [HP.out.1]; simpa using HO2.out, HB2.out⟩
          case measure => simp [intOf]; omega
        · obtain ⟨m', rfl⟩ : ∃ m', m = m' + 1 := ⟨m - 1, by omega⟩
          obtain ⟨b3, off3, rfl, _, _, hc3, _⟩ := hoi.open (by omega)
          have d1 := hc3 m' (by omega)
          clear hc3
          have HOI := hid hoi; clear hoi
          generalize hlv : ix (chTo (chAt rows x pn) k) m' = lv at *
          by_cases he : lv = v
          · have hkeep := chTo_keep (f := chAt rows x pn) (k := k) (by omega) (by rw [hml]; simp only [Nat.add_sub_cancel]; rw [hlv, hf]; exact he)
            have HP := hid (And.intro hkeep (And.intro hve (And.intro hf (And.intro hml hlv)))); clear hkeep hve hf hml hlv
            have hb : (lv != v) = false := by simp [he]
            have HE := hid he; clear he
            go_wp2_with fail
            go_roundw
            case rel => exact ⟨k + 1, _, m' + 1, _, by rw [← HJ.out]; go_num, rfl, by have := HJ.out; omega, by rw [HP.out.1]; exact HO1.out, HB1.out.1⟩
            case measure => simp [intOf]; omega
          · have hput := chTo_put (f := chAt rows x pn) (k := k) (.inr (by rw [hml]; simp only [Nat.add_sub_cancel]; rw [hlv, hf]; exact he))
            rw [hf] at hput
            have HP := hid (And.intro hput (And.intro hve (And.intro hf (And.intro hml hlv)))); clear hput hve hf hml hlv
            have hb : (lv != v) = true := by simp [he]
            have HE := hid he; clear he
            go_wp2_with (at_builtin; refine wpApp rfl (.tmp 52) (.tmp 54) rfl (w.heap.size + 1) _ (m' + 1) co _ rfl (HO1.out.alloc _) _ 1 1 _ rfl (one_ints _ _ _ hat) (by omega) (by simp; omega) ?_)
            intro a1 c1' w2 ho2 hg2
            have hb2 : Below (w.heap.size + 1) w1 w2 := ho0' HO1.out HB1.out.1 (by omega) hg2
            have HO2 := hid ho2; clear ho2
            have HB2 := hid hb2; clear hb2 hg2
            go_wp2
            go_roundw
            case rel => exact ⟨k + 1, a1, m' + 1 + 1, c1', by rw [← HJ.out]; go_num, rfl, by have := HJ.out; omega, by rw [HP.out.1]; exact HO2.out, HB2.out⟩
            case measure => simp [intOf]; omega
      · go_wp2_with fail
        go_ret
        have hky : k = y - x := by have := HJ.out; omega
        exact ⟨_, _, _, rfl, by rw [HF.out, HX.out.1, HX.out.2, ← hky, HL.out.2]; exact HO1.out.low (by omega), HB1.out.2⟩
  · have HF := hid (childF_no (ar := ar) (rows := rows) (p := p) (by rw [HL.out.2]; exact fun h => hle h.2))
    by_cases hxy0 : x < y
    · go_wp2_with fail
      go_loopw [5, 8] (fun v i wr => i = .int .i64 x ∧ v = .slice (some ⟨w.heap.size + 1, 0, none⟩) 0 0 ∧ wr = w1) (fun _ i _ => y - (intOf i).toNat)
      case atStart => exact ⟨rfl, rfl, rfl⟩
      case round =>
        obtain ⟨rfl, rfl, rfl⟩ := hrel
        go_wp2_with fail
        go_ret
        exact ⟨_, _, _, rfl, by rw [HF.out]; exact HO.out.low (by omega), HB.out.2⟩
    · go_wp2_with fail
      go_loopw [5, 8] (fun v i wr => i = .int .i64 x ∧ v = .slice (some ⟨w.heap.size + 1, 0, none⟩) 0 0 ∧ wr = w1) (fun _ i _ => y - (intOf i).toNat)
      case atStart => exact ⟨rfl, rfl, rfl⟩
      case round =>
        obtain ⟨rfl, rfl, rfl⟩ := hrel
        go_wp2_with fail
        go_ret
        exact ⟨_, _, _, rfl, by rw [HF.out]; exact HO.out.low (by omega), HB.out.2⟩
end Go.Proofs.Ytpamedlmbopfjaa
