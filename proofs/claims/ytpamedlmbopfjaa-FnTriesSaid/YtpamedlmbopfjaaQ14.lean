/- The children behind a stem: the walk of the implementation. -/
import Derived.Test.YtpamedlmbopfjaaQ13
namespace Go.Proofs.Ytpamedlmbopfjaa
set_option linter.unusedSimpArgs false
set_option linter.unusedVariables false
open Go.RowKit
set_option maxHeartbeats 3200000 in
theorem implChildren {fz fz' : Bool} {lo hi lo' hi' : Nat} (ar : Int) (a : Option Addr) (n c : Nat) (rows : List (List Int)) (pa : Option Addr) (pn pc : Nat) (p : List Int) (w : World) (hI : RowsA fz lo hi w a n c rows) (hh : hi ≤ w.heap.size) (har : I64 ar)
    (hP : IntsA fz' lo' hi' w pa pn pc p) (hh' : hi' ≤ w.heap.size) (hn : n ≤ 1048576) :
    Calls Try.prog 7 #[trieV ar a n c, .slice pa pn pc] w (GivesOwn w (childF ar rows p)) := by
  have HAR := hid har; clear har
  have hl := hI.len
  have hs := hI.small
  have hnc := hI.2.1
  have hcm := hI.2.2.1
  have hlp := hP.len
  have hsp := hP.small
  have h1 := rangeLo_le ar rows p
  have h2 := rangeHi_le ar rows p
  have hxy := range_le ar rows p
  rw [hl] at h1 h2
  have HL := hid (And.intro hl hlp); clear hl hlp
  obtain ⟨x, hx⟩ : ∃ x, rangeLo ar rows p = x := ⟨_, rfl⟩
  obtain ⟨y, hy⟩ : ∃ y, rangeHi ar rows p = y := ⟨_, rfl⟩
  rw [hx] at h1
  rw [hy] at h2
  rw [hx, hy] at hxy
  have HX := hid (And.intro hx hy); clear hx hy
  by_cases hle : (pn : Int) < ar
  · obtain ⟨vb, hvb⟩ : ∃ vb, validR ar rows = vb := ⟨_, rfl⟩
    have HVB := hid hvb; clear hvb
    have HF := hid (childF_range (ar := ar) (rows := rows) (p := p) (by rw [HL.out.2]; exact hle))
    cases vb with
    | false =>
      have HF0 := hid (childF_no (ar := ar) (rows := rows) (p := p) (fun h => by rw [preOK_val HVB.out] at h; cases h.1))
      go_enter Try.func7, Try.ntmps7
      go_wp2_with fail
      refine (implValidTrie ar a n c rows _ (hI.al intsOK hh _) (by first | with_reducible exact Nat.le_refl _ | omega | (simp; done) | (simp; omega) | exact Nat.le_refl _) HAR.out).mono ?_
      rintro e w1 ⟨rfl, hb1⟩
      rw [HVB.out]
      go_wp2_with fail
      go_ret
      exact ⟨none, 0, 0, rfl, by rw [HF0.out]; exact own_nil _ _, (Below.al (Below.refl _ _) (Nat.le_refl _) _).trans (hb1.mono (by first | with_reducible exact Nat.le_refl _ | omega | (simp; done) | (simp; omega) | exact Nat.le_refl _))⟩
    | true =>
      have HV := hid (validR_out HVB.out)
      go_enter Try.func7, Try.ntmps7
      go_wp2_with fail
      refine (implValidTrie ar a n c rows _ (hI.al intsOK hh _) (by first | with_reducible exact Nat.le_refl _ | omega | (simp; done) | (simp; omega) | exact Nat.le_refl _) HAR.out).mono ?_
      rintro e w1 ⟨rfl, hb1⟩
      rw [HVB.out]
      have hc0 : w1.cell? ⟨w.heap.size, 0, none⟩ = some (.int .i64 ar) := (by rw [(bcell hb1).1 _ _ (by first | omega | (simp; done) | (simp; omega))]; first | with_reducible assumption | (go_simp; done) | assumption | (simp [World.cell?]; done))
      have hc1 : w1.cell? ⟨w.heap.size, 1, none⟩ = some (.slice a n c) := (by rw [(bcell hb1).1 _ _ (by first | omega | (simp; done) | (simp; omega))]; first | with_reducible assumption | (go_simp; done) | assumption | (simp [World.cell?]; done))
      have hg : w.heap.size < w1.heap.size := World.block_lt_of_cell? _ _ hc0
      have hb2 : Below w.heap.size w w1 := (Below.al (Below.refl _ _) (Nat.le_refl _) _).trans (hb1.mono (by first | with_reducible exact Nat.le_refl _ | omega | (simp; done) | (simp; omega) | exact Nat.le_refl _))
      have hI1 := hI.be intsOK hb2 hh
      have hP1 := hP.be hb2 hh'
      have HB := hid hb2; clear hb1 hb2
      have HI := hid (And.intro hI1 hP1); clear hI hP hI1 hP1
      go_wp2_with fail
      refine (implRange ar a n c rows pa pn pc p _ HI.out.1 (by omega) HAR.out HI.out.2 (by omega)).mono ?_
      rintro e w2 ⟨rfl, hb2⟩
      rw [HX.out.1, HX.out.2]
      replace hc1 : w2.cell? ⟨w.heap.size, 1, none⟩ = some (.slice a n c) := by rw [(bcell hb2).1 _ _ hg]; exact hc1
      clear hc0
      have hz2 := hb2.size
      have HB2 := hid (Below.calm HB.out hb2)
      have HI2 := hid (And.intro (HI.out.1.be intsOK hb2 (by omega)) (HI.out.2.be hb2 (by omega)))
      clear hb2
      by_cases hlt0 : x < y
      · obtain ⟨b, off, rfl⟩ := RowsA.some HI.out.1 (by omega)
        have hrs0 : ∀ i, i < y → ((rx rows i).length : Int) = ar := fun i hi => (HV.out.2.2 i (by rw [HL.out.1]; omega)).1
        have HRS := hid hrs0; clear hrs0
        go_wp2_with fail
        go_loopw [6, 34] (fun v i wr => ∃ (k : Nat) (ao : Option Addr) (m co : Nat), i = .int .i64 k ∧ v = .slice ao m co ∧ k ≤ y - x ∧ Own w2.heap.size wr ao m co (chTo (chAt rows x pn) k) ∧ Below w2.heap.size w2 wr) (fun _ i _ => (y - x) - (intOf i).toNat)
        case atStart => exact ⟨0, none, 0, 0, rfl, rfl, by omega, own_nil _ _, Below.refl _ _⟩
        case round =>
          obtain ⟨k, ao, m, co, rfl, rfl, hk, hown, hbel⟩ := hrel
          have hm : m ≤ k := by have g1 := hown.len; have g2 := chTo_len (chAt rows x pn) k; omega
          have hk2 : k ≤ 1048576 := by omega
          have hzw := hbel.size
          have hbw : Below w.heap.size w wr := HB2.out.trans (hbel.mono (by omega))
          have hIr := HI2.out.1.be intsOK hbel (by omega)
          have hoi := hown.ints
          have HO1 := hid hown; clear hown
          have HB1 := hid (And.intro hbel hbw); clear hbel hbw
          by_cases hlt : k < y - x
          · obtain ⟨_, _, ra, rn, rc, hc, hr, _⟩ := RowsA.at hIr (show x + k < n by omega)
            rw [← Nat.add_assoc] at hc
            have hrn : pn < rn := by have g := HRS.out (x + k) (by omega); have g2 := hr.len; omega
            have hrs := hr.small
            obtain ⟨b2, off2, rfl, _, _, hc2, _⟩ := hr.open (by omega)
            have d0 := hc2 pn hrn
            have hat := hr.at hrn
            have hf : chAt rows x pn k = ix (rx rows (x + k)) pn := rfl
            generalize hve : ix (rx rows (x + k)) pn = v at *
            have HIR := hid hIr; clear hIr hc2 hr
            have hml : (chTo (chAt rows x pn) k).length = m := hoi.len
            by_cases hm0 : m = 0
            · have hput := chTo_put (f := chAt rows x pn) (k := k) (.inl (by omega))
              rw [hf] at hput
              have HP := hid (And.intro hput (And.intro hve (And.intro hf hml))); clear hput hve hf hml
              subst hm0
              have HOI := hid hoi; clear hoi
              go_wp2_with fail
              go_quiet (fail)
              go_wp2_with (at_builtin; refine wpApp rfl (.tmp 54) (.tmp 59) rfl w2.heap.size ao 0 co _ rfl ((HO1.out.drewN _).alloc _) _ 1 1 _ rfl (one_ints _ _ _ hat) (by omega) (by simp; omega) ?_)
              intro a1 c1' w3 ho2 hg2
              have hb2 : Below w2.heap.size w2 w3 := ho1' HO1.out HB1.out.1 hzw hg2
              have HO2 := hid ho2; clear ho2
              have HB2 := hid hb2; clear hb2 hg2
              go_wp2
              go_roundw
              case rel => exact ⟨k + 1, a1, 1, c1', by go_num, by simp, by omega, by rw [HP.out.1]; simpa using HO2.out, HB2.out⟩
              case measure => simp [intOf]; omega
            · obtain ⟨m', rfl⟩ : ∃ m', m = m' + 1 := ⟨m - 1, by omega⟩
              obtain ⟨b3, off3, rfl, _, _, hc3, _⟩ := hoi.open (by omega)
              have d1 := hc3 m' (by omega)
              clear hc3
              have HOI := hid hoi; clear hoi
              generalize hlv : ix (chTo (chAt rows x pn) k) m' = lv at *
              have hw1 : IntKind.i64.wrap (((m' + 1 : Nat) : Int) - 1) = m' := by rw [show ((m' + 1 : Nat) : Int) - 1 = m' by omega]; exact IntWalk.i64_in _ (by omega)
              have hw2 : IntKind.i64.wrap ((m' : Int) + 1 - 1) = m' := by rw [show (m' : Int) + 1 - 1 = m' by omega]; exact IntWalk.i64_in _ (by omega)
              have hm1 : (((m' + 1 : Nat) : Int) == 0) = false := by simp; omega
              have hm2 : ((m' : Int) + 1 == 0) = false := by simp; omega
              have hm3 : (m' : Int) < (m' : Int) + 1 := by omega
              by_cases he : lv = v
              · have hkeep := chTo_keep (f := chAt rows x pn) (k := k) (by omega) (by rw [hml]; simp only [Nat.add_sub_cancel]; rw [hlv, hf]; exact he)
                have HP := hid (And.intro hkeep (And.intro hve (And.intro hf (And.intro hml hlv)))); clear hkeep hve hf hml hlv
                have hb : (lv != v) = false := by simp [he]
                have HE := hid he; clear he
                go_wp2_with fail
                go_quiet (fail)
                go_wp2_with fail
                go_roundw
                case rel => exact ⟨k + 1, _, m' + 1, _, by go_num, rfl, by omega, by rw [HP.out.1]; exact HO1.out, below_drewN HB1.out.1 _⟩
                case measure => simp [intOf]; omega
              · have hput := chTo_put (f := chAt rows x pn) (k := k) (.inr (by rw [hml]; simp only [Nat.add_sub_cancel]; rw [hlv, hf]; exact he))
                rw [hf] at hput
                have HP := hid (And.intro hput (And.intro hve (And.intro hf (And.intro hml hlv)))); clear hput hve hf hml hlv
                have hb : (lv != v) = true := by simp [he]
                have HE := hid he; clear he
                go_wp2_with fail
                go_quiet (fail)
                go_wp2_with (at_builtin; refine wpApp rfl (.tmp 54) (.tmp 59) rfl w2.heap.size _ (m' + 1) co _ rfl ((HO1.out.drewN _).alloc _) _ 1 1 _ rfl (one_ints _ _ _ hat) (by omega) (by simp; omega) ?_)
                intro a1 c1' w3 ho2 hg2
                have hb2 : Below w2.heap.size w2 w3 := ho1' HO1.out HB1.out.1 hzw hg2
                have HO2 := hid ho2; clear ho2
                have HB2' := hid hb2; clear hb2 hg2
                go_wp2
                go_roundw
                case rel => exact ⟨k + 1, a1, m' + 1 + 1, c1', by go_num, rfl, by omega, by rw [HP.out.1]; exact HO2.out, HB2'.out⟩
                case measure => simp [intOf]; omega
          · go_wp2_with fail
            go_ret
            have hky : k = y - x := by omega
            exact ⟨_, _, _, rfl, by rw [HF.out, HX.out.1, HX.out.2, ← hky, HL.out.2]; exact HO1.out.low (by have := HB2.out.size; omega), HB1.out.2⟩
      · have hky : x = y := by omega
        go_wp2_with fail
        all_goals
          go_loopw [6, 34] (fun v i wr => i = .int .i64 0 ∧ v = .slice none 0 0 ∧ wr = w2) (fun _ i _ => (y - x) - (intOf i).toNat)
          case atStart => exact ⟨rfl, rfl, rfl⟩
          case round =>
            obtain ⟨rfl, rfl, rfl⟩ := hrel
            go_wp2_with fail
            go_ret
            exact ⟨_, _, _, rfl, by rw [HF.out, HX.out.1, HX.out.2, show y - x = 0 by omega]; exact own_nil _ _, HB2.out⟩
  · have HF := hid (childF_no (ar := ar) (rows := rows) (p := p) (by rw [HL.out.2]; exact fun h => hle h.2))
    go_enter Try.func7, Try.ntmps7
    go_wp2_with fail
    go_ret
    exact ⟨none, 0, 0, rfl, by rw [HF.out]; exact own_nil _ _, (by repeat (first | with_reducible assumption | with_reducible exact Below.refl _ _ | with_reducible refine below_drewN ?_ _ | with_reducible refine Below.al ?_ (by first | with_reducible exact Nat.le_refl _ | omega | (simp; done) | (simp; omega) | exact Nat.le_refl _) _ | with_reducible refine Below.setCell ?_ (by first | with_reducible exact Nat.le_refl _ | omega | (simp; done) | (simp; omega) | exact Nat.le_refl _) _ | assumption | exact Below.refl _ _ | refine below_drewN ?_ _ | refine Below.al ?_ (by first | with_reducible exact Nat.le_refl _ | omega | (simp; done) | (simp; omega) | exact Nat.le_refl _) _ | refine Below.setCell ?_ (by first | with_reducible exact Nat.le_refl _ | omega | (simp; done) | (simp; omega) | exact Nat.le_refl _) _))⟩
end Go.Proofs.Ytpamedlmbopfjaa
