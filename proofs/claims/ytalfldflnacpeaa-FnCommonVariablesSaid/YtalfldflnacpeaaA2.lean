/- Walks: the variables of an atom. -/
import Derived.Test.YtalfldflnacpeaaA1
import Derived.Test.YtalfldflnacpeaaCell
import Derived.Deep.CutBlock
import Derived.Deep.DeepCutAuto
namespace Go.Proofs.Ytalfldflnacpeaa
set_option linter.unusedSimpArgs false
set_option linter.unusedVariables false
open Go.RowKit
/-- whether a number is in a list -/
noncomputable def occ (xs : List Int) (v : Int) : Bool := decide (0 ≤ findF xs v)
theorem occ_at {xs : List Int} {v : Int} {i : Nat} (hi : i < xs.length) (h : ix xs i = v) (hn : ∀ j, j < i → ix xs j ≠ v) : occ xs v = true := by
  unfold occ; rw [findF_eq hi h hn]; simp
theorem occ_none {xs : List Int} {v : Int} (h : ∀ i, i < xs.length → ix xs i ≠ v) : occ xs v = false := by
  unfold occ; rw [findF_none h]; simp
set_option maxHeartbeats 800000 in
theorem implHasVar {fz : Bool} {lo hi : Nat} (s : ByteArray) (a : Option Addr) (n c : Nat) (xs : List Int) (v : Int) (w : World) (hI : IntsA fz lo hi w a n c xs) (hh : hi ≤ w.heap.size) :
    Calls Try.prog 26 #[atomV s a n c, .int .i64 v] w (Leaves w (.bool (occ xs v))) := by
  go_enter Try.func26, Try.ntmps26
  go_wp2_with fail
  refine (implHasInt a n c xs v _ (beInts (B := w.heap.size) hI (by repeat (first | with_reducible assumption | with_reducible exact Below.refl _ _ | with_reducible refine below_drewN ?_ _ | with_reducible refine Below.al ?_ (by first | with_reducible exact Nat.le_refl _ | omega | (simp; done) | (simp; omega) | exact Nat.le_refl _) _ | with_reducible refine Below.setCell ?_ (by first | with_reducible exact Nat.le_refl _ | omega | (simp; done) | (simp; omega) | exact Nat.le_refl _) _ | assumption | exact Below.refl _ _ | refine below_drewN ?_ _ | refine Below.al ?_ (by first | with_reducible exact Nat.le_refl _ | omega | (simp; done) | (simp; omega) | exact Nat.le_refl _) _ | refine Below.setCell ?_ (by first | with_reducible exact Nat.le_refl _ | omega | (simp; done) | (simp; omega) | exact Nat.le_refl _) _)) hh)).mono ?_
  rintro e w1 ⟨rfl, m1, rfl⟩
  go_wp2_with fail
  go_ret
  exact ⟨rfl, (by repeat (first | with_reducible assumption | with_reducible exact Below.refl _ _ | with_reducible refine below_drewN ?_ _ | with_reducible refine Below.al ?_ (by first | with_reducible exact Nat.le_refl _ | omega | (simp; done) | (simp; omega) | exact Nat.le_refl _) _ | with_reducible refine Below.setCell ?_ (by first | with_reducible exact Nat.le_refl _ | omega | (simp; done) | (simp; omega) | exact Nat.le_refl _) _ | assumption | exact Below.refl _ _ | refine below_drewN ?_ _ | refine Below.al ?_ (by first | with_reducible exact Nat.le_refl _ | omega | (simp; done) | (simp; omega) | exact Nat.le_refl _) _ | refine Below.setCell ?_ (by first | with_reducible exact Nat.le_refl _ | omega | (simp; done) | (simp; omega) | exact Nat.le_refl _) _))⟩
set_option maxHeartbeats 800000 in
theorem specHasVar {fz : Bool} {lo hi : Nat} (s : ByteArray) (a : Option Addr) (n c : Nat) (xs : List Int) (v : Int) (w : World) (hI : IntsA fz lo hi w a n c xs) (hh : hi ≤ w.heap.size) :
    Calls Try.prog 49 #[atomV s a n c, .int .i64 v] w (Leaves w (.bool (occ xs v))) := by
  have hl := hI.len
  have hs := hI.small
  have HL := hid hl; clear hl
  obtain ⟨W, hW⟩ : ∃ W, W = w.alloc (.cells #[.string s, .slice a n c] 32) := ⟨_, rfl⟩
  have hBW : Below w.heap.size w W := by rw [hW]; exact (by repeat (first | with_reducible assumption | with_reducible exact Below.refl _ _ | with_reducible refine below_drewN ?_ _ | with_reducible refine Below.al ?_ (by first | with_reducible exact Nat.le_refl _ | omega | (simp; done) | (simp; omega) | exact Nat.le_refl _) _ | with_reducible refine Below.setCell ?_ (by first | with_reducible exact Nat.le_refl _ | omega | (simp; done) | (simp; omega) | exact Nat.le_refl _) _ | assumption | exact Below.refl _ _ | refine below_drewN ?_ _ | refine Below.al ?_ (by first | with_reducible exact Nat.le_refl _ | omega | (simp; done) | (simp; omega) | exact Nat.le_refl _) _ | refine Below.setCell ?_ (by first | with_reducible exact Nat.le_refl _ | omega | (simp; done) | (simp; omega) | exact Nat.le_refl _) _))
  have c1 : W.cell? ⟨w.heap.size, 1, none⟩ = some (.slice a n c) := by rw [hW]; simp
  have hIW := beInts hI hBW hh
  have HW := hid (And.intro hW hBW); clear hW hBW hI
  go_enter Try.func49, Try.ntmps49
  go_upto_region 1 with fail
  rw [← HW.out.1]
  go_wp2_with fail
  go_loop [5] (fun i => ∃ k : Nat, i = .int .i64 k ∧ k ≤ n ∧ Hid (∀ j, j < k → ix xs j ≠ v)) (fun i => n - (intOf i).toNat)
  case atStart => exact ⟨0, rfl, by omega, hid (fun j hj => by omega)⟩
  case round =>
    obtain ⟨k, rfl, hk, HT⟩ := hrel
    by_cases hlt : k < n
    · obtain ⟨b, off, rfl, _, _, hc, _⟩ := hIW.open (by omega)
      have c2 := hc k hlt
      clear hc
      generalize hx : ix xs k = x at *
      have HX := hid hx; clear hx
      by_cases he : x = v
      · have hb : (x == v) = true := by simp [he]
        have HF := hid (occ_at (xs := xs) (v := v) (i := k) (by rw [HL.out]; exact hlt) (by rw [HX.out]; exact he) HT.out)
        have HE := hid he; clear he
        go_wp2_with fail
        go_ret
        exact ⟨by rw [HF.out]; rfl, HW.out.2⟩
      · have hb : (x == v) = false := by simp [he]
        have HT2 : Hid (∀ j, j < k + 1 → ix xs j ≠ v) := hid (fun j hj => by
          by_cases e : j = k
          · subst e; rw [HX.out]; exact he
          · exact HT.out j (by omega))
        have HE := hid he; clear he
        go_wp2_with fail
        go_round
        case rel => exact ⟨k + 1, by go_num, by omega, HT2⟩
        case measure => simp [intOf]; omega
    · have HF := hid (occ_none (xs := xs) (v := v) (by rw [HL.out]; intro j hj; exact HT.out j (by omega)))
      go_wp2_with fail
      go_ret
      exact ⟨by rw [HF.out]; rfl, HW.out.2⟩
/-- the numbers below k that occur in xs, ascending -/
noncomputable def avTo (xs : List Int) : Nat → List Int
  | 0 => []
  | k + 1 => if occ xs k = true then avTo xs k ++ [(k : Int)] else avTo xs k
theorem avTo_len (xs : List Int) (k : Nat) : (avTo xs k).length ≤ k := by
  induction k with
  | zero => simp [avTo]
  | succ k ih =>
    simp only [avTo]; split
    · simp; omega
    · omega
theorem avTo_put {xs : List Int} {k : Nat} (h : occ xs k = true) : avTo xs (k + 1) = avTo xs k ++ [(k : Int)] := by simp only [avTo]; rw [if_pos h]
theorem avTo_keep {xs : List Int} {k : Nat} (h : occ xs k = false) : avTo xs (k + 1) = avTo xs k := by simp only [avTo]; rw [if_neg (by rw [h]; exact Bool.false_ne_true)]
theorem own_empty2 (w : World) (base g : Nat) (hb : base ≤ g) (hg : w.heap[g]? = some (.cells #[] 3 (0, 0))) : Own base w (some ⟨g, 0, none⟩) 0 0 [] :=
  ⟨⟨rfl, .inr ⟨g, 0, #[], rfl, hb, hg, Nat.le_refl _, by simp [maxLen], rfl, rfl⟩⟩, fun _ h => nomatch h⟩
theorem al1a (W : World) (A B : Obj) : ((W.alloc A).alloc B).heap[W.heap.size + 1]? = some B := by
  have := heap_alloc_new (W.alloc A) B
  simpa using this
set_option maxHeartbeats 1600000 in
theorem implAtomVars {fz : Bool} {lo hi : Nat} (s : ByteArray) (a : Option Addr) (n c : Nat) (xs : List Int) (w : World) (hI : IntsA fz lo hi w a n c xs) (hh : hi ≤ w.heap.size) :
    Calls Try.prog 16 #[atomV s a n c] w (GivesOwn w (avTo xs 5)) := by
  obtain ⟨W, hW⟩ : ∃ W, W = (w.alloc (.cells #[.string s, .slice a n c] 32)) := ⟨_, rfl⟩
  have hBW : Below w.heap.size w W := by rw [hW]; exact (by repeat (first | with_reducible assumption | with_reducible exact Below.refl _ _ | with_reducible refine below_drewN ?_ _ | with_reducible refine Below.al ?_ (by first | with_reducible exact Nat.le_refl _ | omega | (simp; done) | (simp; omega) | exact Nat.le_refl _) _ | with_reducible refine Below.setCell ?_ (by first | with_reducible exact Nat.le_refl _ | omega | (simp; done) | (simp; omega) | exact Nat.le_refl _) _ | assumption | exact Below.refl _ _ | refine below_drewN ?_ _ | refine Below.al ?_ (by first | with_reducible exact Nat.le_refl _ | omega | (simp; done) | (simp; omega) | exact Nat.le_refl _) _ | refine Below.setCell ?_ (by first | with_reducible exact Nat.le_refl _ | omega | (simp; done) | (simp; omega) | exact Nat.le_refl _) _))
  have c0 : W.cell? ⟨w.heap.size, 0, none⟩ = some (.string s) := by rw [hW]; first | (go_simp; done) | (simp [World.cell?]; done)
  have c1 : W.cell? ⟨w.heap.size, 1, none⟩ = some (.slice a n c) := by rw [hW]; first | (go_simp; done) | (simp [World.cell?]; done)
  have hz : w.heap.size + 1 ≤ W.heap.size := by rw [hW]; simp
  have ho : Own (w.heap.size + 1) W none 0 0 [] := own_nil _ _
  have HW := hid (And.intro hW (And.intro hBW (And.intro hI ho))); clear hW hBW hI ho
  go_enter Try.func16, Try.ntmps16
  go_upto_region 2 with fail
  rw [← HW.out.1]
  go_wp2_with fail
  go_loopw [3, 4] (fun v i wr => ∃ (k : Nat) (ao : Option Addr) (m co : Nat), i = .int .i64 k ∧ v = .slice ao m co ∧ k ≤ 5 ∧ Own (w.heap.size + 1) wr ao m co (avTo xs k) ∧ Below (w.heap.size + 1) W wr) (fun _ i _ => 5 - (intOf i).toNat)
  case atStart => exact ⟨0, _, 0, 0, rfl, rfl, by omega, HW.out.2.2.2, Below.refl _ _⟩
  case round =>
    obtain ⟨k, ao, m, co, rfl, rfl, hk, hown, hbel⟩ := hrel
    have hm : m ≤ k := by have g1 := hown.len; have g2 := avTo_len xs k; omega
    have hzw := hbel.size
    have hbw : Below w.heap.size w wr := HW.out.2.1.trans (hbel.mono (by omega))
    have k0 : wr.cell? ⟨w.heap.size, 0, none⟩ = some (.string s) := by rw [hbel.cell (p := ⟨w.heap.size, 0, none⟩) (by simp)]; exact c0
    have k1 : wr.cell? ⟨w.heap.size, 1, none⟩ = some (.slice a n c) := by rw [hbel.cell (p := ⟨w.heap.size, 1, none⟩) (by simp)]; exact c1
    have HO := hid hown
    have HB := hid (And.intro hbel hbw)
    have HIr := hid (beInts HW.out.2.2.1 hbw hh)
    clear hown hbel hbw
    by_cases hlt : k < 5
    · obtain ⟨eb, heb⟩ : ∃ eb, occ xs k = eb := ⟨_, rfl⟩
      have HEB := hid heb; clear heb
      have hI64 : I64 (k : Int) := by unfold I64; omega
      have HI64 := hid hI64; clear hI64
      cases eb with
      | true =>
        go_wp2_with fail
        refine (implHasVar s a n c xs k _ HIr.out (by omega)).mono ?_
        rintro e w3 ⟨rfl, hb3⟩
        rw [HEB.out]
        have hz3 := hb3.size
        have HO3 := hid (HO.out.keep (Keeps.of_below hb3 (Nat.le_refl _)))
        have HB3 := hid (HB.out.1.trans (hb3.mono (by omega)))
        clear hb3
        go_wp2_with (at_builtin; refine wpApp rfl (.tmp 12) (.tmp 14) rfl (w.heap.size + 1) ao m co _ rfl (HO3.out.alloc _) _ 1 1 _ rfl (one_ints _ _ _ HI64.out) (by omega) (by simp; omega) ?_)
        intro a1 c1' w5 ho2 hg2
        have hb2 : Below (w.heap.size + 1) W w5 := ho0' HO3.out HB3.out (by omega) hg2
        have HO2 := hid ho2; clear ho2
        have HB2 := hid hb2; clear hb2 hg2
        go_wp2
        go_roundw
        case rel => exact ⟨k + 1, a1, m + 1, c1', by go_num, rfl, by omega, by rw [avTo_put HEB.out]; exact HO2.out, HB2.out⟩
        case measure => simp [intOf]; omega
      | false =>
        go_wp2_with fail
        refine (implHasVar s a n c xs k _ HIr.out (by omega)).mono ?_
        rintro e w3 ⟨rfl, hb3⟩
        rw [HEB.out]
        have hz3 := hb3.size
        have HO3 := hid (HO.out.keep (Keeps.of_below hb3 (Nat.le_refl _)))
        have HB3 := hid (HB.out.1.trans (hb3.mono (by omega)))
        clear hb3
        go_wp2_with fail
        go_roundw
        case rel => exact ⟨k + 1, ao, m, co, by go_num, rfl, by omega, by rw [avTo_keep HEB.out]; exact HO3.out, HB3.out⟩
        case measure => simp [intOf]; omega
    · go_wp2_with fail
      go_ret
      obtain rfl : k = 5 := by omega
      exact ⟨_, _, _, rfl, HO.out.low (by omega), HB.out.2⟩
set_option maxHeartbeats 1600000 in
theorem specAtomVars {fz : Bool} {lo hi : Nat} (s : ByteArray) (a : Option Addr) (n c : Nat) (xs : List Int) (w : World) (hI : IntsA fz lo hi w a n c xs) (hh : hi ≤ w.heap.size) :
    Calls Try.prog 24 #[atomV s a n c] w (GivesOwn w (avTo xs 5)) := by
  obtain ⟨W, hW⟩ : ∃ W, W = (w.alloc (.cells #[.string s, .slice a n c] 32)).alloc (.cells #[] 3) := ⟨_, rfl⟩
  have hBW : Below w.heap.size w W := by rw [hW]; exact (by repeat (first | with_reducible assumption | with_reducible exact Below.refl _ _ | with_reducible refine below_drewN ?_ _ | with_reducible refine Below.al ?_ (by first | with_reducible exact Nat.le_refl _ | omega | (simp; done) | (simp; omega) | exact Nat.le_refl _) _ | with_reducible refine Below.setCell ?_ (by first | with_reducible exact Nat.le_refl _ | omega | (simp; done) | (simp; omega) | exact Nat.le_refl _) _ | assumption | exact Below.refl _ _ | refine below_drewN ?_ _ | refine Below.al ?_ (by first | with_reducible exact Nat.le_refl _ | omega | (simp; done) | (simp; omega) | exact Nat.le_refl _) _ | refine Below.setCell ?_ (by first | with_reducible exact Nat.le_refl _ | omega | (simp; done) | (simp; omega) | exact Nat.le_refl _) _))
  have c0 : W.cell? ⟨w.heap.size, 0, none⟩ = some (.string s) := by rw [hW]; first | (go_simp; done) | (simp [World.cell?]; done)
  have c1 : W.cell? ⟨w.heap.size, 1, none⟩ = some (.slice a n c) := by rw [hW]; first | (go_simp; done) | (simp [World.cell?]; done)
  have hz : w.heap.size + 1 ≤ W.heap.size := by rw [hW]; simp
  have ho : Own (w.heap.size + 1) W (some ⟨w.heap.size + 1, 0, none⟩) 0 0 [] := own_empty2 _ _ _ (Nat.le_refl _) (by rw [hW]; exact al1a _ _ _)
  have HW := hid (And.intro hW (And.intro hBW (And.intro hI ho))); clear hW hBW hI ho
  go_enter Try.func24, Try.ntmps24
  go_upto_region 2 with fail
  rw [← HW.out.1]
  go_wp2_with fail
  go_loopw [3, 4] (fun v i wr => ∃ (k : Nat) (ao : Option Addr) (m co : Nat), i = .int .i64 k ∧ v = .slice ao m co ∧ k ≤ 5 ∧ Own (w.heap.size + 1) wr ao m co (avTo xs k) ∧ Below (w.heap.size + 1) W wr) (fun _ i _ => 5 - (intOf i).toNat)
  case atStart => exact ⟨0, _, 0, 0, rfl, rfl, by omega, HW.out.2.2.2, Below.refl _ _⟩
  case round =>
    obtain ⟨k, ao, m, co, rfl, rfl, hk, hown, hbel⟩ := hrel
    have hm : m ≤ k := by have g1 := hown.len; have g2 := avTo_len xs k; omega
    have hzw := hbel.size
    have hbw : Below w.heap.size w wr := HW.out.2.1.trans (hbel.mono (by omega))
    have k0 : wr.cell? ⟨w.heap.size, 0, none⟩ = some (.string s) := by rw [hbel.cell (p := ⟨w.heap.size, 0, none⟩) (by simp)]; exact c0
    have k1 : wr.cell? ⟨w.heap.size, 1, none⟩ = some (.slice a n c) := by rw [hbel.cell (p := ⟨w.heap.size, 1, none⟩) (by simp)]; exact c1
    have HO := hid hown
    have HB := hid (And.intro hbel hbw)
    have HIr := hid (beInts HW.out.2.2.1 hbw hh)
    clear hown hbel hbw
    by_cases hlt : k < 5
    · obtain ⟨eb, heb⟩ : ∃ eb, occ xs k = eb := ⟨_, rfl⟩
      have HEB := hid heb; clear heb
      have hI64 : I64 (k : Int) := by unfold I64; omega
      have HI64 := hid hI64; clear hI64
      cases eb with
      | true =>
        go_wp2_with fail
        refine (specHasVar s a n c xs k _ HIr.out (by omega)).mono ?_
        rintro e w3 ⟨rfl, hb3⟩
        rw [HEB.out]
        have hz3 := hb3.size
        have HO3 := hid (HO.out.keep (Keeps.of_below hb3 (Nat.le_refl _)))
        have HB3 := hid (HB.out.1.trans (hb3.mono (by omega)))
        clear hb3
        go_wp2_with (at_builtin; refine wpApp rfl (.tmp 13) (.tmp 15) rfl (w.heap.size + 1) ao m co _ rfl (HO3.out.alloc _) _ 1 1 _ rfl (one_ints _ _ _ HI64.out) (by omega) (by simp; omega) ?_)
        intro a1 c1' w5 ho2 hg2
        have hb2 : Below (w.heap.size + 1) W w5 := ho0' HO3.out HB3.out (by omega) hg2
        have HO2 := hid ho2; clear ho2
        have HB2 := hid hb2; clear hb2 hg2
        go_wp2
        go_roundw
        case rel => exact ⟨k + 1, a1, m + 1, c1', by go_num, rfl, by omega, by rw [avTo_put HEB.out]; exact HO2.out, HB2.out⟩
        case measure => simp [intOf]; omega
      | false =>
        go_wp2_with fail
        refine (specHasVar s a n c xs k _ HIr.out (by omega)).mono ?_
        rintro e w3 ⟨rfl, hb3⟩
        rw [HEB.out]
        have hz3 := hb3.size
        have HO3 := hid (HO.out.keep (Keeps.of_below hb3 (Nat.le_refl _)))
        have HB3 := hid (HB.out.1.trans (hb3.mono (by omega)))
        clear hb3
        go_wp2_with fail
        go_roundw
        case rel => exact ⟨k + 1, ao, m, co, by go_num, rfl, by omega, by rw [avTo_keep HEB.out]; exact HO3.out, HB3.out⟩
        case measure => simp [intOf]; omega
    · go_wp2_with fail
      go_ret
      obtain rfl : k = 5 := by omega
      exact ⟨_, _, _, rfl, HO.out.low (by omega), HB.out.2⟩
end Go.Proofs.Ytalfldflnacpeaa
