/- Walks: valid big numbers, big numbers out of numbers. Written by nums.py. -/
import Derived.Test.YtjfhjlbofoknfaaN1
import Derived.Test.YtjfhjlbofoknfaaMs
import Derived.Test.YtjfhjlbofoknfaaQ3
import Derived.Deep.DeepCutAuto
import Derived.Deep.CutBlock
namespace Go.Proofs.Ytjfhjlbofoknfaa
set_option linter.unusedSimpArgs false
set_option linter.unusedVariables false
open Go.RowKit
/-- the value of a struct of one list -/
abbrev bigV (a : Option Addr) (n c : Nat) : Value := .agg #[.slice a n c]
theorem intsAt' {fz : Bool} {lo hi : Nat} {w : World} {a : Option Addr} {n c : Nat} {xs : List Int} (h : IntsA fz lo hi w a n c xs) {i : Nat} (hi' : i < n) :
    ∃ b off, a = some ⟨b, off, none⟩ ∧ w.cell? ⟨b, off + i, none⟩ = some (.int .i64 (ix xs i)) ∧ I64 (ix xs i) := by
  obtain ⟨b, off, rfl, _, _, hc, _⟩ := h.open (by omega)
  exact ⟨b, off, rfl, hc i hi', h.at hi'⟩
set_option maxRecDepth 100000 in
set_option maxHeartbeats 3200000 in
theorem implValidBig {fz : Bool} {lo hi : Nat} (a : Option Addr) (n c : Nat) (xs : List Int) (w : World) (hI : IntsA fz lo hi w a n c xs) (hh : hi ≤ w.heap.size) :
    Calls Try.prog 31 #[bigV a n c] w (Leaves w (.bool (bigOK xs))) := by
  have hl := hI.len; have hs := hI.small
  obtain ⟨W, hW⟩ : ∃ W, W = w.alloc (.cells #[.slice a n c] 36) := ⟨_, rfl⟩
  have hBW : Below w.heap.size w W := by rw [hW]; exact (by repeat (first | with_reducible assumption | with_reducible exact Below.refl _ _ | with_reducible refine below_drewN ?_ _ | with_reducible refine Below.al ?_ (by first | with_reducible exact Nat.le_refl _ | omega | (simp; done) | (simp; omega) | exact Nat.le_refl _) _ | with_reducible refine Below.setCell ?_ (by first | with_reducible exact Nat.le_refl _ | omega | (simp; done) | (simp; omega) | exact Nat.le_refl _) _ | assumption | exact Below.refl _ _ | refine below_drewN ?_ _ | refine Below.al ?_ (by first | with_reducible exact Nat.le_refl _ | omega | (simp; done) | (simp; omega) | exact Nat.le_refl _) _ | refine Below.setCell ?_ (by first | with_reducible exact Nat.le_refl _ | omega | (simp; done) | (simp; omega) | exact Nat.le_refl _) _))
  have c0 : W.cell? ⟨w.heap.size, 0, none⟩ = some (.slice a n c) := by rw [hW]; simp
  have HI := hid (hI.be hBW hh); have HBW := hid hBW; have HL := hid hl; clear hI hBW hl
  have HWW := hid hW; clear hW
  go_enter Try.func31, Try.ntmps31
  go_upto_region 1 with fail
  rw [← HWW.out]
  go_wp2_with fail
  go_loopw [12] (fun i wr => ∃ k : Nat, i = .int .i64 k ∧ k ≤ n ∧ Hid (∀ j, j < k → 0 ≤ ix xs j ∧ ix xs j ≤ 9) ∧ (∃ m, wr = W.drewN m)) (fun i _ => n - (intOf i).toNat)
  case atStart => exact ⟨0, rfl, by omega, hid (fun i h => by omega), 0, rfl⟩
  case round =>
    obtain ⟨k, rfl, hk, HT, m, rfl⟩ := hrel
    by_cases hlt : k < n
    · have hbg : decide ((k : Int) < (n : Int)) = true := by simp; omega
      obtain ⟨b, off, rfl, d0, _⟩ := intsAt' HI.out hlt
      generalize hx : ix xs k = x at *
      have HX := hid hx; clear hx
      by_cases he : 0 ≤ x ∧ x ≤ 9
      · have HC : Hid (∀ w', Calls Try.prog 42 #[.int .i64 x, .int .i64 0, .int .i64 9] w' (Gives w' (.bool true))) := hid (fun w' => by have := implWithin x 0 9 w'; rwa [show decide (0 ≤ x ∧ x ≤ 9) = true by simpa using he] at this)
        have HT2 : Hid (∀ j, j < k + 1 → 0 ≤ ix xs j ∧ ix xs j ≤ 9) := hid (fun j h => by
          by_cases e : j = k
          · subst e; rw [HX.out]; exact he
          · exact HT.out j (by omega))
        have HE := hid he; clear he
        go_wp2_with fail
        refine (HC.out _).mono ?_
        rintro e w1 ⟨rfl, m1, rfl⟩
        go_wp2_with fail
        go_roundw
        case rel => exact ⟨k + 1, by go_num, by omega, HT2, _, rfl⟩
        case measure => simp [intOf]; omega
      · have HC : Hid (∀ w', Calls Try.prog 42 #[.int .i64 x, .int .i64 0, .int .i64 9] w' (Gives w' (.bool false))) := hid (fun w' => by have := implWithin x 0 9 w'; rwa [show decide (0 ≤ x ∧ x ≤ 9) = false by simpa using he] at this)
        have HF := hid (bigOK_bad (ds := xs) (i := k) (by rw [HL.out]; exact hlt) (by rw [HX.out]; exact he))
        have HE := hid he; clear he
        go_wp2_with fail
        refine (HC.out _).mono ?_
        rintro e w1 ⟨rfl, m1, rfl⟩
        go_wp2_with fail
        go_ret
        exact ⟨by rw [HF.out]; rfl, below_drewN HBW.out _⟩
    · have hbg : decide ((k : Int) < (n : Int)) = false := by simp; omega
      obtain rfl : n = k := by omega
      have HF := hid (bigOK_eq (ds := xs) (by rw [HL.out]; exact HT.out))
      rw [HL.out] at HF
      by_cases h60 : n ≤ 60
      · have hb1 : decide ((n : Int) ≤ 60) = true := by simp; omega
        by_cases h0 : n = 0
        · have hb2 : ((n : Int) == 0) = true := by simp [h0]
          have H0 := hid (And.intro h60 h0); clear h60 h0
          go_wp2_with fail
          go_ret
          exact ⟨by rw [HF.out]; simp [H0.out.1, H0.out.2], below_drewN HBW.out _⟩
        · obtain ⟨l, rfl⟩ : ∃ l, n = l + 1 := ⟨n - 1, by omega⟩
          have hb2 : (((l : Int) + 1) == 0) = false := by simp; omega
          obtain ⟨b, off, rfl, d0, _⟩ := intsAt' HI.out (show l < l + 1 by omega)
          have hw1 : IntKind.i64.wrap ((l : Int) + 1 - 1) = l := by rw [show (l : Int) + 1 - 1 = l by omega]; exact IntWalk.i64_in _ (by omega)
          have hw2 : (l : Int) < (l : Int) + 1 := by omega
          generalize hx : ix xs l = x at *
          have HX := hid hx; clear hx
          have hb3 : (l : Int) + 1 ≤ 60 := by omega
          have hb4 : decide ((l : Int) + 1 ≤ 60) = true := by simp; omega
          have hb5 : (l : Int) ≤ 59 := by omega
          have H0 := hid (And.intro h60 h0); clear h60 h0
          by_cases hz : x = 0
          · have hz1 : (x != 0) = false := by simp [hz]
            have HZ := hid hz; clear hz
            go_wp2_with fail
            go_ret
            exact ⟨by rw [HF.out]; simp [H0.out.1, HX.out, HZ.out], below_drewN HBW.out _⟩
          · have hz1 : (x != 0) = true := by simp [hz]
            have HZ := hid hz; clear hz
            go_wp2_with fail
            go_ret
            exact ⟨by rw [HF.out]; simp [H0.out.1, HX.out, HZ.out], below_drewN HBW.out _⟩
      · have hb1 : decide ((n : Int) ≤ 60) = false := by simp; omega
        have H0 := hid h60; clear h60
        go_wp2_with fail
        go_ret
        exact ⟨by rw [HF.out]; simp [H0.out], below_drewN HBW.out _⟩
set_option maxRecDepth 100000 in
set_option maxHeartbeats 3200000 in
theorem specValidBig {fz : Bool} {lo hi : Nat} (a : Option Addr) (n c : Nat) (xs : List Int) (w : World) (hI : IntsA fz lo hi w a n c xs) (hh : hi ≤ w.heap.size) :
    Calls Try.prog 41 #[bigV a n c] w (Leaves w (.bool (bigOK xs))) := by
  have hl := hI.len; have hs := hI.small
  obtain ⟨W, hW⟩ : ∃ W, W = w.alloc (.cells #[.slice a n c] 36) := ⟨_, rfl⟩
  have hBW : Below w.heap.size w W := by rw [hW]; exact (by repeat (first | with_reducible assumption | with_reducible exact Below.refl _ _ | with_reducible refine below_drewN ?_ _ | with_reducible refine Below.al ?_ (by first | with_reducible exact Nat.le_refl _ | omega | (simp; done) | (simp; omega) | exact Nat.le_refl _) _ | with_reducible refine Below.setCell ?_ (by first | with_reducible exact Nat.le_refl _ | omega | (simp; done) | (simp; omega) | exact Nat.le_refl _) _ | assumption | exact Below.refl _ _ | refine below_drewN ?_ _ | refine Below.al ?_ (by first | with_reducible exact Nat.le_refl _ | omega | (simp; done) | (simp; omega) | exact Nat.le_refl _) _ | refine Below.setCell ?_ (by first | with_reducible exact Nat.le_refl _ | omega | (simp; done) | (simp; omega) | exact Nat.le_refl _) _))
  have c0 : W.cell? ⟨w.heap.size, 0, none⟩ = some (.slice a n c) := by rw [hW]; simp
  have HI := hid (hI.be hBW hh); have HBW := hid hBW; have HL := hid hl; clear hI hBW hl
  have HWW := hid hW; clear hW
  go_enter Try.func41, Try.ntmps41
  go_upto_region 1 with fail
  rw [← HWW.out]
  go_wp2_with fail
  go_loopw [3] (fun i wr => ∃ k : Nat, i = .int .i64 k ∧ k ≤ n ∧ Hid (∀ j, j < k → 0 ≤ ix xs j ∧ ix xs j ≤ 9) ∧ (∃ m, wr = W.drewN m)) (fun i _ => n - (intOf i).toNat)
  case atStart => exact ⟨0, rfl, by omega, hid (fun i h => by omega), 0, rfl⟩
  case round =>
    obtain ⟨k, rfl, hk, HT, m, rfl⟩ := hrel
    by_cases hlt : k < n
    · have hbg : decide ((k : Int) < (n : Int)) = true := by simp; omega
      obtain ⟨b, off, rfl, d0, _⟩ := intsAt' HI.out hlt
      generalize hx : ix xs k = x at *
      have HX := hid hx; clear hx
      by_cases he : 0 ≤ x ∧ x ≤ 9
      · have HC : Hid (∀ w', Calls Try.prog 44 #[.int .i64 x, .int .i64 0, .int .i64 9] w' (Gives w' (.bool true))) := hid (fun w' => by have := specIn x 0 9 w'; rwa [show decide (0 ≤ x ∧ x ≤ 9) = true by simpa using he] at this)
        have HT2 : Hid (∀ j, j < k + 1 → 0 ≤ ix xs j ∧ ix xs j ≤ 9) := hid (fun j h => by
          by_cases e : j = k
          · subst e; rw [HX.out]; exact he
          · exact HT.out j (by omega))
        have HE := hid he; clear he
        go_wp2_with fail
        refine (HC.out _).mono ?_
        rintro e w1 ⟨rfl, m1, rfl⟩
        go_wp2_with fail
        go_roundw
        case rel => exact ⟨k + 1, by go_num, by omega, HT2, _, rfl⟩
        case measure => simp [intOf]; omega
      · have HC : Hid (∀ w', Calls Try.prog 44 #[.int .i64 x, .int .i64 0, .int .i64 9] w' (Gives w' (.bool false))) := hid (fun w' => by have := specIn x 0 9 w'; rwa [show decide (0 ≤ x ∧ x ≤ 9) = false by simpa using he] at this)
        have HF := hid (bigOK_bad (ds := xs) (i := k) (by rw [HL.out]; exact hlt) (by rw [HX.out]; exact he))
        have HE := hid he; clear he
        go_wp2_with fail
        refine (HC.out _).mono ?_
        rintro e w1 ⟨rfl, m1, rfl⟩
        go_wp2_with fail
        go_ret
        exact ⟨by rw [HF.out]; rfl, below_drewN HBW.out _⟩
    · have hbg : decide ((k : Int) < (n : Int)) = false := by simp; omega
      obtain rfl : n = k := by omega
      have HF := hid (bigOK_eq (ds := xs) (by rw [HL.out]; exact HT.out))
      rw [HL.out] at HF
      by_cases h60 : n ≤ 60
      · have hb1 : decide ((n : Int) ≤ 60) = true := by simp; omega
        by_cases h0 : n = 0
        · have hb2 : ((n : Int) == 0) = true := by simp [h0]
          have H0 := hid (And.intro h60 h0); clear h60 h0
          go_wp2_with fail
          go_ret
          exact ⟨by rw [HF.out]; simp [H0.out.1, H0.out.2], below_drewN HBW.out _⟩
        · obtain ⟨l, rfl⟩ : ∃ l, n = l + 1 := ⟨n - 1, by omega⟩
          have hb2 : (((l : Int) + 1) == 0) = false := by simp; omega
          obtain ⟨b, off, rfl, d0, _⟩ := intsAt' HI.out (show l < l + 1 by omega)
          have hw1 : IntKind.i64.wrap ((l : Int) + 1 - 1) = l := by rw [show (l : Int) + 1 - 1 = l by omega]; exact IntWalk.i64_in _ (by omega)
          have hw2 : (l : Int) < (l : Int) + 1 := by omega
          generalize hx : ix xs l = x at *
          have HX := hid hx; clear hx
          have hb3 : (l : Int) + 1 ≤ 60 := by omega
          have hb4 : decide ((l : Int) + 1 ≤ 60) = true := by simp; omega
          have hb5 : (l : Int) ≤ 59 := by omega
          have H0 := hid (And.intro h60 h0); clear h60 h0
          by_cases hz : x = 0
          · have hz1 : (x != 0) = false := by simp [hz]
            have HZ := hid hz; clear hz
            go_wp2_with fail
            go_ret
            exact ⟨by rw [HF.out]; simp [H0.out.1, HX.out, HZ.out], below_drewN HBW.out _⟩
          · have hz1 : (x != 0) = true := by simp [hz]
            have HZ := hid hz; clear hz
            go_wp2_with fail
            go_ret
            exact ⟨by rw [HF.out]; simp [H0.out.1, HX.out, HZ.out], below_drewN HBW.out _⟩
      · have hb1 : decide ((n : Int) ≤ 60) = false := by simp; omega
        have H0 := hid h60; clear h60
        go_wp2_with fail
        go_ret
        exact ⟨by rw [HF.out]; simp [H0.out], below_drewN HBW.out _⟩
end Go.Proofs.Ytjfhjlbofoknfaa
