/- Walks: the variables of an atom. -/
import Derived.Test.YtdimcbollnggjaaA1
import Derived.Test.YtdimcbollnggjaaLater
import Derived.Deep.CutBlock
import Derived.Deep.DeepCutAuto
namespace Go.Proofs.Ytdimcbollnggjaa
set_option linter.unusedSimpArgs false
set_option linter.unusedVariables false
open Go.RowKit
/-- whether a number is in a list -/
noncomputable def occ (xs : List Int) (v : Int) : Bool := decide (0 ≤ findF xs v)
theorem occ_at {xs : List Int} {v : Int} {i : Nat} (hi : i < xs.length) (h : ix xs i = v) (hn : ∀ j, j < i → ix xs j ≠ v) : occ xs v = true := by
  unfold occ; rw [findF_eq hi h hn]; simp
theorem occ_none {xs : List Int} {v : Int} (h : ∀ i, i < xs.length → ix xs i ≠ v) : occ xs v = false := by
  unfold occ; rw [findF_none h]; simp
set_option maxHeartbeats 800000 in
theorem specHasVar {fz : Bool} {lo hi : Nat} (s : ByteArray) (a : Option Addr) (n c : Nat) (xs : List Int) (v : Int) (w : World) (hI : IntsA fz lo hi w a n c xs) (hh : hi ≤ w.heap.size) :
    Calls Try.prog 30 #[atomV s a n c, .int .i64 v] w (Leaves w (.bool (occ xs v))) := by
  have hl := hI.len
  have hs := hI.small
  have HL := hid hl; clear hl
  obtain ⟨W, hW⟩ : ∃ W, W = w.alloc (.cells #[.string s, .slice a n c] 53) := ⟨_, rfl⟩
  have hBW : Below w.heap.size w W := by rw [hW]; exact (by repeat (first | with_reducible assumption | with_reducible exact Below.refl _ _ | with_reducible refine below_drewN ?_ _ | with_reducible refine Below.al ?_ (by first | with_reducible exact Nat.le_refl _ | omega | (simp; done) | (simp; omega) | exact Nat.le_refl _) _ | with_reducible refine Below.setCell ?_ (by first | with_reducible exact Nat.le_refl _ | omega | (simp; done) | (simp; omega) | exact Nat.le_refl _) _ | assumption | exact Below.refl _ _ | refine below_drewN ?_ _ | refine Below.al ?_ (by first | with_reducible exact Nat.le_refl _ | omega | (simp; done) | (simp; omega) | exact Nat.le_refl _) _ | refine Below.setCell ?_ (by first | with_reducible exact Nat.le_refl _ | omega | (simp; done) | (simp; omega) | exact Nat.le_refl _) _))
  have c1 : W.cell? ⟨w.heap.size, 1, none⟩ = some (.slice a n c) := by rw [hW]; simp
  have hIW := beInts hI hBW hh
  have HW := hid (And.intro hW hBW); clear hW hBW hI
  go_enter Try.func30, Try.ntmps30
  go_upto_region 1 with fail
  rw [← HW.out.1]
  go_wp2_with fail
  go_loop [5] (fun i => ∃ k : Nat, i = .int .i64 k ∧ k ≤ n ∧ Hid (∀ j, j < k → ix xs j ≠ v)) (fun i => n - (intOf i).toNat)
  case atStart => exact ⟨0, rfl, by omega, hid (fun j hj => by omega)⟩
  case round =>
    obtain ⟨k, rfl, hk, HT⟩ := hrel
    by_cases hlt : k < n
    · obtain ⟨b, off, rfl, _, _, hc, _⟩ := hIW.open (by omega)
      have c2 := hc k hlt
      clear hc
      generalize hx : ix xs k = x at *
      have HX := hid hx; clear hx
      by_cases he : x = v
      · have hb : (x == v) = true := by simp [he]
        have HF := hid (occ_at (xs := xs) (v := v) (i := k) (by rw [HL.out]; exact hlt) (by rw [HX.out]; exact he) HT.out)
        have HE := hid he; clear he
        go_wp2_with fail
        go_ret
        exact ⟨by rw [HF.out]; rfl, HW.out.2⟩
      · have hb : (x == v) = false := by simp [he]
        have HT2 : Hid (∀ j, j < k + 1 → ix xs j ≠ v) := hid (fun j hj => by
          by_cases e : j = k
          · subst e; rw [HX.out]; exact he
          · exact HT.out j (by omega))
        have HE := hid he; clear he
        go_wp2_with fail
        go_round
        case rel => exact ⟨k + 1, by go_num, by omega, HT2⟩
        case measure => simp [intOf]; omega
    · have HF := hid (occ_none (xs := xs) (v := v) (by rw [HL.out]; intro j hj; exact HT.out j (by omega)))
      go_wp2_with fail
      go_ret
      exact ⟨by rw [HF.out]; rfl, HW.out.2⟩
/-- the numbers below k that occur in xs, ascending -/
noncomputable def avTo (xs : List Int) : Nat → List Int
  | 0 => []
  | k + 1 => if occ xs k = true then avTo xs k ++ [(k : Int)] else avTo xs k
theorem avTo_len (xs : List Int) (k : Nat) : (avTo xs k).length ≤ k := by
  induction k with
  | zero => simp [avTo]
  | succ k ih =>
    simp only [avTo]; split
    · simp; omega
    · omega
theorem avTo_put {xs : List Int} {k : Nat} (h : occ xs k = true) : avTo xs (k + 1) = avTo xs k ++ [(k : Int)] := by simp only [avTo]; rw [if_pos h]
theorem avTo_keep {xs : List Int} {k : Nat} (h : occ xs k = false) : avTo xs (k + 1) = avTo xs k := by simp only [avTo]; rw [if_neg (by rw [h]; exact Bool.false_ne_true)]
theorem own_empty2 (w : World) (base g : Nat) (hb : base ≤ g) (hg : w.heap[g]? = some (.cells #[] 3 (0, 0))) : Own base w (some ⟨g, 0, none⟩) 0 0 [] :=
  ⟨⟨rfl, .inr ⟨g, 0, #[], rfl, hb, hg, Nat.le_refl _, by simp [maxLen], rfl, rfl⟩⟩, fun _ h => nomatch h⟩
theorem al1a (W : World) (A B : Obj) : ((W.alloc A).alloc B).heap[W.heap.size + 1]? = some B := by
  have := heap_alloc_new (W.alloc A) B
  simpa using this
end Go.Proofs.Ytdimcbollnggjaa
