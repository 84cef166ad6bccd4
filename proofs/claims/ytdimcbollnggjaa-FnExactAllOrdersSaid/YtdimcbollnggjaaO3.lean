/- All orders, in the form of the law's walk. -/
import Derived.Test.YtdimcbollnggjaaO2
import Derived.Test.YtdimcbollnggjaaBQ
namespace Go.Proofs.Ytdimcbollnggjaa
set_option linter.unusedSimpArgs false
set_option linter.unusedVariables false
open Go.RowKit
section
variable {fz : Bool} {lo hi : Nat} {w : World} {nv : Int} {a : Option Addr} {n c : Nat} {xs : List AtomD} {ua : Option Addr} {un uc : Nat} {us : List Int}
theorem specAll (h : QueryA fz lo hi w nv a n c xs ua un uc us) (hh : hi ≤ w.heap.size) (hlw : lo ≤ w.heap.size) : Calls Try.prog 5 #[queryV nv a n c ua un uc] w (GvRowsR lo w (aoF nv xs us)) :=
  rows_read (specAllA nv xs us (nm_of h.2.1)) (vs := [queryV nv a n c ua un uc]) (fun G hG => ⟨_, _, rfl, query_cvs h hh (Nat.le_refl _) G hG, rfl⟩) hlw
theorem ao_same (nv : Int) (xs : List AtomD) (us : List Int) : SameL nv.toNat (aoF nv xs us) := fun x hx => by
  unfold aoF at hx
  split at hx
  · exact (lev_in _ _ x hx).1
  · cases hx
theorem ao_ne (nv : Int) (xs : List AtomD) (us : List Int) : ∀ i j, i < (aoF nv xs us).length → j < (aoF nv xs us).length → i ≠ j → rx (aoF nv xs us) i ≠ rx (aoF nv xs us) j := by
  unfold aoF
  split
  · exact nodup_ne (lev_nd _ _)
  · intro i j hi; simp at hi
theorem implAll (h : QueryA fz lo hi w nv a n c xs ua un uc us) (hh : hi ≤ w.heap.size) : Calls Try.prog 7 #[queryV nv a n c ua un uc] w (GvRowsS w (aoF nv xs us)) :=
  rows_own (implAllA nv xs us (nm_of h.2.1)) (vs := [queryV nv a n c ua un uc]) (ao_same nv xs us) (ao_ne nv xs us) (fun G hG => ⟨_, _, rfl, query_cvs h hh (Nat.zero_le _) G hG, rfl⟩)
end
theorem lens_le {rows : List (List Int)} {m : Nat} (h : SameL m rows) : ∀ j, j ≤ rows.length → lens rows j ≤ j * m
  | 0, _ => by simp [lens]
  | j + 1, hj => by
    have := lens_le h j (by omega)
    have h5 := h (rx rows j) (by rw [rx_lt (by omega)]; exact List.getElem_mem _)
    simp only [lens, Nat.add_mul, Nat.one_mul]; omega
theorem ao_sz (nv : Int) (xs : List AtomD) (us : List Int) : rowsSz (aoF nv xs us) ≤ 1048576 := by
  have h := lens_le (ao_same nv xs us) _ (Nat.le_refl _)
  have h2 : (aoF nv xs us).length ≤ 3125 ∧ ((aoF nv xs us).length = 0 ∨ nv.toNat ≤ 5) := by
    unfold aoF
    split
    · rename_i hq
      obtain ⟨⟨⟨hnv0, hnv⟩, _, _⟩, _⟩ := qOK_out hq
      exact ⟨lev_len (by omega) (by omega), .inr (by omega)⟩
    · exact ⟨by simp, .inl rfl⟩
  unfold rowsSz
  rcases h2.2 with h3 | h3
  · rw [h3] at h ⊢; omega
  · have := Nat.mul_le_mul h2.1 h3
    omega
end Go.Proofs.Ytdimcbollnggjaa
