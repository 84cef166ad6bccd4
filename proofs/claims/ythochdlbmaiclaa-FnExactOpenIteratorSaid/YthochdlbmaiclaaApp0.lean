/- append([]T{}, xs...): a copy in a block of its own. -/
import Derived.Test.YthochdlbmaiclaaRV
import Derived.Test.YthochdlbmaiclaaSep
import Derived.Test.YthochdlbmaiclaaGrow
namespace Go.Proofs.Ythochdlbmaiclaa
set_option linter.unusedSimpArgs false
set_option linter.unusedVariables false
open Go.RowKit
/-- the value is a slice of length n whose data the blocks from s on and below t hold -/
def pDat {α : Type} (Q : RowP α) (n : Nat) (x : α) : PropV := fun v s t w' => t ≤ w'.heap.size ∧ HeadI w' s t ∧ ∃ a' c', v = .slice a' n c' ∧ Q s t w' a' n c' x
theorem pDat_st {α : Type} {Q : RowP α} (ok : RowPOK Q) (n : Nat) (x : α) : StableP (pDat Q n x) :=
  fun _ _ _ _ _ ⟨h0, hd, a', c', h1, h2⟩ hb => ⟨Nat.le_trans h0 hb.size, hd.keep (Keeps.of_below hb h0) (Nat.le_refl _) (Nat.le_refl _), a', c', h1, ok.keep h2 (Keeps.of_below hb h0)⟩
theorem run_append_empty {t e k bytes : Nat} (ht : ElemF t e k bytes) {lo hi : Nat} {w : World} (ty : TypeId) (g : Nat) (hg : w.heap[g]? = some (.cells #[] e (0, 0)))
    (ao : Option Addr) (m c : Nat) (us : List Value) (hI : FlatA k lo hi w ao m c us) (hb : m ≤ 16777216) :
    ∃ a' c' w', (Builtin.append_ #[t, t] ty #[.slice (some ⟨g, 0, none⟩) 0 0, .slice ao m c]).run Try.prog w = .ok (.slice a' m c') w' ∧ Below w.heap.size w w' ∧ (0 < m → OwnF e k w.heap.size w' a' m c' us) ∧ m ≤ c' ∧ c' ≤ maxLen ∧ (a' = none → c' = 0) := by
  obtain ⟨i0, z, hi0, hz0, hz1, hz2, hz3⟩ := ht.info
  have hgl : g < w.heap.size := (Array.getElem?_eq_some_iff.1 hg).1
  have hown : OwnF e k g w (some ⟨g, 0, none⟩) 0 0 [] := ownF_empty e k w g g (Nat.le_refl _) hg
  by_cases hm : m = 0
  · subst hm
    have hus : us = [] := List.eq_nil_of_length_eq_zero (by have := hI.len; simpa using this)
    subst hus
    cases ao with
    | none =>
      have hc0 := hI.2.2.2.2.2 rfl
      subst hc0
      exact ⟨_, _, w, run_append_owned_none (P := Try.prog) (w := w) g t ty e i0 k ht.under hi0 _ 0 _ hown.1, Below.refl _ _, fun h => by omega, Nat.le_refl _, by simp [maxLen], fun h => nomatch h⟩
    | some ad =>
      have hr := run_append_room (P := Try.prog) w t ty e i0 ht.under hi0 g 0 0 #[] hg ad 0 c [] (by simp) (fun j u hj => by simp at hj) (fun u hu => nomatch hu) (by omega) (by simp)
      refine ⟨_, _, _, hr, ⟨rfl, rfl, rfl, by simp, fun j hj => ?_⟩, fun h => by omega, Nat.le_refl _, by simp [maxLen], fun h => nomatch h⟩
      by_cases e' : j = g
      · subst e'
        rw [setRow_heap w j #[] _ e _ hg, hg]; simp
      · exact setRow_other w g j _ e'
  · cases ao with
    | none => exact absurd (by have h1 := hI.2.2.2.2.2 rfl; have h2 := hI.2.1; omega) hm
    | some ad =>
      obtain ⟨a1, c1, w1, hr1, ho1, _⟩ := run_append_flat ht ty g _ 0 0 [] hown (some ad) m c us hI (by omega) (by omega)
      have hr2 := run_append_grow (P := Try.prog) w t ty e i0 z ht.under hi0 hz0 ⟨g, 0, none⟩ 0 0 [] (by simp) (fun j v hj => by simp at hj) ad m c us (by rw [hz1]; exact hI.len) (fun j u hj => by
        obtain ⟨b, off, hab, _, _, hcell⟩ := hI.open (by omega)
        obtain rfl : ad = ⟨b, off, none⟩ := by simpa using hab
        rw [Addr.add_lit]; exact hcell j u hj) (by omega) (by omega) (by
          rw [Nat.zero_add, nextslicecap_zero (by omega)]
          have h1 := ht.small
          have h2 : m * i0.bytes ≤ 16777216 * 4096 := by rw [hz2]; exact Nat.mul_le_mul hb h1
          omega)
      rw [hr1] at hr2
      simp only [Result.ok.injEq, Value.slice.injEq] at hr2
      obtain ⟨⟨ha, _, hc⟩, hw⟩ := hr2
      rw [List.nil_append, Nat.zero_add] at ho1
      rw [Nat.zero_add] at hr1
      refine ⟨a1, c1, w1, hr1, ?_, fun _ => ?_, ho1.flat.2.1, ho1.flat.2.2.1, ho1.flat.2.2.2.2.2⟩
      · rw [hw]
        exact (⟨rfl, rfl, rfl, Nat.le_refl _, fun _ _ => rfl⟩ : Below w.heap.size w w.drew).alloc (Nat.le_refl _) _
      · refine ⟨⟨ho1.1.1, ?_⟩, ho1.2⟩
        rcases ho1.1.2 with ⟨h, _⟩ | ⟨g', cap, cur, hv, _, rest⟩
        · simp only [Value.slice.injEq] at h; omega
        · have hv' := hv
          simp only [Value.slice.injEq] at hv
          rw [ha] at hv
          simp only [Option.some.injEq, Addr.mk.injEq, and_true] at hv
          exact .inr ⟨g', cap, cur, hv', by omega, rest⟩
end Go.Proofs.Ythochdlbmaiclaa
