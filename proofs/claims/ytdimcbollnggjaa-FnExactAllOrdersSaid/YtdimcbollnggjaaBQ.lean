/- Queries as arguments, in the form of the laws' walks. -/
import Derived.Test.YtdimcbollnggjaaBR
import Derived.Test.YtdimcbollnggjaaG2
import Derived.Test.YtdimcbollnggjaaAQ
namespace Go.Proofs.Ytdimcbollnggjaa
set_option linter.unusedSimpArgs false
set_option linter.unusedVariables false
open Go.RowKit
theorem CXk.mk {C : Nat → Nat → Prop} {w : World} {k : Nat} : ∀ {m : List DV} {us : List Value}, us.length = m.length * k → (∀ i x, m[i]? = some x → CX C w x ((us.drop (i * k)).take k)) → CXk C w k m us
  | [], us, h, _ => List.eq_nil_of_length_eq_zero (by simpa using h)
  | x :: m, us, h, hh => by
    have e : (x :: m).length * k = k + m.length * k := by rw [List.length_cons, Nat.add_mul, Nat.one_mul, Nat.add_comm]
    rw [e] at h
    refine ⟨us.take k, us.drop k, (List.take_append_drop k us).symm, by simpa using hh 0 x rfl, by rw [List.length_take]; omega, CXk.mk (by rw [List.length_drop, h]; omega) fun i y hy => ?_⟩
    have := hh (i + 1) y (by simpa using hy)
    rw [List.drop_drop]
    rwa [show (i + 1) * k = k + i * k by rw [Nat.add_mul, Nat.one_mul, Nat.add_comm]] at this
theorem atoms_cxc {C : Nat → Nat → Prop} {fz : Bool} {lo hi : Nat} {w : World} {a : Option Addr} {n c : Nat} {xs : List AtomD} (h : AtomsA fz lo hi w a n c xs) (hC : ∀ b i, lo ≤ b → b < hi → w.cell? ⟨b, i, none⟩ ≠ none → C b i) : CX C w (.sl 2 (xs.map atomDV)) [.slice a n c] := by
  have hl := h.len
  by_cases hn : n = 0
  · subst hn
    obtain rfl : xs = [] := List.eq_nil_of_length_eq_zero hl
    exact ⟨a, 0, c, [], rfl, rfl, rfl, rfl, h.2.1, h.2.2.1, h.2.2.2.2, fun _ h => (nomatch h), fun h => absurd h (Nat.lt_irrefl 0)⟩
  · obtain ⟨b, off, rfl⟩ := atomsSome h (by omega)
    have hv : ∀ i, i < n * 2 → ∃ u, w.cell? ⟨b, off + i, none⟩ = some u ∧ u.oneCell' = true := fun i hi => by
      obtain ⟨_, _, _, ra, rn, rc, g1, g2, _⟩ := atomsAt h (show i / 2 < n by omega)
      rcases Nat.mod_two_eq_zero_or_one i with e | e
      · exact ⟨.string (ax xs (i / 2)).nm, by rw [← g1]; congr 2; omega, rfl⟩
      · exact ⟨.slice ra rn rc, by rw [← g2]; congr 2; omega, rfl⟩
    have hvs : ∀ i u, ((List.range (n * 2)).map (fun i => (w.cell? ⟨b, off + i, none⟩).getD undef))[i]? = some u → i < n * 2 ∧ w.cell? ⟨b, off + i, none⟩ = some u ∧ u.oneCell' = true := fun i u hu => by
      have hi : i < n * 2 := by have := (List.getElem?_eq_some_iff.1 hu).1; simpa using this
      obtain ⟨x, hx, h1⟩ := hv i hi
      rw [List.getElem?_map, List.getElem?_range hi, Option.map_some, hx] at hu
      cases hu
      exact ⟨hi, hx, h1⟩
    refine ⟨_, n, c, (List.range (n * 2)).map (fun i => (w.cell? ⟨b, off + i, none⟩).getD undef), rfl, by simpa using hl, CXk.mk (by simp [hl]) fun i x hx => ?_, by simp, h.2.1, h.2.2.1, h.2.2.2.2, fun u hu => ?_, fun _ => ⟨b, off, rfl, fun i u hu => ?_⟩⟩
    · rw [List.getElem?_map] at hx
      have hi : i < xs.length := by
        cases e : xs[i]? with
        | none => rw [e] at hx; cases hx
        | some y => exact (List.getElem?_eq_some_iff.1 e).1
      rw [List.getElem?_eq_getElem hi, Option.map_some, ← ax_lt hi] at hx
      cases hx
      obtain ⟨hb1, hb2, hsz, ra, rn, rc, g1, g2, g3, _⟩ := atomsAt h (show i < n by omega)
      have e : (((List.range (n * 2)).map (fun i => (w.cell? ⟨b, off + i, none⟩).getD undef)).drop (i * 2)).take 2 = [.string (ax xs i).nm, .slice ra rn rc] := by
        apply List.ext_getElem?
        intro j
        rw [List.getElem?_take]
        split
        · rename_i hj
          rw [List.getElem?_drop, List.getElem?_map, List.getElem?_range (by omega), Option.map_some]
          rcases (by omega : j = 0 ∨ j = 1) with rfl | rfl
          · simp [g1]
          · rw [show off + (i * 2 + 1) = off + i * 2 + 1 by omega, g2]; rfl
        · rename_i hj
          rw [List.getElem?_eq_none (by simp; omega)]
      rw [e]
      exact ⟨[.string (ax xs i).nm], _, rfl, rfl, [.slice ra rn rc], [], rfl, ints_cxc g3 hC, rfl⟩
    · obtain ⟨i, hi, rfl⟩ := List.mem_iff_getElem.1 hu
      exact (hvs i _ (List.getElem?_eq_getElem hi)).2.2
    · obtain ⟨h1, h2, _⟩ := hvs i u hu
      obtain ⟨hb1, hb2, _⟩ := atomsAt h (show i / 2 < n by omega)
      exact ⟨hC _ _ hb1 hb2 (by rw [h2]; exact fun x => nomatch x), h2⟩
theorem nm_of {fz : Bool} {lo hi : Nat} {w : World} {a : Option Addr} {n c : Nat} {xs : List AtomD} (h : AtomsA fz lo hi w a n c xs) : NmOK xs := by
  intro x hx
  obtain ⟨i, hi, rfl⟩ := List.mem_iff_getElem.1 hx
  have hl := h.len
  obtain ⟨b, off, rfl⟩ := atomsSome h (by omega)
  have := (atomsAt h (show i < n by omega)).2.2.1
  rwa [ax_lt hi] at this
theorem szQ_len {xs : List AtomD} {us : List Int} {B : Nat} (h : szQuery xs us ≤ B) : xs.length ≤ B := by unfold szQuery atomsSz at h; omega
theorem query_cvs {fz : Bool} {lo hi lo' : Nat} {w : World} {nv : Int} {a : Option Addr} {n c : Nat} {xs : List AtomD} {ua : Option Addr} {un uc : Nat} {us : List Int} (h : QueryA fz lo hi w nv a n c xs ua un uc us) (hh : hi ≤ w.heap.size) (hl : lo' ≤ lo) (G : Gh) (hG : G.C = cellsC lo' w) : CV G w (.d (queryD nv xs us)) (queryV nv a n c ua un uc) :=
  cvAgg.2 ⟨[.int .i64 nv, .slice a n c, .slice ua un uc], ⟨[.int .i64 nv], _, rfl, ⟨rfl, h.1⟩, [.slice a n c], _, rfl, atoms_cxc h.2.1 (fun b i h1 h2 h3 => by rw [hG]; exact ⟨by omega, by omega, h3⟩), [.slice ua un uc], [], rfl, ints_cxc h.2.2 (fun b i h1 h2 h3 => by rw [hG]; exact ⟨by omega, by omega, h3⟩), rfl⟩, rfl⟩
end Go.Proofs.Ytdimcbollnggjaa
