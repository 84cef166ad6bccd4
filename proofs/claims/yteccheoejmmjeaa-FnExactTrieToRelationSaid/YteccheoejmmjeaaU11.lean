/- The contracts of functions on relations, in the form of the laws' walks. -/
import Derived.Test.YteccheoejmmjeaaU10
namespace Go.Proofs.Yteccheoejmmjeaa
set_option linter.unusedSimpArgs false
set_option linter.unusedVariables false
open Go.RowKit
/-- what a contract on abstract values says of the world -/
def Out (C0 : Nat → Nat → Prop) (X : AV) (w : World) (e : Ending) (w' : World) : Prop :=
  ∃ v G', e = .returned v ∧ CV G' w' X v ∧ Below w.heap.size w w' ∧ (∀ b i, G'.C b i → b < w'.heap.size) ∧ (∀ b i, G'.C b i → b < w.heap.size → C0 b i) ∧ (∀ b i, G'.C b i → w.heap.size ≤ b → w'.frozen? ⟨b, i, none⟩ = false)
theorem afn_calls {f : FuncId} {args : List AV} {X : AV} (h : AFn f args [] (fun r os => r = X ∧ os = [])) {w : World} {C0 : Nat → Nat → Prop} (hC0 : ∀ b i, C0 b i → b < w.heap.size) {vs : List Value} (hv : ∀ G : Gh, G.C = C0 → CVs G w args vs) : Calls Try.prog f vs.toArray w (Out C0 X w) := by
  refine (h.2 w ⟨C0, fun _ => .slice none 0 0, fun _ => 0, fun _ => 0, fun _ => 0⟩ vs (hv _ rfl) hC0 (fun i l hl => by simp at hl) (fun i j hi => absurd hi (Nat.not_lt_zero _))).mono ?_
  rintro e w' ⟨v, r, os, G', rfl, hp⟩
  obtain ⟨rfl, rfl⟩ := hp.post
  exact ⟨v, G', rfl, hp.res, ⟨hp.fr.os, hp.fr.tape, hp.fr.output, hp.fr.size, fun k hk => hp.fr.block k hk (fun ⟨i, hi, _⟩ => absurd hi (Nat.not_lt_zero _))⟩, hp.cs, hp.lc, hp.uf⟩
def GvTrR (lo : Nat) (w : World) (ar : Int) (rows : List (List Int)) (ok : Bool) (e : Ending) (w' : World) : Prop := ∃ a n c, e = .returned (.tuple #[trieV ar a n c, .bool ok]) ∧ TrieA false lo w'.heap.size w' ar a n c rows ∧ Below w.heap.size w w'
def GvTrS (w : World) (ar : Int) (rows : List (List Int)) (ok : Bool) (e : Ending) (w' : World) : Prop := ∃ a n c, e = .returned (.tuple #[trieV ar a n c, .bool ok]) ∧ TrieS w.heap.size w'.heap.size w' ar a n c rows ∧ Below w.heap.size w w'
theorem asc_ne {rows : List (List Int)} (h : Asc rows) : ∀ i j, i < rows.length → j < rows.length → i ≠ j → rx rows i ≠ rx rows j := by
  have key : ∀ i j, i < j → j < rows.length → rx rows i ≠ rx rows j := fun i j hij hj e => by
    have := List.pairwise_iff_getElem.1 h i j (by omega) hj hij
    rw [← rx_lt hj, ← rx_lt (by omega : i < rows.length), e, cmpR_self] at this
    omega
  intro i j hi hj hij e
  rcases Nat.lt_or_gt_of_ne hij with h1 | h1
  · exact key i j h1 hj e
  · exact key j i h1 hi e.symm
section
variable {f : FuncId} {ar ar' : Int} {rows rows' : List (List Int)} {xs : List Int} {ok : Bool} {fz fz' : Bool} {lo hi lo' hi' : Nat} {w : World} {a pa : Option Addr} {n c pn pc : Nat}
theorem rel_args (hI : TrieA fz lo hi w ar a n c rows) (hh : hi ≤ w.heap.size) (hJ : IntsA fz' lo' hi' w pa pn pc xs) (hh' : hi' ≤ w.heap.size) (hl : lo ≤ lo') (G : Gh) (hG : G.C = cellsC lo w) : CVs G w [.d (relD ar rows), .d (intsD xs)] [trieV ar a n c, .slice pa pn pc] := by
  refine ⟨_, _, rfl, cvAgg.2 ⟨[.int .i64 ar, .slice a n c], ⟨[.int .i64 ar], [.slice a n c], rfl, ⟨rfl, hI.1⟩, [.slice a n c], [], rfl, rows_cxc hI.2 (fun b i h1 h2 h3 => by rw [hG]; exact ⟨h1, by omega, h3⟩), rfl⟩, rfl⟩, _, _, rfl, cvSl.2 (ints_cxc hJ (fun b i h1 h2 h3 => by rw [hG]; exact ⟨by omega, by omega, h3⟩)), rfl⟩
theorem rel_read (hA : AFn f [.d (relD ar rows), .d (intsD xs)] [] (fun r os => r = .tup [.d (relD ar' rows'), .d (.bool ok)] ∧ os = [])) (hI : TrieA fz lo hi w ar a n c rows) (hh : hi ≤ w.heap.size) (hJ : IntsA fz' lo' hi' w pa pn pc xs) (hh' : hi' ≤ w.heap.size) (hl : lo ≤ lo') (hlw : lo ≤ w.heap.size) :
    Calls Try.prog f #[trieV ar a n c, .slice pa pn pc] w (GvTrR lo w ar' rows' ok) := by
  refine (afn_calls hA (C0 := cellsC lo w) (fun b i h => h.2.1) (vs := [trieV ar a n c, .slice pa pn pc]) (rel_args hI hh hJ hh' hl)).mono ?_
  rintro e w' ⟨v, G', rfl, ⟨vs, rfl, v1, us, rfl, h1, v2, us2, rfl, h2, rfl⟩, hb, hcs, hlc, huf⟩
  obtain rfl := cvBool.1 h2
  obtain ⟨cs, ⟨u1, r1, rfl, ⟨rfl, har⟩, u2, r2, rfl, h3, rfl⟩, rfl⟩ := cvAgg.1 h1
  have hC : ∀ b i, G'.C b i → lo ≤ b ∧ b < w'.heap.size := fun b i hc => by
    refine ⟨?_, hcs b i hc⟩
    by_cases h : b < w.heap.size
    · exact (hlc b i hc h).1
    · omega
  obtain ⟨a', n', c', rfl, hR⟩ := cx_rowsC hC h3
  exact ⟨a', n', c', rfl, ⟨har, hR⟩, hb⟩
theorem rel_own {q : Nat} (hA : AFn f [.d (relD ar rows), .d (intsD xs)] [] (fun r os => r = .tup [.d (relW ar' rows'), .d (.bool ok)] ∧ os = [])) (hasc : Asc rows') (hq : SameL q rows') (hI : TrieA fz lo hi w ar a n c rows) (hh : hi ≤ w.heap.size) (hJ : IntsA fz' lo' hi' w pa pn pc xs) (hh' : hi' ≤ w.heap.size) :
    Calls Try.prog f #[trieV ar a n c, .slice pa pn pc] w (GvTrS w ar' rows' ok) := by
  refine (afn_calls hA (C0 := cellsC 0 w) (fun b i h => h.2.1) (vs := [trieV ar a n c, .slice pa pn pc]) (rel_args (lo := 0) (lo' := 0) (hI := ⟨hI.1, SlA.wide intsOK hI.2 (Nat.zero_le _) (Nat.le_refl _)⟩) hh (hJ.wide (Nat.zero_le _) (Nat.le_refl _)) hh' (Nat.le_refl _))).mono ?_
  rintro e w' ⟨v, G', rfl, ⟨vs, rfl, v1, us, rfl, h1, v2, us2, rfl, h2, rfl⟩, hb, hcs, hlc, huf⟩
  obtain rfl := cvBool.1 h2
  obtain ⟨cs, ⟨u1, r1, rfl, ⟨rfl, har⟩, u2, r2, rfl, h3, rfl⟩, rfl⟩ := cvAgg.1 h1
  have hT : ∀ b, Tag G'.C b → w.heap.size ≤ b := fun b ⟨N, ht⟩ => by
    by_cases h : b < w.heap.size
    · exact absurd ⟨N, fun i hi => hlc b i (ht i hi) h⟩ (no_tag (lo := 0) (w := w) (b := b))
    · omega
  obtain ⟨a', n', c', rfl, hR⟩ := rows_apart hT hcs huf hq (asc_ne hasc) h3
  exact ⟨a', n', c', rfl, ⟨har, hR⟩, hb⟩
end
theorem pick_same {cols : List Int} (rows : List (List Int)) : SameL cols.length (rows.map (pickL cols)) := fun x hx => by
  obtain ⟨y, _, rfl⟩ := List.mem_map.1 hx
  exact pickL_len cols y
theorem pr_asc (ar : Int) (rows : List (List Int)) (cols : List Int) : Asc (prRows ar rows cols) ∧ SameL cols.length (prRows ar rows cols) := by
  unfold prRows
  split
  · exact ⟨asc_srt (pick_same rows), (pick_same rows).srt⟩
  · exact ⟨by simp [Asc], fun x hx => by cases hx⟩
theorem pr_sz (ar : Int) (rows : List (List Int)) (cols : List Int) : rowsSz (prRows ar rows cols) ≤ 1048576 := by
  cases h : prOK ar rows cols with
  | false => rw [(pr_no h).2]; exact sz_nil
  | true =>
    have h2 : nrOK cols.length (rows.map (pickL cols)) = true := by
      unfold prOK at h
      simp only [Bool.and_eq_true] at h
      exact h.2
    have h3 : validR cols.length (srt (rows.map (pickL cols))) = true := by
      unfold nrOK at h2
      simp only [Bool.and_eq_true] at h2
      exact h2.2
    unfold prRows
    rw [if_pos h]
    exact row_len5 h3
theorem bt_asc (ar : Int) (rows : List (List Int)) (cols : List Int) : Asc (btRows ar rows cols) ∧ SameL cols.length (btRows ar rows cols) := by
  unfold btRows
  split
  · exact pr_asc ar rows cols
  · exact ⟨by simp [Asc], fun x hx => by cases hx⟩
theorem bt_sz (ar : Int) (rows : List (List Int)) (cols : List Int) : rowsSz (btRows ar rows cols) ≤ 1048576 := by
  unfold btRows
  split
  · exact pr_sz ar rows cols
  · exact sz_nil
end Go.Proofs.Yteccheoejmmjeaa
