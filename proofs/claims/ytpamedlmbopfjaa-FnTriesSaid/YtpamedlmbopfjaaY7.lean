/- The plain law of tries: a relation comes back from its trie. -/
import Derived.Test.YtpamedlmbopfjaaU12
import Derived.Test.YtpamedlmbopfjaaTL
namespace Go.Proofs.Ytpamedlmbopfjaa
set_option linter.unusedSimpArgs false
set_option linter.unusedVariables false
open Go.RowKit
theorem asc_valid {ar : Int} {rows : List (List Int)} (h : validR ar rows = true) : Asc rows := by
  obtain ⟨⟨h1, _⟩, _, h3⟩ := validR_out h
  have hl : ∀ i, i < rows.length → (rx rows i).length = ar.toNat := fun i hi => by have := (h3 i hi).1; omega
  have key : ∀ d i, i + d + 1 < rows.length → cmpR (rx rows i) (rx rows (i + d + 1)) < 0 := by
    intro d
    induction d with
    | zero => intro i hi; exact (h3 (i + 1) hi).2.2 (by omega)
    | succ d ih =>
      intro i hi
      have h4 := ih i (by omega)
      have h5 := (h3 (i + d + 2) (by omega)).2.2 (by omega)
      show cmpR (rx rows i) (rx rows (i + d + 2)) < 0
      exact cmpR_lt_tr (hl i (by omega)) (hl (i + d + 1) (by omega)) (hl (i + d + 2) (by omega)) h4 (by
        rw [show i + d + 2 - 1 = i + d + 1 by omega] at h5; omega)
  unfold Asc
  rw [List.pairwise_iff_getElem]
  intro i j hi hj hij
  have := key (j - i - 1) i (by omega)
  rw [show i + (j - i - 1) + 1 = j by omega, rx_lt hi, rx_lt hj] at this
  exact this
theorem perm_at {cols : List Int} (h : permB cols = true) {j : Nat} (hj : j < cols.length) : 0 ≤ findF cols j ∧ findF cols j < cols.length ∧ ix cols (findF cols j).toNat = j := by
  have hs := perm_set h
  obtain ⟨i, hi, e⟩ := set_onto hs (v := (j : Int)) (by omega) (by omega)
  have h0 : 0 ≤ findF cols j := by
    refine Decidable.byContradiction fun hn => ?_
    exact findF_miss hn i hi e
  have h1 := firstIx_sr (fun i => ix cols i = (j : Int)) cols.length
  unfold findF at h0 ⊢
  split
  · rename_i hlt
    refine ⟨by omega, by omega, ?_⟩
    rw [Int.toNat_natCast]
    exact h1.1 hlt
  · rename_i hlt
    rw [if_neg hlt] at h0
    omega
theorem pick_back {cols y : List Int} (h : permB cols = true) (hy : y.length = cols.length) : pickL (backF cols cols.length) (pickL cols y) = y := by
  refine List.ext_getElem (by simp [pickL, backF, hy]) fun j h1 h2 => ?_
  have hj : j < cols.length := by omega
  obtain ⟨g0, g1, g2⟩ := perm_at h hj
  have hk : (findF cols j).toNat < cols.length := by omega
  simp only [pickL, backF, List.getElem_map, List.getElem_range]
  rw [ix_lt (by simpa using hk), List.getElem_map, ← ix_lt hk, g2, Int.toNat_natCast, ix_lt h2]
theorem tries_law {ar : Int} {rows : List (List Int)} {cols : List Int} (h : btOK ar rows cols = true) :
    btAr ar rows cols = ar ∧ ttOK (btAr ar rows cols) (btRows ar rows cols) cols = true ∧ ttAr (btAr ar rows cols) (btRows ar rows cols) cols = ar ∧ ttRows (btAr ar rows cols) (btRows ar rows cols) cols = rows ∧ validR (btAr ar rows cols) (btRows ar rows cols) = true ∧ (btRows ar rows cols).length = rows.length := by
  obtain ⟨e1, e2⟩ := bt_yes h
  have h0 := h
  simp only [btOK, Bool.and_eq_true, decide_eq_true_eq] at h0
  obtain ⟨⟨hp, hc⟩, hpr⟩ := h0
  have h1 := hpr
  simp only [prOK, Bool.and_eq_true] at h1
  obtain ⟨⟨hv, hf⟩, hn⟩ := h1
  have ea : btAr ar rows cols = ar := by rw [e1]; unfold prAr; rw [if_pos hpr, hc]
  have er : btRows ar rows cols = srt (rows.map (pickL cols)) := by rw [e2]; unfold prRows; rw [if_pos hpr]
  have hn2 := hn
  simp only [nrOK, Bool.and_eq_true] at hn2
  have hvt : validR ar (srt (rows.map (pickL cols))) = true := by rw [← hc]; exact hn2.2
  have hlen : ∀ y ∈ rows, y.length = cols.length := fun y hy => by
    obtain ⟨i, hi, e⟩ := List.getElem_of_mem hy
    have := rows_len hv hi
    rw [rx_lt hi, e] at this
    omega
  have hbl : (backF cols cols.length).length = cols.length := by simp [backF]
  have hpb : ∀ x, x ∈ rows ↔ x ∈ (srt (rows.map (pickL cols))).map (pickL (backF cols cols.length)) := fun x => by
    simp only [List.mem_map, mem_srt]
    constructor
    · intro hx
      exact ⟨pickL cols x, ⟨x, hx, rfl⟩, pick_back hp (hlen x hx)⟩
    · rintro ⟨_, ⟨y, hy, rfl⟩, rfl⟩
      rw [pick_back hp (hlen y hy)]
      exact hy
  have hsm : SameL cols.length ((srt (rows.map (pickL cols))).map (pickL (backF cols cols.length))) := fun x hx => hlen x ((hpb x).2 hx)
  have hback : srt ((srt (rows.map (pickL cols))).map (pickL (backF cols cols.length))) = rows := srt_eq hsm (asc_valid hv) hpb
  have hnb : nrOK (backF cols cols.length).length ((srt (rows.map (pickL cols))).map (pickL (backF cols cols.length))) = true := by
    simp only [nrOK, Bool.and_eq_true, decide_eq_true_eq]
    refine ⟨fun i hi => ?_, by rw [hback, hbl, hc]; exact hv⟩
    have hm : rx ((srt (rows.map (pickL cols))).map (pickL (backF cols cols.length))) i ∈ rows := (hpb _).2 (by rw [rx_lt hi]; exact List.getElem_mem _)
    obtain ⟨k, hk, e⟩ := List.getElem_of_mem hm
    have h3 := (validR_out hv).2.2 k hk
    rw [← e, ← rx_lt hk, hbl]
    exact ⟨by rw [h3.1, hc], h3.2.1⟩
  have hfb : colsFit ar (backF cols cols.length) = true := by
    refine fit_in (by rw [hbl]; exact perm_len hp) fun i hi => ?_
    rw [hbl] at hi
    obtain ⟨g0, g1, _⟩ := perm_at hp hi
    rw [ix_lt (by rw [hbl]; exact hi)]
    simp only [backF, List.getElem_map, List.getElem_range]
    omega
  have hprb : prOK ar (srt (rows.map (pickL cols))) (backF cols cols.length) = true := by
    simp only [prOK, hvt, hfb, hnb, Bool.and_true]
  have htt : ttOK ar (srt (rows.map (pickL cols))) cols = true := by
    simp only [ttOK, hvt, hp, hprb, hc, decide_true, Bool.and_true]
  have hl2 : (srt (rows.map (pickL cols))).length = rows.length := by
    have a1 := srt_len (rows.map (pickL cols))
    have a2 := srt_len ((srt (rows.map (pickL cols))).map (pickL (backF cols cols.length)))
    rw [hback] at a2
    simp only [List.length_map] at a1 a2
    omega
  rw [ea, er]
  refine ⟨rfl, htt, ?_, ?_, hvt, hl2⟩
  · unfold ttAr; rw [if_pos htt]; unfold prAr; rw [if_pos hprb, hbl, hc]
  · unfold ttRows; rw [if_pos htt]; unfold prRows; rw [if_pos hprb, hback]
/-- the rows of a valid trie, counted by the first column -/
theorem tries_count {ar : Int} {rows : List (List Int)} (h : validR ar rows = true) : rangeLo ar rows [] = 0 ∧ rangeHi ar rows [] = rows.length := by
  obtain ⟨⟨h1, _⟩, _⟩ := validR_out h
  have hp : preOK ar rows [] = true := by simp [preOK, h, h1]
  unfold rangeLo rangeHi
  rw [if_pos hp, if_pos hp]
  have hz : ∀ i, cmpP rows [] i = 0 := fun i => by simp [cmpP, cmpR_zero]
  have hlo : preLo rows [] = 0 := preLo_eq (fun i hi => absurd hi (Nat.not_lt_zero _)) (Nat.zero_le _) (fun _ => by rw [hz]; omega)
  exact ⟨hlo, preHi_eq (by omega) (fun i _ _ => hz i) (Nat.le_refl _) (fun h => absurd h (Nat.lt_irrefl _))⟩
end Go.Proofs.Ytpamedlmbopfjaa
