/- Reading a query: the known ones. -/
import Derived.Test.YtalfldflnacpeaaX4
import Derived.Test.YtalfldflnacpeaaG3
namespace Go.Proofs.Ytalfldflnacpeaa
set_option linter.unusedSimpArgs false
set_option linter.unusedVariables false
open Go.RowKit
def nmB (l : List UInt8) : Bool := decide (1 ≤ l.length ∧ l.length ≤ 4) && l.all fun c => decide (97 ≤ c.toNat ∧ c.toNat ≤ 122)
def ndB (us : List Int) : Bool := (List.range us.length).all fun i => !((us.take i).contains (ix us i))
def inB (nv : Int) (l : List Int) : Bool := l.all fun x => decide (0 ≤ x ∧ x ≤ nv - 1)
def qB (nv : Nat) (xs : List (List UInt8 × List Int)) (us : List Int) : Bool :=
  decide (1 ≤ nv ∧ nv ≤ 5) && decide (1 ≤ xs.length ∧ xs.length ≤ 4) && inB nv us && ndB us &&
  xs.all (fun x => nmB x.1 && decide (1 ≤ x.2.length ∧ x.2.length ≤ 5) && inB nv x.2) && (List.range nv).all fun v => xs.any fun x => x.2.contains (v : Int)
def wB (x : List UInt8 × List Int) : List UInt8 := x.1 ++ varsF x.2
def jB : List (List UInt8 × List Int) → List UInt8
  | [] => []
  | x :: l => wB x ++ (l.map fun y => [44] ++ wB y).flatten
def knowB (s : List UInt8) : Bool :=
  match cutF s 61 with
  | [w0, w1] => (let ps := cutF w1 44; let xs := ps.map fun p => ((cutF p 40).getD 0 [], listF p); let us := listF w0; qB (nvL ps) xs us && (varsF us ++ ([61] ++ jB xs) == s) && !(s == []) && decide (s.length ≤ 1000))
  | _ => false
def mkAt (x : List UInt8 × List Int) : AtomD := ⟨bs x.1, x.2⟩
theorem nmB_ok {l : List UInt8} (h : nmB l = true) : nameOK (bs l) = true := by
  simp only [nmB, Bool.and_eq_true, decide_eq_true_eq, List.all_eq_true] at h
  refine nameOK_yes (by rw [bs_size]; exact h.1) fun i hi => ?_
  rw [bs_size] at hi
  have h1 := h.2 l[i] (List.getElem_mem _)
  have e : sx (bs l) i = ((l[i]).toNat : Int) := by
    unfold sx
    rw [dif_pos (by rw [bs_size]; exact hi)]
    rfl
  rw [e]; omega
theorem inB_ok {nv : Int} {l : List Int} (h : inB nv l = true) : ∀ i, i < l.length → 0 ≤ ix l i ∧ ix l i ≤ nv - 1 := fun i hi => by
  simp only [inB, decide_eq_true_eq, List.all_eq_true] at h
  rw [ix_lt hi]; exact h _ (List.getElem_mem _)
theorem occ_no {l : List Int} {v : Int} : ¬ 0 ≤ findF l v ↔ v ∉ l := by
  rw [← occ_mem, occ, decide_eq_true_eq]
theorem ndB_ok {us : List Int} (h : ndB us = true) {i : Nat} (hi : i < us.length) : ix us i ∉ us.take i := by
  simp only [ndB, List.all_eq_true, List.mem_range, Bool.not_eq_true', List.contains_eq_mem, decide_eq_false_iff_not] at h
  exact h i hi
theorem qB_ok {nv : Nat} {xs : List (List UInt8 × List Int)} {us : List Int} (h : qB nv xs us = true) : qOK nv (xs.map mkAt) us = true := by
  simp only [qB, Bool.and_eq_true, decide_eq_true_eq, List.all_eq_true, List.mem_range, List.any_eq_true] at h
  obtain ⟨⟨⟨⟨⟨h1, h2⟩, h3⟩, h4⟩, h5⟩, h6⟩ := h
  refine qOK_yes ⟨by omega, by rw [List.length_map]; exact h2⟩ (fun i hi => ⟨inB_ok h3 i hi, ?_⟩) (fun i hi => ?_) (fun v hv => ?_)
  · rw [occ_no]; exact ndB_ok h4 hi
  · rw [List.length_map] at hi
    have hx : ax (xs.map mkAt) i = mkAt xs[i] := by rw [ax_lt (by rw [List.length_map]; exact hi)]; simp
    rw [hx]
    obtain ⟨⟨a1, a2⟩, a3⟩ := h5 xs[i] (List.getElem_mem _)
    exact ⟨nmB_ok a1, a2, inB_ok a3⟩
  · obtain ⟨x, hx, hc⟩ := h6 v (by omega)
    obtain ⟨i, hi, e⟩ := List.getElem_of_mem hx
    refine ⟨i, by rw [List.length_map]; exact hi, ?_⟩
    rw [ax_lt (by rw [List.length_map]; exact hi), List.getElem_map, e, occ_mem]
    simpa [mkAt] using hc
theorem wB_ok (x : List UInt8 × List Int) : atomW (mkAt x) = wB x := by simp [atomW, mkAt, wB, bs]
theorem jB_ok : ∀ xs : List (List UInt8 × List Int), joinF (xs.map mkAt) = jB xs
  | [] => rfl
  | x :: l => by
    have e : ((fun y => [44] ++ atomW y) ∘ mkAt) = fun y => [44] ++ wB y := by funext y; simp [wB_ok]
    simp only [List.map_cons, joinF, jB, wB_ok, List.map_map, e]
/-- a query that is valid -/
def QFit (r : AV) : Prop := ∃ (nv : Int) (xs : List AtomD) (us : List Int), qOK nv xs us = true ∧ NmOK xs ∧ r = .st [.d (.int nv), .buf 0 32 2 (xs.map atomDV), .buf 1 3 1 (us.map .int)]
theorem parseKnown {s : List UInt8} (h : knowB s = true) : AFn 77 [.d (.str (bs s))] [] (fun r os => ∃ q, QFit q ∧ r = .tup [q, .d (.bool true)] ∧ os = []) := by
  unfold knowB at h
  split at h
  · rename_i w0 w1 hw
    simp only [Bool.and_eq_true, decide_eq_true_eq, beq_iff_eq, Bool.not_eq_true', beq_eq_false_iff_ne] at h
    obtain ⟨⟨⟨h1, h2⟩, h3⟩, h4⟩ := h
    have hxs : ((cutF w1 44).map fun p => ((cutF p 40).getD 0 [], listF p)).map mkAt = (cutF w1 44).map pieceA := by
      rw [List.map_map]; rfl
    have hq := qB_ok h1
    rw [hxs] at hq
    have hj := jB_ok ((cutF w1 44).map fun p => ((cutF p 40).getD 0 [], listF p))
    rw [hxs] at hj
    have hnm : NmOK ((cutF w1 44).map pieceA) := fun x hx => by
      obtain ⟨i, hi, e⟩ := List.getElem_of_mem hx
      obtain ⟨hn, _⟩ := (qOK_out hq).2.2.1 i hi
      rw [ax_lt hi, e] at hn
      unfold nameOK at hn
      simp only [decide_eq_true_eq] at hn
      omega
    have hP := parseA s w0 w1 h4 hw (by unfold fmtF; rw [if_pos hq, hj]; exact h2) h3
    refine afn_weak hP ?_
    rintro r os ⟨rfl, rfl⟩
    exact ⟨_, .refl _, _, ⟨_, _, _, hq, hnm, rfl⟩, rfl, rfl⟩
  · cases h
end Go.Proofs.Ytalfldflnacpeaa
