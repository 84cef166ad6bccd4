/- Slices of one-cell elements seen as lists of values: reading, owning, appending, cutting. -/
import Derived.Test.YtdimcbollnggjaaBase
import Derived.Deep.RegionLaw
import Derived.Deep.AppendLies
namespace Go.Proofs.Ytdimcbollnggjaa
set_option linter.unusedSimpArgs false
set_option linter.unusedVariables false
open Go.RowKit

/-- the cells of the slice hold the values vs -/
def ValsA (lo hi : Nat) (w : World) (a : Option Addr) (n c : Nat) (vs : List Value) : Prop :=
  vs.length = n ∧ n ≤ c ∧ c ≤ maxLen ∧ (∀ u ∈ vs, u.oneCell' = true) ∧
  (0 < n → ∃ b off, a = some ⟨b, off, none⟩ ∧ lo ≤ b ∧ b < hi ∧ ∀ i u, vs[i]? = some u → w.cell? ⟨b, off + i, none⟩ = some u) ∧ (a = none → c = 0)
section
variable {lo hi : Nat} {w w' : World} {a : Option Addr} {n c : Nat} {vs : List Value}
theorem ValsA.len (h : ValsA lo hi w a n c vs) : vs.length = n := h.1
theorem ValsA.small (h : ValsA lo hi w a n c vs) : n ≤ 9223372036854775807 := by
  have h1 := h.2.1; have h2 := h.2.2.1; unfold maxLen at h2; omega
theorem ValsA.keep (h : ValsA lo hi w a n c vs) (hk : Keeps lo hi w w') : ValsA lo hi w' a n c vs := by
  obtain ⟨h1, h2, h3, h4, h5, h6⟩ := h
  refine ⟨h1, h2, h3, h4, fun hn => ?_, h6⟩
  obtain ⟨b, off, ha, hl, hb, hc⟩ := h5 hn
  exact ⟨b, off, ha, hl, hb, fun i u hu => by rw [World.cell?_of_block (w := w) (hk b hl hb)]; exact hc i u hu⟩
theorem ValsA.wide {lo' hi' : Nat} (h : ValsA lo hi w a n c vs) (h1 : lo' ≤ lo) (h2 : hi ≤ hi') : ValsA lo' hi' w a n c vs := by
  obtain ⟨g1, g2, g3, g4, g5, g6⟩ := h
  refine ⟨g1, g2, g3, g4, fun hn => ?_, g6⟩
  obtain ⟨b, off, ha, hl, hb, hc⟩ := g5 hn
  exact ⟨b, off, ha, by omega, by omega, hc⟩
theorem ValsA.drewN (h : ValsA lo hi w a n c vs) (k : Nat) : ValsA lo hi (w.drewN k) a n c vs := h
theorem ValsA.open (h : ValsA lo hi w a n c vs) (hn : 0 < n) : ∃ b off, a = some ⟨b, off, none⟩ ∧ lo ≤ b ∧ b < hi ∧ ∀ i u, vs[i]? = some u → w.cell? ⟨b, off + i, none⟩ = some u := h.2.2.2.2.1 hn
/-- xs[i:j] -/
theorem ValsA.cut (h : ValsA lo hi w a n c vs) {i j : Nat} (hij : i ≤ j) (hj : j ≤ n) : ValsA lo hi w (if c = i then a else a.map (·.add (i * 1))) (j - i) (c - i) ((vs.take j).drop i) := by
  obtain ⟨h1, h2, h3, h4, h5, h6⟩ := h
  refine ⟨by simp; omega, by omega, by omega, fun u hu => h4 u (List.mem_of_mem_take (List.mem_of_mem_drop hu)), fun hn => ?_, fun ha => ?_⟩
  · obtain ⟨b, off, ha, hl, hb, hc⟩ := h5 (by omega)
    refine ⟨b, off + i, ?_, hl, hb, fun q u hu => ?_⟩
    · rw [if_neg (by omega), ha]
      simp [Addr.add]
      try omega
    · rw [List.getElem?_drop, List.getElem?_take] at hu
      split at hu
      · rw [Nat.add_assoc]; exact hc _ _ hu
      · cases hu
  · split at ha
    · omega
    · have : a = none := by cases a <;> simp at ha ⊢
      have := h6 this; omega
end
/-- the values from lo on in W are those of w, where W is w but for new blocks -/
theorem valsTake {lo hi : Nat} {w : World} {a : Option Addr} {n c : Nat} {vs : List Value} (h : ValsA lo hi w a n c vs) {j : Nat} (hj : j ≤ n) : ValsA lo hi w a j c (vs.take j) := by
  obtain ⟨h1, h2, h3, h4, h5, h6⟩ := h
  refine ⟨by simp; omega, by omega, h3, fun u hu => h4 u (List.mem_of_mem_take hu), fun hn => ?_, h6⟩
  obtain ⟨b, off, ha, hl, hb, hc⟩ := h5 (by omega)
  refine ⟨b, off, ha, hl, hb, fun q u hu => hc q u ?_⟩
  rw [List.getElem?_take] at hu
  split at hu
  · exact hu
  · cases hu
theorem valsDrop {lo hi : Nat} {w : World} {a : Option Addr} {n c : Nat} {vs : List Value} (h : ValsA lo hi w a n c vs) {i : Nat} (hi' : i ≤ n) : ValsA lo hi w (if c = i then a else a.map (·.add i)) (n - i) (c - i) (vs.drop i) := by
  have := h.cut (i := i) (j := n) hi' (Nat.le_refl _)
  rw [Nat.mul_one, List.take_of_length_le (by rw [h.len]; exact Nat.le_refl _)] at this
  exact this
/-- the call's own slice, of element type e -/
def OwnV (e : TypeId) (base : Nat) (w : World) (a : Option Addr) (n c : Nat) (vs : List Value) : Prop := w.ownsRow base e 1 (.slice a n c) n vs ∧ ∀ u ∈ vs, u.oneCell' = true
theorem OwnV.len {e : TypeId} {base : Nat} {w : World} {a : Option Addr} {n c : Nat} {vs : List Value} (h : OwnV e base w a n c vs) : vs.length = n := by
  have := h.1.1; omega
theorem OwnV.vals {e : TypeId} {base : Nat} {w : World} {a : Option Addr} {n c : Nat} {vs : List Value} (h : OwnV e base w a n c vs) : ValsA base w.heap.size w a n c vs := by
  have hlen := h.len
  obtain ⟨ho, h1c⟩ := h
  have ho' := ho
  obtain ⟨h1, h2⟩ := ho
  rcases h2 with ⟨h2, h3⟩ | ⟨g, cap, cur, hv, hb, hg, hnc, hcm, hcs, htake⟩
  · simp only [Value.slice.injEq] at h2
    obtain ⟨rfl, rfl, rfl⟩ := h2
    exact ⟨hlen, Nat.zero_le _, by simp [maxLen], h1c, fun h => by omega, fun _ => rfl⟩
  · simp only [Value.slice.injEq] at hv
    obtain ⟨rfl, _, rfl⟩ := hv
    refine ⟨hlen, hnc, hcm, h1c, fun _ => ⟨g, 0, rfl, hb, (Array.getElem?_eq_some_iff.1 hg).1, fun i u hu => ?_⟩, fun h => nomatch h⟩
    have h5 := ho'.cells (g := g) rfl i u hu
    rwa [Addr.add_lit] at h5
theorem OwnV.low {e : TypeId} {base base' : Nat} {w : World} {a : Option Addr} {n c : Nat} {vs : List Value} (h : OwnV e base w a n c vs) (hb : base' ≤ base) : OwnV e base' w a n c vs := by
  obtain ⟨⟨h1, h2⟩, h64⟩ := h
  refine ⟨⟨h1, ?_⟩, h64⟩
  rcases h2 with h2 | ⟨g, cap, cur, hv, hb', rest⟩
  · exact .inl h2
  · exact .inr ⟨g, cap, cur, hv, by omega, rest⟩
theorem OwnV.keep {e : TypeId} {base : Nat} {w w' : World} {a : Option Addr} {n c : Nat} {vs : List Value} (h : OwnV e base w a n c vs) (hk : Keeps base w.heap.size w w') : OwnV e base w' a n c vs := by
  obtain ⟨⟨h1, h2⟩, h64⟩ := h
  refine ⟨⟨h1, ?_⟩, h64⟩
  rcases h2 with h2 | ⟨g, cap, cur, hv, hb, hg, rest⟩
  · exact .inl h2
  · exact .inr ⟨g, cap, cur, hv, hb, by rw [hk g hb (Array.getElem?_eq_some_iff.1 hg).1]; exact hg, rest⟩
theorem OwnV.alloc {e : TypeId} {base : Nat} {w : World} {a : Option Addr} {n c : Nat} {vs : List Value} (h : OwnV e base w a n c vs) (o : Obj) : OwnV e base (w.alloc o) a n c vs := ⟨h.1.alloc o, h.2⟩
theorem OwnV.drewN {e : TypeId} {base : Nat} {w : World} {a : Option Addr} {n c : Nat} {vs : List Value} (h : OwnV e base w a n c vs) (k : Nat) : OwnV e base (w.drewN k) a n c vs := h
theorem ownV_nil (e : TypeId) (w : World) (base : Nat) : OwnV e base w none 0 0 [] := ⟨World.ownsRow_nil .., fun _ h => nomatch h⟩
theorem ownV_empty (e : TypeId) (w : World) (base g : Nat) (hb : base ≤ g) (hg : w.heap[g]? = some (.cells #[] e (0, 0))) : OwnV e base w (some ⟨g, 0, none⟩) 0 0 [] :=
  ⟨⟨rfl, .inr ⟨g, 0, #[], rfl, hb, hg, Nat.le_refl _, by simp [maxLen], rfl, rfl⟩⟩, fun _ h => nomatch h⟩
theorem vals_one (w : World) (g : Nat) (e : TypeId) (v : Value) (hv : v.oneCell' = true) (lo hi : Nat) (h1 : lo ≤ g) (h2 : g < hi) (hg : w.heap[g]? = some (.cells #[v] e (0, 0))) : ValsA lo hi w (some ⟨g, 0, none⟩) 1 1 [v] := by
  refine ⟨rfl, Nat.le_refl _, by simp [maxLen], by simpa using hv, fun _ => ⟨g, 0, rfl, h1, h2, fun i u hu => ?_⟩, fun h => nomatch h⟩
  match i, hu with
  | 0, hu => cases hu; simp [World.cell?, hg]
/-- what an append needs to know of the element type -/
structure Elem (t e : TypeId) (bytes : Nat) : Prop where
  under : Try.prog.underlying t = some (.slice e)
  info : ∃ i z, Try.prog.info? e = some i ∧ i.zero = some z ∧ i.size = 1 ∧ i.bytes = bytes ∧ z.cells.size = 1
  small : bytes ≤ 4096
theorem run_append_vals {t e bytes : Nat} (ht : Elem t e bytes) {lo hi : Nat} {w : World} (ty : TypeId) (base : Nat) (a1 : Option Addr) (n1 c1 : Nat) (vs : List Value) (hown : OwnV e base w a1 n1 c1 vs)
    (ao : Option Addr) (m c : Nat) (us : List Value) (hI : ValsA lo hi w ao m c us) (hb : n1 + m ≤ 16777216) (hbase : base ≤ w.heap.size) :
    ∃ a' c' w', (Builtin.append_ #[t, t] ty #[.slice a1 n1 c1, .slice ao m c]).run Try.prog w = .ok (.slice a' (n1 + m) c') w' ∧ OwnV e base w' a' (n1 + m) c' (vs ++ us) ∧ w.grownBy w' (Value.slice a1 n1 c1).ownBlock := by
  obtain ⟨i0, z, hi0, hz0, hz1, hz2, hz3⟩ := ht.info
  have h1c : ∀ u ∈ vs ++ us, u.oneCell' = true := fun u hu => (List.mem_append.1 hu).elim (hown.2 u) (hI.2.2.2.1 u)
  have hlen := hI.len
  cases ao with
  | none =>
    have hc0 := hI.2.2.2.2.2 rfl
    have hm0 : m = 0 := by have := hI.2.1; omega
    subst hc0; subst hm0
    have hys : us = [] := List.eq_nil_of_length_eq_zero hlen
    subst hys
    exact ⟨a1, c1, w, run_append_owned_none (P := Try.prog) (w := w) base t ty e i0 1 ht.under hi0 _ n1 _ hown.1, by simpa using hown, World.grownBy.refl w _⟩
  | some ad =>
    obtain ⟨v', w', hr, hown', hgrow, _⟩ := run_append_own (P := Try.prog) w base t ty e i0 z 1 bytes ht.under hi0 hz0 hz1 hz2 hz3 (by decide) _ n1 _ hown.1 ad m c us (by simp [hlen]) (fun j u hj => by
      have hjm : j < m := by have := (List.getElem?_eq_some_iff.1 hj).1; omega
      obtain ⟨b, off, hab, _, _, hcell⟩ := hI.open (by omega)
      obtain rfl : ad = ⟨b, off, none⟩ := by simpa using hab
      rw [Addr.add_lit]; exact hcell j u hj) hI.2.2.2.1 (by unfold maxLen; omega) (by
        have h1 := ht.small
        have h2 : (n1 + m) * bytes ≤ 16777216 * 4096 := Nat.mul_le_mul hb h1
        omega) hbase
    obtain ⟨a', c', rfl⟩ : ∃ a' c', v' = .slice a' (n1 + m) c' := by
      rcases hown'.2 with ⟨rfl, hz⟩ | ⟨g, cap, cur, rfl, _⟩
      · exact ⟨none, 0, by rw [hz]⟩
      · exact ⟨_, _, rfl⟩
    exact ⟨a', c', w', hr, ⟨hown', h1c⟩, hgrow⟩
theorem wpAppV {t e bytes : Nat} (ht : Elem t e bytes) {lo hi : Nat} {w : World} {ops : Array Oper} {rest : List Oper} {o : Oper} {a : Act} {Q : Exit → Act → World → Prop} (hgd : o.guard = none) (s x : Operand)
    (ho : o.op = .call { callee := .builtin .append, args := #[s, x], argTypes := #[t, t] })
    (base : Nat) (a1 : Option Addr) (n1 c1 : Nat) (vs : List Value) (hs : a.eval s = .slice a1 n1 c1) (hown : OwnV e base w a1 n1 c1 vs)
    (ao : Option Addr) (m c : Nat) (us : List Value) (hx : a.eval x = .slice ao m c) (hI : ValsA lo hi w ao m c us) (hb : n1 + m ≤ 16777216) (hbase : base ≤ w.heap.size)
    (h : ∀ a' c' w', OwnV e base w' a' (n1 + m) c' (vs ++ us) → w.grownBy w' (Value.slice a1 n1 c1).ownBlock → wpList Try.prog ops Q rest (a.put o.dst (.slice a' (n1 + m) c')) w') :
    wpList Try.prog ops Q (o :: rest) a w := by
  obtain ⟨a', c', w', hr, h2, h3⟩ := run_append_vals ht o.type base a1 n1 c1 vs hown ao m c us hI hb hbase
  refine wpList_plain hgd fun K hK => ?_
  unfold Oper.wp
  simp [execOp, ho, resolve, invoke, builtin, hs, hx, hr, Result.andThen]
  exact hK _ _ (h a' c' w' h2 h3)
theorem stepAppV {t e bytes : Nat} (ht : Elem t e bytes) {lo hi : Nat} {w : World} {ops : Array Oper} {o : Oper} {a : Act} {K : Act → World → Prop} {Q : Exit → Act → World → Prop} {E : Prop} (hgd : o.guard = none) (s x : Operand)
    (ho : o.op = .call { callee := .builtin .append, args := #[s, x], argTypes := #[t, t] })
    (base : Nat) (a1 : Option Addr) (n1 c1 : Nat) (vs : List Value) (hs : a.eval s = .slice a1 n1 c1) (hown : OwnV e base w a1 n1 c1 vs)
    (ao : Option Addr) (m c : Nat) (us : List Value) (hx : a.eval x = .slice ao m c) (hI : ValsA lo hi w ao m c us) (hb : n1 + m ≤ 16777216) (hbase : base ≤ w.heap.size)
    (h : ∀ a' c' w', OwnV e base w' a' (n1 + m) c' (vs ++ us) → w.grownBy w' (Value.slice a1 n1 c1).ownBlock → K (a.put o.dst (.slice a' (n1 + m) c')) w') :
    if Region.wanted o (yielded ops a.tmps) = true then Oper.wp Try.prog o a w K Q else E := by
  obtain ⟨a', c', w', hr, h2, h3⟩ := run_append_vals ht o.type base a1 n1 c1 vs hown ao m c us hI hb hbase
  rw [if_pos (by simp [Region.wanted, hgd])]
  unfold Oper.wp
  simp [execOp, ho, resolve, invoke, builtin, hs, hx, hr, Result.andThen]
  exact h a' c' w' h2 h3
theorem stepAppV0 {t e bytes : Nat} (ht : Elem t e bytes) {lo hi : Nat} {w : World} {ops : Array Oper} {o : Oper} {a : Act} {K : Act → World → Prop} {Q : Exit → Act → World → Prop} {E : Prop} (hgd : o.guard = none) (s x : Operand)
    (ho : o.op = .call { callee := .builtin .append, args := #[s, x], argTypes := #[t, t] })
    (base : Nat) (a1 : Option Addr) (c1 : Nat) (hs : a.eval s = .slice a1 0 c1) (hown : OwnV e base w a1 0 c1 [])
    (ao : Option Addr) (m c : Nat) (us : List Value) (hx : a.eval x = .slice ao m c) (hI : ValsA lo hi w ao m c us) (hb : m ≤ 16777216) (hbase : base ≤ w.heap.size)
    (h : ∀ a' c' w', OwnV e base w' a' m c' us → w.grownBy w' (Value.slice a1 0 c1).ownBlock → K (a.put o.dst (.slice a' m c')) w') :
    if Region.wanted o (yielded ops a.tmps) = true then Oper.wp Try.prog o a w K Q else E :=
  stepAppV ht hgd s x ho base a1 0 c1 [] hs hown ao m c us hx hI (by omega) hbase fun a' c' w' h1 h2 => by
    rw [Nat.zero_add] at h1 ⊢
    exact h a' c' w' (by simpa using h1) h2
theorem at0 (W : World) (A : Obj) : (W.alloc A).heap[W.heap.size]? = some A := heap_alloc_new W A
theorem at0' (W : World) (A B : Obj) : ((W.alloc A).alloc B).heap[W.heap.size]? = some A := by
  rw [Below.heap_alloc _ _ _ (by simp)]; exact heap_alloc_new W A
theorem at1 (W : World) (A B : Obj) : ((W.alloc A).alloc B).heap[W.heap.size + 1]? = some B := by
  have := heap_alloc_new (W.alloc A) B
  simpa using this
theorem elemInt : Elem 23 3 8 := ⟨Try.underlying23, by obtain ⟨i0, h1, h2, h3, h4⟩ := info_parts infoInt; exact ⟨i0, _, h1, h2, h3, h4, rfl⟩, by omega⟩
end Go.Proofs.Ytdimcbollnggjaa
