/- Regions that draw their order, whose head only reads (and calls what only makes memory) and whose tail runs in the order of the text behind the whole head. -/
import Derived.Test.YtjfhjlbofoknfaaLater
import Derived.StillTail
namespace Go.Proofs.Ytjfhjlbofoknfaa
set_option linter.unusedSimpArgs false
set_option linter.unusedVariables false
open Go.RowKit
section
variable {P : Program} {C : World → Prop}
/-- what is checked: the head is a region whose lexical walk serves, the tail waits for all of it and is a chain -/
def qtB (l : List Oper) (n : Nat) : Bool :=
  Region.lexB .any (l.take n).toArray && decide (n < l.length) && Region.sinkB .any l.toArray n && Region.chainB .any l.toArray n &&
  (List.range n).all (fun i => match l[i]? with
    | some o => (match o.guard with | some g => decide (g.1 < n) | none => true) && o.after.toList.all (fun e => !Region.binds .any e || decide (e.on < i))
    | none => true) &&
  Region.seqB .any l.toArray (l.length - n) n ((List.range n).foldl (fun s i => s.setIfInBounds i true) (Array.replicate l.length false))
theorem wpAny_more {md : Region.Mode} {ops : Array Oper} {Q : Exit → Act → World → Prop} : ∀ (f : Nat) (listed : Array Bool) (a : Act) (w : World), wpAny P md ops Q f listed a w → wpAny P md ops Q (f + 1) listed a w
  | 0, _, _, _, h => ⟨fun _ => h.2, fun i hi => by rw [h.1] at hi; cases hi⟩
  | f + 1, _, _, _, h => ⟨h.1, fun i hi => wpOp_mono (fun a' w' h' => wpAny_more f _ a' w' h') (h.2 i hi)⟩
theorem wpAny_plus {md : Region.Mode} {ops : Array Oper} {Q : Exit → Act → World → Prop} {g : Nat} {listed : Array Bool} {a : Act} {w : World} (h : wpAny P md ops Q g listed a w) : ∀ f : Nat, wpAny P md ops Q (f + g) listed a w
  | 0 => by rw [Nat.zero_add]; exact h
  | f + 1 => by rw [show f + 1 + g = (f + g) + 1 by omega]; exact wpAny_more _ _ _ _ (wpAny_plus h f)
theorem foldl_set (n : Nat) : ∀ (s : Array Bool), ((List.range n).foldl (fun s i => s.setIfInBounds i true) s).size = s.size ∧ ∀ j b, ((List.range n).foldl (fun s i => s.setIfInBounds i true) s).getD j b = if j < n ∧ j < s.size then true else s.getD j b := by
  induction n with
  | zero => intro s; exact ⟨rfl, fun j b => by simp⟩
  | succ n ih =>
    intro s
    rw [List.range_succ, List.foldl_append]
    obtain ⟨h1, h2⟩ := ih s
    refine ⟨by simp [h1], fun j b => ?_⟩
    simp only [List.foldl_cons, List.foldl_nil]
    by_cases e : n = j
    · subst e
      by_cases hs : n < s.size
      · simp [h1, hs]
      · simp only [Array.getD_eq_getD_getElem?] at h2 ⊢
        rw [Array.getElem?_eq_none (by simp [h1]; omega)]
        have := h2 n b
        rw [Array.getElem?_eq_none (by simp [h1]; omega)] at this
        rw [if_neg (by omega)] at this ⊢
        exact this
    · rw [getD_set_ne b e, h2 j b]
      by_cases hh : j < n ∧ j < s.size
      · rw [if_pos hh, if_pos ⟨by omega, hh.2⟩]
      · rw [if_neg hh, if_neg (by omega)]
theorem wanted_take {l : List Oper} {n : Nat} {o : Oper} {a : Act} (h : ∀ g, o.guard = some g → g.1 < n) : Region.wanted o (yielded (l.take n).toArray a.tmps) = Region.wanted o (yielded l.toArray a.tmps) := by
  unfold Region.wanted
  cases hg : o.guard with
  | none => rfl
  | some g =>
    have := h g hg
    simp only [yielded, List.getElem?_toArray, List.getElem?_take_of_lt this]
theorem qt_any {l : List Oper} {n : Nat} {Qa : Act → Prop} {Q' : Exit → Act → World → Prop} (hn : n < l.length) (hs : Region.sinkB .any l.toArray n = true) (hc : Region.chainB .any l.toArray n = true)
    (hb : ∀ i o, i < n → l[i]? = some o → (∀ g, o.guard = some g → g.1 < n) ∧ ∀ e ∈ o.after, Region.binds .any e = true → e.on < i)
    (hq : Region.seqB .any l.toArray (l.length - n) n ((List.range n).foldl (fun s i => s.setIfInBounds i true) (Array.replicate l.length false)) = true)
    (hL : ∀ a w, C w → Qa a → wpList P l.toArray Q' (l.drop n) a w) :
    ∀ (f : Nat) (listed listed' : Array Bool) (a : Act) (w : World), C w → HeadInv .any l.toArray n listed → listed'.size = n → (∀ i b, i < n → listed'.getD i b = listed.getD i b) →
      wpAnyQ P .any (l.take n).toArray C Qa f listed' a → wpAny P .any l.toArray Q' (f + (l.length - n)) listed a w := by
  have htk : ∀ i, i < n → (l.take n).toArray[i]? = l.toArray[i]? := fun i hi => by simp [List.getElem?_take_of_lt hi]
  have szl : l.toArray.size = l.length := by simp
  -- which operations may come up
  have hready : ∀ (listed listed' : Array Bool) i, HeadInv .any l.toArray n listed → listed'.size = n → (∀ i b, i < n → listed'.getD i b = listed.getD i b) → i < n → (i ∈ Region.ready .any l.toArray listed ↔ i ∈ Region.ready .any (l.take n).toArray listed') := by
    intro listed listed' i inv hsz hll hi
    rw [mem_ready, mem_ready, hll i true hi, htk i hi]
    refine and_congr_right fun _ => ⟨fun ⟨o, ho, h⟩ => ⟨o, ho, fun e he hbd => ?_⟩, fun ⟨o, ho, h⟩ => ⟨o, ho, fun e he hbd => ?_⟩⟩
    · have := (hb i o hi (by simpa using ho)).2 e he hbd
      rw [hll e.on false (by omega)]; exact h e he hbd
    · have := (hb i o hi (by simpa using ho)).2 e he hbd
      rw [← hll e.on false (by omega)]; exact h e he hbd
  -- the head is done
  have hdone : ∀ (listed listed' : Array Bool) (a : Act) (w : World), C w → HeadInv .any l.toArray n listed → listed'.size = n → (∀ i b, i < n → listed'.getD i b = listed.getD i b) → Region.ready .any (l.take n).toArray listed' = [] → Qa a → wpAny P .any l.toArray Q' (l.length - n) listed a w := by
    intro listed listed' a w hw inv hsz hll hr hQ
    have hall : ∀ k i, i ≤ k → i < n → listed.getD i false = true := by
      intro k
      induction k with
      | zero =>
        intro i hik hi
        obtain rfl : i = 0 := by omega
        cases hx : listed.getD 0 false with
        | true => rfl
        | false =>
          have h1 : (0 : Nat) ∈ Region.ready .any l.toArray listed := by
            rw [mem_ready]
            refine ⟨getD_in (by rw [inv.size, szl]; omega) hx, l[0], by simp, fun e he hbd => ?_⟩
            have := (hb 0 _ hi (by simp)).2 e he hbd
            omega
          rw [hready listed listed' 0 inv hsz hll hi, hr] at h1
          cases h1
      | succ k ih =>
        intro i hik hi
        by_cases hik' : i ≤ k
        · exact ih i hik' hi
        · cases hx : listed.getD i false with
          | true => rfl
          | false =>
            have hil : i < l.length := by omega
            have h1 : i ∈ Region.ready .any l.toArray listed := by
              rw [mem_ready]
              refine ⟨getD_in (by rw [inv.size, szl]; omega) hx, l[i], by simp [hil], fun e he hbd => ?_⟩
              have := (hb i _ hi (by simp [hil])).2 e he hbd
              exact ih e.on (by omega) (by omega)
            rw [hready listed listed' i inv hsz hll hi, hr] at h1
            cases h1
    have hcan : listed = (List.range n).foldl (fun s i => s.setIfInBounds i true) (Array.replicate l.length false) := by
      obtain ⟨h1, h2⟩ := foldl_set n (Array.replicate l.length false)
      apply Array.ext
      · rw [h1, inv.size]; simp
      · intro i hi1 hi2
        have e1 : listed[i] = listed.getD i false := by simp [hi1]
        have e2 := h2 i false
        have e3 : ((List.range n).foldl (fun s i => s.setIfInBounds i true) (Array.replicate l.length false))[i] = ((List.range n).foldl (fun s i => s.setIfInBounds i true) (Array.replicate l.length false)).getD i false := by simp [hi2]
        rw [e1, e3, e2]
        have hil : i < l.length := by rw [inv.size, szl] at hi1; exact hi1
        by_cases hin : i < n
        · rw [if_pos ⟨hin, by simpa using hil⟩]; exact hall i i (Nat.le_refl _) hin
        · rw [if_neg (by omega), getD_replicate_false]
          exact getD_both (inv.tail i (by omega) (by rw [szl]; exact hil))
    have h3 := wpAny_of_seq (P := P) (md := .any) (Q' := Q') (l.drop n) n listed a w (fun j => by simp [List.getElem?_drop]) (by rw [List.length_drop, hcan]; exact hq) (hL a w hw hQ)
    rwa [List.length_drop] at h3
  intro f
  induction f with
  | zero =>
    intro listed listed' a w hw inv hsz hll h
    rw [Nat.zero_add]
    exact hdone listed listed' a w hw inv hsz hll h.1 h.2
  | succ f ih =>
    intro listed listed' a w hw inv hsz hll h
    by_cases hr : Region.ready .any (l.take n).toArray listed' = []
    · exact wpAny_plus (hdone listed listed' a w hw inv hsz hll hr (h.1 hr)) _
    · obtain ⟨i0, hi0⟩ := List.exists_mem_of_ne_nil _ hr
      have hi0n : i0 < n := by
        obtain ⟨_, o, ho, _⟩ := mem_ready.1 hi0
        have := (Array.getElem?_eq_some_iff.1 ho).1
        simp at this; omega
      have hi0u : listed.getD i0 true = false := by rw [← hll i0 true hi0n]; exact (mem_ready.1 hi0).1
      have hlt : ∀ i ∈ Region.ready .any l.toArray listed, i < n := fun i hi => by
        rcases Nat.lt_or_ge i n with h' | h'
        · exact h'
        · exact absurd hi (tail_waits hs hc (by rw [szl]; exact hn) inv _ i0 rfl hi0n hi0u i h')
      rw [show f + 1 + (l.length - n) = (f + (l.length - n)) + 1 by omega]
      refine ⟨fun he => ?_, fun i hi => ?_⟩
      · have := (hready listed listed' i0 inv hsz hll hi0n).2 hi0
        rw [he] at this; cases this
      · have hin := hlt i hi
        have h1 := h.2 i ((hready listed listed' i inv hsz hll hin).1 hi)
        have hil : i < l.length := by omega
        have hg := (hb i l[i] hin (List.getElem?_eq_getElem hil)).1
        unfold qOp at h1
        unfold wpOp
        rw [htk i hin] at h1
        have e : l.toArray[i]? = some l[i] := by simp [hil]
        rw [e] at h1 ⊢
        simp only at h1 ⊢
        rw [wanted_take hg] at h1
        have hnext : ∀ a' w', C w' → wpAnyQ P .any (l.take n).toArray C Qa f (listed'.setIfInBounds i true) a' → wpAny P .any l.toArray Q' (f + (l.length - n)) (listed.setIfInBounds i true) a' w' := by
          intro a' w' hw' h'
          refine ih _ _ a' w' hw' (inv.set hi hin) (by simp [hsz]) (fun j b hj => ?_) h'
          by_cases eij : i = j
          · subst eij
            simp [hsz, hin, inv.size, hil]
          · rw [getD_set_ne b eij, getD_set_ne b eij, hll j b hj]
        by_cases hwt : Region.wanted l[i] (yielded l.toArray a.tmps) = true
        · rw [if_pos hwt] at h1 ⊢
          exact .inl (Oper.wp_of_quiet hw hnext h1)
        · rw [if_neg hwt] at h1 ⊢
          exact hnext _ _ hw h1
theorem wp_region_qt {id : Nat} {Q : Exit → Act → World → Prop} {a : Act} {w : World} {l : List Oper} (n : Nat) (hm : P.follows .mixedOrders = true) (hB : qtB l n = true) (hC : C { w with drawn := w.drawn + 1 })
    (h : wpQuiet P (l.take n).toArray C (fun a' => ∀ w', C w' → wpList P l.toArray Q (l.drop n) a' w') (l.take n) a) : (Code.region id l.toArray true).wp P Q a w := by
  unfold qtB at hB
  simp only [Bool.and_eq_true, decide_eq_true_eq] at hB
  obtain ⟨⟨⟨⟨⟨hlex, hn⟩, hs⟩, hc⟩, hb⟩, hq⟩ := hB
  simp only [Region.lexB, Bool.and_eq_true] at hlex
  have hb' : ∀ i o, i < n → l[i]? = some o → (∀ g, o.guard = some g → g.1 < n) ∧ ∀ e ∈ o.after, Region.binds .any e = true → e.on < i := by
    intro i o hi ho
    have := List.all_eq_true.1 hb i (List.mem_range.2 hi)
    rw [ho] at this
    simp only [Bool.and_eq_true] at this
    refine ⟨fun g hg => ?_, fun e he hbd => ?_⟩
    · have h1 := this.1
      rw [hg] at h1
      simpa using h1
    · have h1 := List.all_eq_true.1 this.2 e (by simpa using he)
      rw [hbd] at h1
      simpa using h1
  have hlen : (l.take n).length = n := by simp; omega
  have H := wpAnyQ_lex (P := P) (C := C) (md := .any) hlex.1 (l.take n) 0 (Array.replicate (l.take n).toArray.size false) a (by simp) (by simpa using hlex.2) h
  refine wp_region_any hm ?_
  have inv0 : HeadInv .any l.toArray n (Array.replicate l.toArray.size false) :=
    ⟨by simp, fun j oj _ hl => (by rw [getD_replicate_false] at hl; cases hl), fun t _ ht => getD_in (by simpa using ht) (getD_replicate_false _ _)⟩
  have := qt_any (P := P) (C := C) (Q' := Q) (Qa := fun a' => ∀ w', C w' → wpList P l.toArray Q (l.drop n) a' w') hn hs hc hb' hq (fun a w hw h => h w hw) (l.take n).length (Array.replicate l.toArray.size false) (Array.replicate (l.take n).toArray.size false) a _ hC inv0 (by simp; omega)
    (fun i b hi => by
      have h1 : i < l.length := by omega
      simp [hlen, hi, h1]) H
  rw [hlen, show n + (l.length - n) = l.toArray.size by simp; omega] at this
  exact this
end
/-- the rule in the class of the worlds that agree below -/
theorem wp_region_laterT {B : Nat} {w0 : World} {id : Nat} {Q : Exit → Act → World → Prop} {a : Act} {w : World} {l : List Oper} (n : Nat) (hm : Try.prog.follows .mixedOrders = true) (hB : qtB l n = true) (hw : Below B w0 w)
    (h : wpQuiet Try.prog (l.take n).toArray (fun w' => ∃ n : Later B w0, w' = n.w) (fun a' => ∀ w', (∃ n : Later B w0, w' = n.w) → wpList Try.prog l.toArray Q (l.drop n) a' w') (l.take n) a) : (Code.region id l.toArray true).wp Try.prog Q a w :=
  wp_region_qt (C := fun w' => ∃ n : Later B w0, w' = n.w) n hm hB ⟨⟨w.drew, below_drew1 hw⟩, rfl⟩ h
end Go.Proofs.Ytjfhjlbofoknfaa
