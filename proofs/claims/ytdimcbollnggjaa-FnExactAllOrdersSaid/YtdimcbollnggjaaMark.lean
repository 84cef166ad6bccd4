/- Walks of the functions that mark every number of a value in place and that look for the marks; what marking leaves of other values. -/
import Derived.Test.YtdimcbollnggjaaW5
import Derived.Deep.Slices
namespace Go.Proofs.Ytdimcbollnggjaa
set_option linter.unusedSimpArgs false
set_option linter.unusedVariables false
open Go.RowKit

theorem cset_same {w : World} {a : Addr} {v u : Value} (h : w.cell? a = some u) : (w.setCell a v).cell? a = some v := by
  apply World.cell?_setCell_same <;> assumption
theorem cset_other {w : World} {a b : Addr} {v : Value} (h : a ≠ b) : (w.setCell a v).cell? b = w.cell? b := by
  apply World.cell?_setCell_other <;> assumption
/-- a cell that held a number holds a number; any other cell holds what it held -/
def CellM (v v' : Value) : Prop := v' = v ∨ ∃ x x', v = .int .i64 x ∧ v' = .int .i64 x' ∧ I64 x'
theorem CellM.trans {a b c : Value} (h : CellM a b) (k : CellM b c) : CellM a c := by
  rcases k with rfl | ⟨x, x', rfl, rfl, hx⟩
  · exact h
  · rcases h with h | ⟨y, y', rfl, _, _⟩
    · exact .inr ⟨x, x', h.symm, rfl, hx⟩
    · exact .inr ⟨y, x', rfl, rfl, hx⟩
/-- w' is w but for numbers in cells of the blocks from lo on and below hi -/
structure Marked (lo hi : Nat) (w w' : World) : Prop where
  os : w'.os = w.os
  tape : w'.tape = w.tape
  output : w'.output = w.output
  size : w'.heap.size = w.heap.size
  out : ∀ k, (k < lo ∨ hi ≤ k) → w'.heap[k]? = w.heap[k]?
  cell : ∀ p v, w.cell? p = some v → ∃ v', w'.cell? p = some v' ∧ CellM v v'
  frz : ∀ p, w'.frozen? p = w.frozen? p
theorem Marked.refl (lo hi : Nat) (w : World) : Marked lo hi w w := ⟨rfl, rfl, rfl, rfl, fun _ _ => rfl, fun _ v h => ⟨v, h, .inl rfl⟩, fun _ => rfl⟩
theorem Marked.trans {lo hi : Nat} {a b c : World} (h : Marked lo hi a b) (k : Marked lo hi b c) : Marked lo hi a c :=
  ⟨k.os.trans h.os, k.tape.trans h.tape, k.output.trans h.output, k.size.trans h.size, fun i hi => (k.out i hi).trans (h.out i hi), fun p v hp => by
    obtain ⟨v', g1, g2⟩ := h.cell p v hp
    obtain ⟨v'', g3, g4⟩ := k.cell p v' g1
    exact ⟨v'', g3, g2.trans g4⟩, fun p => (k.frz p).trans (h.frz p)⟩
theorem Marked.drewN {lo hi : Nat} {a b : World} (h : Marked lo hi a b) (m : Nat) : Marked lo hi a (b.drewN m) := ⟨h.os, h.tape, h.output, h.size, h.out, h.cell, h.frz⟩
theorem Marked.wide {lo hi lo' hi' : Nat} {a b : World} (h : Marked lo hi a b) (h1 : lo' ≤ lo) (h2 : hi ≤ hi') : Marked lo' hi' a b := ⟨h.os, h.tape, h.output, h.size, fun k hk => h.out k (by omega), h.cell, h.frz⟩
theorem Marked.below {lo hi : Nat} {a b : World} (h : Marked lo hi a b) : Below lo a b := ⟨h.os, h.tape, h.output, by rw [h.size]; exact Nat.le_refl _, fun k hk => h.out k (.inl hk)⟩
theorem Marked.keeps {lo hi lo' hi' : Nat} {a b : World} (h : Marked lo hi a b) (hd : hi' ≤ lo ∨ hi ≤ lo') : Keeps lo' hi' a b := fun k h1 h2 => h.out k (by omega)
theorem marked_set {lo hi : Nat} {w : World} {b o : Nat} {x x' : Int} (h : w.cell? ⟨b, o, none⟩ = some (.int .i64 x)) (h1 : lo ≤ b) (h2 : b < hi) (hx : I64 x') : Marked lo hi w (w.setCell ⟨b, o, none⟩ (.int .i64 x')) := by
  refine ⟨rfl, rfl, rfl, by simp [World.setCell], fun k hk => ?_, fun p v hp => ?_, fun p => by simp⟩
  · rw [heap_setCell_other w ⟨b, o, none⟩ k _ (by show k ≠ b; omega)]
  · by_cases e : (⟨b, o, none⟩ : Addr) = p
    · subst e
      rw [h] at hp
      cases hp
      exact ⟨_, cset_same h, .inr ⟨x, x', rfl, rfl, hx⟩⟩
    · exact ⟨v, by rw [cset_other e]; exact hp, .inl rfl⟩
theorem IntsA.marked {lo hi lo' hi' : Nat} {w w' : World} {a : Option Addr} {n c : Nat} {xs : List Int} (h : IntsA true lo hi w a n c xs) (hm : Marked lo' hi' w w') : ∃ ys, IntsA true lo hi w' a n c ys := by
  obtain ⟨h1, h2, h3, h4, h5, h6⟩ := h
  by_cases hn : 0 < n
  · obtain ⟨b, off, ha, hl, hb, hc⟩ := h5 hn
    have each : ∀ i, i < n → ∃ y : Int, I64 y ∧ w'.cell? ⟨b, off + i, none⟩ = some (.int .i64 y) := by
      intro i hi
      obtain ⟨v', g1, g2⟩ := hm.cell _ _ (hc i hi).1
      rcases g2 with rfl | ⟨_, y, _, rfl, hy⟩
      · exact ⟨ix xs i, by rw [ix_lt (by omega)]; exact h4 _ (List.getElem_mem _), g1⟩
      · exact ⟨y, hy, g1⟩
    obtain ⟨y, hy⟩ := Deep.choose_lt each
    refine ⟨(List.range n).map y, by simp, h2, h3, ?_, fun _ => ⟨b, off, ha, hl, hb, fun i hi => ⟨?_, fun hf => by rw [hm.frz]; exact (hc i hi).2 hf⟩⟩, h6⟩
    · intro z hz
      obtain ⟨i, hi, rfl⟩ := List.mem_map.1 hz
      exact (hy i (by simpa using hi)).1
    · rw [(hy i hi).2]; simp [ix, hi]
  · exact ⟨xs, h1, h2, h3, h4, fun h => absurd h hn, h6⟩
/-- the numbers k, k + 1, .. -/
def marks (k : Int) : Nat → List Int
  | 0 => []
  | n + 1 => marks k n ++ [k + n]
theorem marks_len (k : Int) (n : Nat) : (marks k n).length = n := by
  induction n with
  | zero => rfl
  | succ n ih => simp [marks, ih]
theorem marks_ix (k : Int) {n i : Nat} (h : i < n) : ix (marks k n) i = k + i := by
  induction n with
  | zero => omega
  | succ n ih =>
    simp only [marks, ix, List.getD]
    by_cases e : i < n
    · rw [List.getElem?_append_left (by rw [marks_len]; exact e)]; exact ih e
    · obtain rfl : i = n := by omega
      rw [List.getElem?_append_right (by rw [marks_len]; exact Nat.le_refl _), marks_len]; simp
theorem marks_i64 {k : Int} {n : Nat} (h0 : 0 ≤ k) (h1 : k ≤ 4194304) (hn : n ≤ 1048576) : ∀ z ∈ marks k n, I64 z := by
  induction n with
  | zero => intro z hz; simp [marks] at hz
  | succ n ih =>
    intro z hz
    simp only [marks, List.mem_append, List.mem_singleton] at hz
    rcases hz with hz | rfl
    · exact ih (by omega) z hz
    · unfold I64; omega
/-- The call returns a number and leaves marks alone. -/
def GivesMarked (lo hi : Nat) (w : World) (r : Int) (a : Option Addr) (n c : Nat) (ys : List Int) (e : Ending) (w' : World) : Prop :=
  e = .returned (.int .i64 r) ∧ Marked lo hi w w' ∧ IntsA true lo hi w' a n c ys

set_option maxHeartbeats 800000 in
theorem markInts {lo hi : Nat} (a : Option Addr) (n c : Nat) (xs : List Int) (k : Int) (w : World) (hI : IntsA true lo hi w a n c xs) (h0 : 0 ≤ k) (h1 : k ≤ 4194304) (hn : n ≤ 1048576) :
    Calls Try.prog 25 #[.slice a n c, .int .i64 k] w (GivesMarked lo hi w (k + n) a n c (marks k n)) := by
  have hs := hI.small
  by_cases hn0 : 0 < n
  · obtain ⟨b, off, rfl, hlo, hhi, hc, hz⟩ := hI.open hn0
    have hz := hz rfl
    have hcap := hI.2.1
    have hcm := hI.2.2.1
    have HC := hid (And.intro hc hz)
    have HI := hid hI; clear hI hc hz
    go_enter Try.func25, Try.ntmps25
    go_wp2
    go_loopw [1, 5] (fun q i wr => ∃ (j : Nat) (t : Int), i = .int .i64 j ∧ q = .int .i64 t ∧ t = k + j ∧ j ≤ n ∧ Marked lo hi w wr ∧ ∀ i, i < j → wr.cell? ⟨b, off + i, none⟩ = some (.int .i64 (k + i))) (fun _ i _ => n - (intOf i).toNat)
    case atStart => exact ⟨0, _, rfl, rfl, by omega, by omega, Marked.refl _ _ _, fun i hi => by omega⟩
    case round =>
      obtain ⟨j, t, rfl, rfl, ht, hj, hm, hcells⟩ := hrel
      have ht1 : 0 ≤ t := by omega
      have ht2 : t ≤ 5242880 := by omega
      have HT := hid ht; clear ht
      have HM := hid hm; clear hm
      have HCE := hid hcells; clear hcells
      by_cases hlt : j < n
      · obtain ⟨v', hv, hcm'⟩ := HM.out.cell _ _ (HC.out.1 j hlt)
        obtain ⟨y, hy⟩ : ∃ y, wr.cell? ⟨b, off + j, none⟩ = some (.int .i64 y) := by
          rcases hcm' with rfl | ⟨_, y, _, rfl, _⟩
          · exact ⟨_, hv⟩
          · exact ⟨y, hv⟩
        have hf : wr.frozen? ⟨b, off + j, none⟩ = false := by rw [HM.out.frz]; exact HC.out.2 j hlt
        have HMS := hid (marked_set (x' := t) hy hlo hhi (by unfold I64; omega))
        clear hv hcm'
        have HY := hid hy
        go_wp2
        go_roundw
        case rel => exact ⟨j + 1, _, by go_num, rfl, by have := HT.out; omega, by omega, HM.out.trans HMS.out, fun i hi => by
          by_cases e : i = j
          · subst e; rw [cset_same HY.out, HT.out]
          · rw [cset_other (by intro h; simp only [Addr.mk.injEq] at h; omega)]; exact HCE.out i (by omega)⟩
        case measure => simp [intOf]; omega
      · go_wp2
        go_ret
        refine ⟨ret_int (by have := HT.out; omega), HM.out, marks_len _ _, hcap, hcm, marks_i64 h0 h1 hn, fun _ => ⟨b, off, rfl, hlo, hhi, fun i hi => ⟨?_, fun _ => ?_⟩⟩, fun h => nomatch h⟩
        · rw [marks_ix k hi]; exact HCE.out i (by omega)
        · rw [HM.out.frz]; exact HC.out.2 i hi
  · have hn0' : n ≤ 0 := by omega
    have HI := hid hI; clear hI
    go_enter Try.func25, Try.ntmps25
    go_wp2
    go_loopw [1, 5] (fun q i wr => i = .int .i64 0 ∧ q = .int .i64 k ∧ wr = w) (fun _ i _ => n - (intOf i).toNat)
    case atStart => exact ⟨rfl, rfl, rfl⟩
    case round =>
      obtain ⟨rfl, rfl, rfl⟩ := hrel
      go_wp2
      go_ret
      have hx := HI.out
      obtain rfl : n = 0 := by omega
      exact ⟨ret_int (by omega), Marked.refl _ _ _, rfl, hx.2.1, hx.2.2.1, (fun z hz => by simp [marks] at hz), (fun h => by omega), hx.2.2.2.2.2⟩

set_option maxHeartbeats 400000 in
theorem heldInts {fz : Bool} {lo hi : Nat} (a : Option Addr) (n c : Nat) (k : Int) (w : World) (hI : IntsA fz lo hi w a n c (marks k n)) (h0 : 0 ≤ k) (h1 : k ≤ 4194304) (hn : n ≤ 1048576) :
    Calls Try.prog 26 #[.slice a n c, .int .i64 k] w (Gives w (.int .i64 (k + n))) := by
  have hs := hI.small
  go_enter Try.func26, Try.ntmps26
  go_wp2
  go_loopw [1, 5] (fun q i wr => ∃ (j : Nat) (t : Int), i = .int .i64 j ∧ q = .int .i64 t ∧ t = k + j ∧ j ≤ n ∧ ∃ m, wr = w.drewN m) (fun _ i _ => n - (intOf i).toNat)
  case atStart => exact ⟨0, _, rfl, rfl, by omega, by omega, 0, rfl⟩
  case round =>
    obtain ⟨j, t, rfl, rfl, ht, hj, m, rfl⟩ := hrel
    have ht1 : 0 ≤ t := by omega
    have ht2 : t ≤ 5242880 := by omega
    by_cases hlt : j < n
    · obtain ⟨b, off, rfl, _, _, hc, _⟩ := hI.open (by omega)
      have c0 := hc j hlt
      rw [marks_ix k hlt, ← ht] at c0
      have HT := hid ht; clear ht hc
      have hb : (t != t) = false := by simp
      go_wp2
      go_roundw
      case rel => exact ⟨j + 1, _, by go_num, rfl, by have := HT.out; omega, by omega, by first | exact ⟨_, rfl⟩ | exact ⟨_, dd⟩⟩
      case measure => simp [intOf]; omega
    · have HT := hid ht; clear ht
      go_wp2
      go_ret
      exact ⟨ret_int (by have := HT.out; omega), by first | exact ⟨_, rfl⟩ | exact ⟨_, dd⟩⟩
/- Walks: marking every number of a list of lists. -/
theorem CellM.slice {a : Option Addr} {n c : Nat} {v : Value} (h : CellM (.slice a n c) v) : v = .slice a n c := by
  rcases h with h | ⟨_, _, h, _⟩
  · exact h
  · cases h
/-- The call returns a number; of the world only numbers in the blocks from lo on and below hi may have turned. -/
def GivesM (lo hi : Nat) (w : World) (r : Int) (e : Ending) (w' : World) : Prop := e = .returned (.int .i64 r) ∧ Marked lo hi w w'

set_option maxHeartbeats 800000 in
theorem markRows {lo hi : Nat} (a : Option Addr) (n c : Nat) (xss : List (List Int)) (k : Int) (w : World) (hI : RowsA true lo hi w a n c xss) (h0 : 0 ≤ k) (h1 : k ≤ 2097152) (hn : n ≤ 1048576) (hsum : lens xss xss.length ≤ 1048576) :
    Calls Try.prog 11 #[.slice a n c, .int .i64 k] w (GivesM lo hi w (k + lens xss n)) := by
  have hl := hI.len
  have hs := hI.small
  have HL := hid hl; clear hl
  have HS := hid hsum; clear hsum
  go_enter Try.func11, Try.ntmps11
  go_wp2
  go_loopw [1, 5] (fun q i wr => ∃ (j : Nat) (t : Int), i = .int .i64 j ∧ q = .int .i64 t ∧ t = k + lens xss j ∧ j ≤ n ∧ Marked lo hi w wr) (fun _ i _ => n - (intOf i).toNat)
  case atStart => exact ⟨0, _, rfl, rfl, by simp [lens], by omega, Marked.refl _ _ _⟩
  case round =>
    obtain ⟨j, t, rfl, rfl, ht, hj, hm⟩ := hrel
    have hlj : lens xss j ≤ 1048576 := Nat.le_trans (lens_mono (by rw [HL.out]; exact hj)) HS.out
    have ht1 : 0 ≤ t := by omega
    have ht2 : t ≤ 4194304 := by omega
    have HT := hid ht; clear ht hlj
    have HM := hid hm; clear hm
    by_cases hlt : j < n
    · obtain ⟨b, off, rfl⟩ := hI.some (by omega)
      obtain ⟨_, _, ra, rn, rc, hc, hr, _⟩ := hI.at hlt
      obtain ⟨v', hv, hcm⟩ := HM.out.cell _ _ hc
      obtain rfl := hcm.slice
      obtain ⟨ys, hy⟩ := hr.marked HM.out
      have hrn := hr.len
      have hrn2 : rn ≤ 1048576 := by have h2 := lens_row (xss := xss) (i := j) (k := xss.length) (by rw [HL.out]; exact hlt); have h3 := HS.out; omega
      have HR := hid hrn
      have HY := hid hy
      clear hc hcm hr hy hrn
      go_wp2_with fail
      refine (markInts ra rn rc ys t wr HY.out ht1 ht2 hrn2).mono ?_
      rintro e w1 ⟨rfl, hm1, _⟩
      have HM1 := hid hm1; clear hm1
      go_wp2
      go_roundw
      case rel => exact ⟨j + 1, _, by go_num, rfl, by have h1 := HT.out; have h2 := HR.out; simp only [lens]; omega, by omega, HM.out.trans HM1.out⟩
      case measure => simp [intOf]; omega
    · go_wp2
      go_ret
      obtain rfl : j = n := by omega
      exact ⟨ret_int HT.out, HM.out⟩
end Go.Proofs.Ytdimcbollnggjaa
