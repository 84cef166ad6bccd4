/- Walks: measuring and comparing slices of atoms. -/
import Derived.Test.YtalfldflnacpeaaA1
import Derived.Test.YtalfldflnacpeaaCell
import Derived.Laws.BytesArg
namespace Go.Proofs.Ytalfldflnacpeaa
set_option linter.unusedSimpArgs false
set_option linter.unusedVariables false
open Go.RowKit
theorem AtomsA.be {fz : Bool} {lo hi B : Nat} {w w' : World} {a : Option Addr} {n c : Nat} {xs : List AtomD} (h : AtomsA fz lo hi w a n c xs) (hb : Below B w w') (hh : hi ≤ B) : AtomsA fz lo hi w' a n c xs := SlA.be atomOK h hb hh
/- Walks: copying a slice of atoms. -/
/-- the first 2k cells of block g hold the first k atoms; their lists lie behind g -/
def AtomsTo (g : Nat) (w : World) (n : Nat) (xs : List AtomD) (k : Nat) : Prop :=
  ∃ vs, w.ownsRow g 32 2 (.slice (some ⟨g, 0, none⟩) n n) n vs ∧ ∀ i, i < k → ∃ ra rn rc, vs[i * 2]? = some (.string (ax xs i).nm) ∧ vs[i * 2 + 1]? = some (.slice ra rn rc) ∧ IntsA true (g + 1) w.heap.size w ra rn rc (ax xs i).vs
theorem AtomsTo.put {g : Nat} {w w1 : World} {n : Nat} {xs : List AtomD} {k : Nat} (h : AtomsTo g w n xs k) (hk : k < n) (hg : g < w.heap.size) (hb : Below w.heap.size w w1) {ra : Option Addr} {rn rc : Nat}
    (hr : IntsA true w.heap.size w1.heap.size w1 ra rn rc (ax xs k).vs) :
    AtomsTo g ((w1.setCell ⟨g, k * 2, none⟩ (.string (ax xs k).nm)).setCell ⟨g, k * 2 + 1, none⟩ (.slice ra rn rc)) n xs (k + 1) ∧ Below g w ((w1.setCell ⟨g, k * 2, none⟩ (.string (ax xs k).nm)).setCell ⟨g, k * 2 + 1, none⟩ (.slice ra rn rc)) ∧
      (∃ v0, w1.cell? ⟨g, k * 2, none⟩ = some v0) ∧ (∃ v0, w1.cell? ⟨g, k * 2 + 1, none⟩ = some v0) ∧ w1.frozen? ⟨g, k * 2, none⟩ = false ∧ w1.frozen? ⟨g, k * 2 + 1, none⟩ = false := by
  obtain ⟨vs, ho, hv⟩ := h
  have hlen : vs.length = n * 2 := ho.1
  have ho1 : w1.ownsRow g 32 2 (.slice (some ⟨g, 0, none⟩) n n) n vs := ho.kept (row := none) ⟨hb.os, hb.tape, hb.output, hb.size, fun k hk _ => hb.block k hk⟩ (.inr (by simp [Value.ownBlock]))
  obtain ⟨hs1, hs2⟩ := ho1.stored (k * 2) (.string (ax xs k).nm)
  obtain ⟨ht1, ht2⟩ := hs1.stored (k * 2 + 1) (.slice ra rn rc)
  have hsz1 : (w1.setCell ⟨g, k * 2, none⟩ (.string (ax xs k).nm)).heap.size = w1.heap.size := szSet _ _ _
  have hsz : ((w1.setCell ⟨g, k * 2, none⟩ (.string (ax xs k).nm)).setCell ⟨g, k * 2 + 1, none⟩ (.slice ra rn rc)).heap.size = w1.heap.size := by rw [szSet, szSet]
  have hbs := hb.size
  have hset : Keeps (g + 1) w1.heap.size w1 ((w1.setCell ⟨g, k * 2, none⟩ (.string (ax xs k).nm)).setCell ⟨g, k * 2 + 1, none⟩ (.slice ra rn rc)) := Keeps.sc (Keeps.sc (Keeps.refl _ _ _) (.inl (by omega)) _) (.inl (by omega)) _
  refine ⟨⟨_, ht1, fun i hi => ?_⟩, ?_, ?_, ?_, ho1.frozenAt _, ho1.frozenAt _⟩
  · by_cases e : i = k
    · subst e
      refine ⟨ra, rn, rc, ?_, ?_, ?_⟩
      · rw [List.getElem?_set_ne (by omega), List.getElem?_set_self (by omega)]
      · rw [List.getElem?_set_self (by rw [List.length_set]; omega)]
      · rw [hsz]; exact (hr.wide (by omega) (Nat.le_refl _)).keep hset
    · obtain ⟨ra', rn', rc', g1, g2, g3⟩ := hv i (by omega)
      refine ⟨ra', rn', rc', ?_, ?_, ?_⟩
      · rw [List.getElem?_set_ne (by omega), List.getElem?_set_ne (by omega)]; exact g1
      · rw [List.getElem?_set_ne (by omega), List.getElem?_set_ne (by omega)]; exact g2
      · rw [hsz]; exact ((g3.keep (Keeps.of_below hb (Nat.le_refl _))).wide (Nat.le_refl _) hbs).keep hset
  · exact Below.setCell (Below.setCell (hb.mono (by omega)) (by dsimp only; omega) _) (by dsimp only; omega) _
  · have := ho1.cells (g := g) rfl (k * 2) (vs[k * 2]'(by omega)) (by simp)
    rw [Addr.add_lit] at this; exact ⟨_, by simpa using this⟩
  · have := ho1.cells (g := g) rfl (k * 2 + 1) (vs[k * 2 + 1]'(by omega)) (by simp)
    rw [Addr.add_lit] at this; exact ⟨_, by simpa using this⟩
/-- The call returns a slice of atoms in new memory; nothing that was there has turned. -/
def GvAtoms (w : World) (xs : List AtomD) (e : Ending) (w' : World) : Prop :=
  ∃ a n c, e = .returned (.slice a n c) ∧ AtomsA true w.heap.size w'.heap.size w' a n c xs ∧ Below w.heap.size w w'
/- Walks: marking a slice of atoms. -/
/-- The call returns some string; nothing that was there has turned. -/
def SomeStr (w : World) (e : Ending) (w' : World) : Prop := ∃ s : ByteArray, e = .returned (.string s) ∧ Below w.heap.size w w'
def MtRel (w : World) (a b : Value) (wr : World) : Prop := ∃ (t : Nat) (s : ByteArray), a = .int .i64 t ∧ b = .string s ∧ s.size + t ≤ 4194304 ∧ Hid (Below w.heap.size w wr)
/-- a cell that held a number holds a number, one that held a string a string; any other cell holds what it held -/
def CellQ (v v' : Value) : Prop := v' = v ∨ (∃ x x', v = .int .i64 x ∧ v' = .int .i64 x' ∧ I64 x') ∨ ∃ s s', v = .string s ∧ v' = .string s'
theorem CellM.q {v v' : Value} (h : CellM v v') : CellQ v v' := h.elim .inl (fun h => .inr (.inl h))
theorem CellQ.trans {a b c : Value} (h : CellQ a b) (k : CellQ b c) : CellQ a c := by
  rcases k with rfl | ⟨x, x', rfl, rfl, hx⟩ | ⟨x, x', rfl, rfl⟩
  · exact h
  · rcases h with h | ⟨y, y', rfl, _, _⟩ | ⟨y, y', _, h⟩
    · exact .inr (.inl ⟨x, x', h.symm, rfl, hx⟩)
    · exact .inr (.inl ⟨y, x', rfl, rfl, hx⟩)
    · cases h
  · rcases h with h | ⟨y, y', _, h, _⟩ | ⟨y, y', rfl, _⟩
    · exact .inr (.inr ⟨x, x', h.symm, rfl⟩)
    · cases h
    · exact .inr (.inr ⟨y, x', rfl, rfl⟩)
/-- w' is w with new blocks, but for numbers and strings in cells of the blocks from lo on and below hi -/
structure MarkedQ (lo hi : Nat) (w w' : World) : Prop where
  os : w'.os = w.os
  tape : w'.tape = w.tape
  output : w'.output = w.output
  size : w.heap.size ≤ w'.heap.size
  out : ∀ k, k < w.heap.size → (k < lo ∨ hi ≤ k) → w'.heap[k]? = w.heap[k]?
  cell : ∀ p v, w.cell? p = some v → ∃ v', w'.cell? p = some v' ∧ CellQ v v'
  frz : ∀ p, w.cell? p ≠ none → w'.frozen? p = w.frozen? p
theorem MarkedQ.of {lo hi : Nat} {w w' : World} (h : MarkedG lo hi w w') : MarkedQ lo hi w w' :=
  ⟨h.os, h.tape, h.output, h.size, h.out, fun p v hp => by obtain ⟨v', g1, g2⟩ := h.cell p v hp; exact ⟨v', g1, g2.q⟩, h.frz⟩
theorem MarkedQ.refl (lo hi : Nat) (w : World) : MarkedQ lo hi w w := ⟨rfl, rfl, rfl, Nat.le_refl _, fun _ _ _ => rfl, fun _ v h => ⟨v, h, .inl rfl⟩, fun _ _ => rfl⟩
theorem MarkedQ.trans {lo hi : Nat} {a b c : World} (h : MarkedQ lo hi a b) (k : MarkedQ lo hi b c) : MarkedQ lo hi a c := by
  have hs := h.size
  refine ⟨k.os.trans h.os, k.tape.trans h.tape, k.output.trans h.output, Nat.le_trans h.size k.size, fun i h1 h2 => (k.out i (by omega) h2).trans (h.out i h1 h2), fun p v hp => ?_, fun p hp => ?_⟩
  · obtain ⟨v', g1, g2⟩ := h.cell p v hp
    obtain ⟨v'', g3, g4⟩ := k.cell p v' g1
    exact ⟨v'', g3, g2.trans g4⟩
  · rw [k.frz p, h.frz p hp]
    cases hc : a.cell? p with
    | none => exact absurd hc hp
    | some v => obtain ⟨v', g1, _⟩ := h.cell p v hc; rw [g1]; exact fun h => nomatch h
theorem MarkedQ.keeps {lo hi lo' hi' : Nat} {a b : World} (h : MarkedQ lo hi a b) (hd : hi' ≤ lo ∨ hi ≤ lo') (hs : hi' ≤ a.heap.size) : Keeps lo' hi' a b := fun k h1 h2 => h.out k (by omega) (by omega)
theorem MarkedQ.below {lo hi B : Nat} {a b : World} (h : MarkedQ lo hi a b) (h1 : B ≤ lo) (h2 : B ≤ a.heap.size) : Below B a b := ⟨h.os, h.tape, h.output, h.size, fun k hk => h.out k (by omega) (.inl (by omega))⟩
def GivesMQ (lo hi : Nat) (w : World) (r : Int) (e : Ending) (w' : World) : Prop := e = .returned (.int .i64 r) ∧ MarkedQ lo hi w w'
/-- how many marks a slice of atoms takes -/
def atomCnt (xs : List AtomD) : Nat → Nat
  | 0 => 0
  | k + 1 => atomCnt xs k + (1 + (ax xs k).vs.length)
/- Slices of atoms in one form. -/
section
variable {fz : Bool} {lo hi B lo' hi' : Nat} {w w' : World} {a : Option Addr} {n c : Nat} {xs : List AtomD}
theorem beAtoms (h : AtomsA fz lo hi w a n c xs) (hb : Below B w w') (hh : hi ≤ B) : AtomsA fz lo hi w' a n c xs := SlA.be atomOK h hb hh
end
end Go.Proofs.Ytalfldflnacpeaa
