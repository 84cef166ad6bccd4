/- Atoms: a name and a list of variables; slices of them: how they read, and the laws' own functions on them. -/
import Derived.Test.YtalfldflnacpeaaK1
namespace Go.Proofs.Ytalfldflnacpeaa
set_option linter.unusedSimpArgs false
set_option linter.unusedVariables false
open Go.RowKit
/-- an atom: a name and its variables -/
structure AtomD where
  nm : ByteArray
  vs : List Int
/-- the two cells of an atom -/
def atomR : Rep AtomD := fun fz lo hi w cs x => ∃ a n c, cs = [.string x.nm, .slice a n c] ∧ x.nm.size ≤ 9223372036854775807 ∧ IntsA fz lo hi w a n c x.vs
theorem atomOK : RepOK atomR :=
  ⟨fun ⟨a, n, c, h1, h2, h3⟩ hk => ⟨a, n, c, h1, h2, h3.keep hk⟩, fun ⟨a, n, c, h1, h2, h3⟩ g1 g2 => ⟨a, n, c, h1, h2, h3.wide g1 g2⟩, fun ⟨a, n, c, h1, h2, h3⟩ => ⟨a, n, c, h1, h2, h3.read⟩⟩
abbrev AtomsA := SlA 2 atomR
/-- atom i, closed to simp -/
def ax (xs : List AtomD) (i : Nat) : AtomD := xs.getD i ⟨⟨#[]⟩, []⟩
theorem ax_lt {xs : List AtomD} {i : Nat} (h : i < xs.length) : ax xs i = xs[i] := by simp [ax, h]
theorem atomsSome {fz : Bool} {lo hi : Nat} {w : World} {a : Option Addr} {n c : Nat} {xs : List AtomD} (h : AtomsA fz lo hi w a n c xs) (hn : 0 < n) : ∃ b off, a = some ⟨b, off, none⟩ := by
  obtain ⟨b, off, ha, _⟩ := h.open hn
  exact ⟨b, off, ha⟩
theorem atomsAt {fz : Bool} {lo hi : Nat} {w : World} {b off n c : Nat} {xs : List AtomD} (h : AtomsA fz lo hi w (some ⟨b, off, none⟩) n c xs) {i : Nat} (hi' : i < n) :
    lo ≤ b ∧ b < hi ∧ (ax xs i).nm.size ≤ 9223372036854775807 ∧ ∃ ra rn rc, w.cell? ⟨b, off + i * 2, none⟩ = some (.string (ax xs i).nm) ∧ w.cell? ⟨b, off + i * 2 + 1, none⟩ = some (.slice ra rn rc) ∧ IntsA fz lo hi w ra rn rc (ax xs i).vs ∧
      (fz = true → w.frozen? ⟨b, off + i * 2, none⟩ = false ∧ w.frozen? ⟨b, off + i * 2 + 1, none⟩ = false) := by
  obtain ⟨b', off', ha, hl, hb, hc⟩ := h.open (by omega)
  simp only [Option.some.injEq, Addr.mk.injEq, and_true] at ha
  obtain ⟨rfl, rfl⟩ := ha
  obtain ⟨cs, x, g1, g2, ⟨ra, rn, rc, rfl, g3, g5⟩, g4⟩ := hc i hi'
  have k0 := g4 0 (by omega)
  have k1 := g4 1 (by omega)
  have hx : ax xs i = x := by simp [ax, g2]
  rw [hx]
  exact ⟨hl, hb, g3, ra, rn, rc, by simpa using k0.1, by simpa using k1.1, g5, fun hf => ⟨by simpa using k0.2 hf, by simpa using k1.2 hf⟩⟩
/-- how many places the first k atoms take in the measure -/
def atomLens (xs : List AtomD) : Nat → Nat
  | 0 => 0
  | k + 1 => atomLens xs k + ((ax xs k).nm.size + (ax xs k).vs.length)
def atomsSz (xs : List AtomD) : Nat := xs.length + atomLens xs xs.length
/-- the value of an atom -/
abbrev atomV (s : ByteArray) (a : Option Addr) (n c : Nat) : Value := .agg #[.string s, .slice a n c]
/-- The call returns an atom in new memory; nothing that was there has turned. -/
def GvAtom (w : World) (s : ByteArray) (xs : List Int) (e : Ending) (w' : World) : Prop := ∃ a n c, e = .returned (atomV s a n c) ∧ IntsA true w.heap.size w'.heap.size w' a n c xs ∧ Below w.heap.size w w'
/- An atom as an argument of a law: its words in one form. -/
def AtomA (fz : Bool) (lo hi : Nat) (w : World) (s : ByteArray) (a : Option Addr) (n c : Nat) (xs : List Int) : Prop := s.size ≤ 9223372036854775807 ∧ IntsA fz lo hi w a n c xs
def szAtomD (s : ByteArray) (xs : List Int) : Nat := s.size + xs.length
section
variable {fz : Bool} {lo hi B lo' : Nat} {w w' : World} {s : ByteArray} {a : Option Addr} {n c : Nat} {xs : List Int}
end
def GvAtomK (w : World) (s : ByteArray) (xs : List Int) (e : Ending) (w' : World) : Prop := ∃ a n c, e = .returned (atomV s a n c) ∧ AtomA true w.heap.size w'.heap.size w' s a n c xs ∧ Below w.heap.size w w'
end Go.Proofs.Ytalfldflnacpeaa
