/- Walks: valid relations and tries by value. -/
import Derived.Test.YtpamedlmbopfjaaQ6
namespace Go.Proofs.Ytpamedlmbopfjaa
set_option linter.unusedSimpArgs false
set_option linter.unusedVariables false
open Go.RowKit
section
variable {α : Type} {k : Nat} {R : Rep α} {fz : Bool} {lo hi : Nat} {w w' : World} {a : Option Addr} {n c : Nat} {xs : List α}
theorem SlA.be (ok : RepOK R) (h : SlA k R fz lo hi w a n c xs) {B : Nat} (hb : Below B w w') (hh : hi ≤ B) : SlA k R fz lo hi w' a n c xs := h.keep ok (Keeps.of_below hb hh)
theorem SlA.al (ok : RepOK R) (h : SlA k R fz lo hi w a n c xs) (hh : hi ≤ w.heap.size) (o : Obj) : SlA k R fz lo hi (w.alloc o) a n c xs := h.be ok ((Below.refl _ _).alloc (Nat.le_refl _) o) hh
end
theorem IntsA.be {fz : Bool} {lo hi : Nat} {w w' : World} {a : Option Addr} {n c : Nat} {xs : List Int} (h : IntsA fz lo hi w a n c xs) {B : Nat} (hb : Below B w w') (hh : hi ≤ B) : IntsA fz lo hi w' a n c xs := h.keep (Keeps.of_below hb hh)
theorem IntsA.al {fz : Bool} {lo hi : Nat} {w : World} {a : Option Addr} {n c : Nat} {xs : List Int} (h : IntsA fz lo hi w a n c xs) (hh : hi ≤ w.heap.size) (o : Obj) : IntsA fz lo hi (w.alloc o) a n c xs := h.be ((Below.refl _ _).alloc (Nat.le_refl _) o) hh
theorem Below.al {B : Nat} {a w : World} (h : Below B a w) (hb : B ≤ w.heap.size) (o : Obj) : Below B a (w.alloc o) := h.alloc hb o
theorem Gives.leaves {w : World} {v : Value} {e : Ending} {w' : World} (h : Gives w v e w') : Leaves w v e w' := by
  obtain ⟨rfl, m, rfl⟩ := h; exact ⟨rfl, below_drewN (Below.refl _ _) m⟩
theorem bcell {W w1 : World} (hb : Below W.heap.size W w1) : (∀ b o, b < W.heap.size → w1.cell? ⟨b, o, none⟩ = W.cell? ⟨b, o, none⟩) ∧ (∀ b o, b < W.heap.size → w1.frozen? ⟨b, o, none⟩ = W.frozen? ⟨b, o, none⟩) :=
  ⟨fun b o h => hb.cell (p := ⟨b, o, none⟩) h, fun b o h => hb.frozen (p := ⟨b, o, none⟩) h⟩
theorem Keeps.sc {lo hi : Nat} {w w' : World} {b o : Nat} (h : Keeps lo hi w w') (hb : b < lo ∨ hi ≤ b) (v : Value) : Keeps lo hi w (w'.setCell ⟨b, o, none⟩ v) := fun k h1 h2 => by
  rw [heap_setCell_other w' ⟨b, o, none⟩ k _ (by show k ≠ b; omega)]; exact h k h1 h2
theorem Keeps.al {lo hi : Nat} {w w' : World} (h : Keeps lo hi w w') (hh : hi ≤ w'.heap.size) (o : Obj) : Keeps lo hi w (w'.alloc o) := h.trans (Keeps.of_below ((Below.refl _ _).alloc (Nat.le_refl _) o) hh)
theorem Keeps.dr {lo hi : Nat} {w w' : World} (h : Keeps lo hi w w') (m : Nat) : Keeps lo hi w (w'.drewN m) := h
/-- the value of a struct of a number and a list of lists -/
abbrev trieV (ar : Int) (a : Option Addr) (n c : Nat) : Value := .agg #[.int .i64 ar, .slice a n c]
set_option maxHeartbeats 400000 in
theorem implAsRel (ar : Int) (a : Option Addr) (n c : Nat) (w : World) :
    Calls Try.prog 35 #[trieV ar a n c] w (Leaves w (trieV ar a n c)) := by
  go_enter Try.func35, Try.ntmps35
  go_wp2
  exact bodyPost_ret (v := trieV ar a n c) (by simp [results, Try.results35, go_sem]) rfl ⟨rfl, (by repeat (first | with_reducible assumption | with_reducible exact Below.refl _ _ | with_reducible refine below_drewN ?_ _ | with_reducible refine Below.al ?_ (by first | with_reducible exact Nat.le_refl _ | omega | (simp; done) | (simp; omega) | exact Nat.le_refl _) _ | with_reducible refine Below.setCell ?_ (by first | with_reducible exact Nat.le_refl _ | omega | (simp; done) | (simp; omega) | exact Nat.le_refl _) _ | assumption | exact Below.refl _ _ | refine below_drewN ?_ _ | refine Below.al ?_ (by first | with_reducible exact Nat.le_refl _ | omega | (simp; done) | (simp; omega) | exact Nat.le_refl _) _ | refine Below.setCell ?_ (by first | with_reducible exact Nat.le_refl _ | omega | (simp; done) | (simp; omega) | exact Nat.le_refl _) _))⟩
set_option maxHeartbeats 400000 in
theorem specAsRel (ar : Int) (a : Option Addr) (n c : Nat) (w : World) :
    Calls Try.prog 41 #[trieV ar a n c] w (Leaves w (trieV ar a n c)) := by
  go_enter Try.func41, Try.ntmps41
  go_wp2
  exact bodyPost_ret (v := trieV ar a n c) (by simp [results, Try.results41, go_sem]) rfl ⟨rfl, (by repeat (first | with_reducible assumption | with_reducible exact Below.refl _ _ | with_reducible refine below_drewN ?_ _ | with_reducible refine Below.al ?_ (by first | with_reducible exact Nat.le_refl _ | omega | (simp; done) | (simp; omega) | exact Nat.le_refl _) _ | with_reducible refine Below.setCell ?_ (by first | with_reducible exact Nat.le_refl _ | omega | (simp; done) | (simp; omega) | exact Nat.le_refl _) _ | assumption | exact Below.refl _ _ | refine below_drewN ?_ _ | refine Below.al ?_ (by first | with_reducible exact Nat.le_refl _ | omega | (simp; done) | (simp; omega) | exact Nat.le_refl _) _ | refine Below.setCell ?_ (by first | with_reducible exact Nat.le_refl _ | omega | (simp; done) | (simp; omega) | exact Nat.le_refl _) _))⟩
set_option maxHeartbeats 400000 in
theorem implValidRel {fz : Bool} {lo hi : Nat} (ar : Int) (a : Option Addr) (n c : Nat) (rows : List (List Int)) (w : World) (hI : RowsA fz lo hi w a n c rows) (hh : hi ≤ w.heap.size) (har : I64 ar) :
    Calls Try.prog 36 #[trieV ar a n c] w (Leaves w (.bool (validR ar rows))) := by
  have HAR := hid har; clear har
  go_enter Try.func36, Try.ntmps36
  go_wp2_with fail
  refine (implRowsValid ar a n c rows _ (hI.al intsOK hh _) HAR.out).mono ?_
  rintro e w1 ⟨rfl, m1, rfl⟩
  go_wp2_with fail
  go_ret
  exact ⟨rfl, (by repeat (first | with_reducible assumption | with_reducible exact Below.refl _ _ | with_reducible refine below_drewN ?_ _ | with_reducible refine Below.al ?_ (by first | with_reducible exact Nat.le_refl _ | omega | (simp; done) | (simp; omega) | exact Nat.le_refl _) _ | with_reducible refine Below.setCell ?_ (by first | with_reducible exact Nat.le_refl _ | omega | (simp; done) | (simp; omega) | exact Nat.le_refl _) _ | assumption | exact Below.refl _ _ | refine below_drewN ?_ _ | refine Below.al ?_ (by first | with_reducible exact Nat.le_refl _ | omega | (simp; done) | (simp; omega) | exact Nat.le_refl _) _ | refine Below.setCell ?_ (by first | with_reducible exact Nat.le_refl _ | omega | (simp; done) | (simp; omega) | exact Nat.le_refl _) _))⟩
set_option maxHeartbeats 400000 in
theorem implValidTrie {fz : Bool} {lo hi : Nat} (ar : Int) (a : Option Addr) (n c : Nat) (rows : List (List Int)) (w : World) (hI : RowsA fz lo hi w a n c rows) (hh : hi ≤ w.heap.size) (har : I64 ar) :
    Calls Try.prog 21 #[trieV ar a n c] w (Leaves w (.bool (validR ar rows))) := by
  have HAR := hid har; clear har
  go_enter Try.func21, Try.ntmps21
  go_wp2_with fail
  refine (implAsRel ar a n c _).mono ?_
  rintro e w1 ⟨rfl, hb1⟩
  have hb2 : Below w.heap.size w w1 := Below.trans (by repeat (first | with_reducible assumption | with_reducible exact Below.refl _ _ | with_reducible refine below_drewN ?_ _ | with_reducible refine Below.al ?_ (by first | with_reducible exact Nat.le_refl _ | omega | (simp; done) | (simp; omega) | exact Nat.le_refl _) _ | with_reducible refine Below.setCell ?_ (by first | with_reducible exact Nat.le_refl _ | omega | (simp; done) | (simp; omega) | exact Nat.le_refl _) _ | assumption | exact Below.refl _ _ | refine below_drewN ?_ _ | refine Below.al ?_ (by first | with_reducible exact Nat.le_refl _ | omega | (simp; done) | (simp; omega) | exact Nat.le_refl _) _ | refine Below.setCell ?_ (by first | with_reducible exact Nat.le_refl _ | omega | (simp; done) | (simp; omega) | exact Nat.le_refl _) _)) (hb1.mono (by first | with_reducible exact Nat.le_refl _ | omega | (simp; done) | (simp; omega) | exact Nat.le_refl _))
  have hz := hb2.size
  go_wp2_with fail
  refine (implValidRel ar a n c rows _ (hI.be intsOK hb2 hh) (by omega) HAR.out).mono ?_
  rintro e w2 ⟨rfl, hb3⟩
  go_wp2_with fail
  go_ret
  exact ⟨rfl, Below.calm hb2 hb3⟩
end Go.Proofs.Ytpamedlmbopfjaa
