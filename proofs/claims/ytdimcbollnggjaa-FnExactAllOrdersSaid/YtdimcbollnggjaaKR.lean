/- Rows of numbers as a law's result: the words. -/
import Derived.Test.YtdimcbollnggjaaBR
import Derived.Test.YtdimcbollnggjaaK1
namespace Go.Proofs.Ytdimcbollnggjaa
set_option linter.unusedSimpArgs false
set_option linter.unusedVariables false
open Go.RowKit
section
variable {fz : Bool} {lo hi B lo' : Nat} {w w' : World} {a : Option Addr} {n c : Nat} {rows : List (List Int)}
theorem kpRows (h : RowsA fz lo hi w a n c rows) (hb : Keeps lo hi w w') : RowsA fz lo hi w' a n c rows := SlA.keep intsOK h hb
theorem beRows (h : RowsA fz lo hi w a n c rows) (hb : Below B w w') (hh : hi ≤ B) : RowsA fz lo hi w' a n c rows := SlA.be intsOK h hb hh
theorem wdRows (h : RowsA fz lo hi w a n c rows) (hl : lo' ≤ lo) : RowsA fz lo' hi w a n c rows := SlA.wide intsOK h hl (Nat.le_refl _)
theorem kpRowsS (h : RowsS lo hi w a n c rows) (hb : Keeps lo hi w w') : RowsS lo hi w' a n c rows := SepA.keep intsQOK h hb
theorem beRowsS (h : RowsS lo hi w a n c rows) (hb : Below B w w') (hh : hi ≤ B) : RowsS lo hi w' a n c rows := kpRowsS h (Keeps.of_below hb hh)
theorem wdRowsS (h : RowsS lo hi w a n c rows) (hl : lo' ≤ lo) : RowsS lo' hi w a n c rows := SepA.wide h hl (Nat.le_refl _)
end
def GvMarkRows (lo hi : Nat) (w : World) (k : Int) (a : Option Addr) (n c : Nat) (rows : List (List Int)) (e : Ending) (w' : World) : Prop := e = .returned (.int .i64 (k + (lens rows rows.length : Nat))) ∧ MarkedG lo hi w w' ∧ RowsA true lo hi w' a n c (mkRows k rows)
theorem eqK_Rows {fz fz' : Bool} {lo hi lo' hi' : Nat} (a a' : Option Addr) (n c n' c' : Nat) (rows : List (List Int)) (w : World) (hI : RowsA fz lo hi w a n c rows) (hJ : RowsA fz' lo' hi' w a' n' c' rows) :
    Calls Try.prog 8 #[.slice a n c, .slice a' n' c'] w (Leaves w (.bool true)) := by
  have := eqRows a a' n c n' c' rows rows w hI hJ
  rw [show eqLL rows rows = true by simp [eqLL]] at this
  exact this.mono fun _ _ h => h.leaves
theorem resK_Rows {lo hi : Nat} (a : Option Addr) (n c : Nat) (rows : List (List Int)) (k : Int) (w : World) (hI : RowsS lo hi w a n c rows) (hh : hi ≤ w.heap.size) (h0 : 0 ≤ k) (h1 : k ≤ 1048576) (hs : rowsSz rows ≤ 1048576) :
    Calls Try.prog 11 #[.slice a n c, .int .i64 k] w (GvMarkRows lo hi w k a n c rows) := by
  have hl := hI.len
  refine (markRowsS a n c rows k w hI h0 (by omega) hs).mono ?_
  rintro e w' ⟨h2, h3, h4⟩
  exact ⟨by rw [hl]; exact h2, .of_marked h3, h4.rows⟩
theorem heldK_Rows {fz : Bool} {lo hi : Nat} (a : Option Addr) (n c : Nat) (rows : List (List Int)) (k : Int) (w : World) (hI : RowsA fz lo hi w a n c (mkRows k rows)) (hh : hi ≤ w.heap.size) (h0 : 0 ≤ k) (h1 : k ≤ 1048576) (hs : rowsSz rows ≤ 1048576) :
    Calls Try.prog 12 #[.slice a n c, .int .i64 k] w (Leaves w (.int .i64 (k + (lens rows rows.length : Nat)))) := by
  have hl : rows.length = n := by rw [← mkRows_len k rows]; exact hI.len
  have := (heldRows a n c rows k w hI h0 (by omega) hs).mono fun _ _ h => h.leaves
  rw [← hl] at this ⊢
  exact this
end Go.Proofs.Ytdimcbollnggjaa
