/- Closing a level, the next key, seeking a key: as their laws read them. -/
import Derived.Test.YthochdlbmaiclaaNI
import Derived.Test.YthochdlbmaiclaaIC8
namespace Go.Proofs.Ythochdlbmaiclaa
set_option linter.unusedSimpArgs false
set_option linter.unusedVariables false
open Go.RowKit
/-- the number, the rows and the lists as they are -/
def asIsN (x : Int) : Int := x
def asIsR (x : List (List Int)) : List (List Int) := x
def asIsL (x : List Int) : List Int := x
def asIsH (x : List Int) : List Int := x
noncomputable def clLw (ar : Int) (rows : List (List Int)) (lw gh ps : List Int) : List Int := clT (clOK ar rows lw gh ps) ps.length lw
noncomputable def clGh (ar : Int) (rows : List (List Int)) (lw gh ps : List Int) : List Int := clT (clOK ar rows lw gh ps) ps.length gh
noncomputable def clPs (ar : Int) (rows : List (List Int)) (lw gh ps : List Int) : List Int := clT (clOK ar rows lw gh ps) ps.length ps
theorem clT_len (b : Bool) (m : Nat) (xs : List Int) : (clT b m xs).length ≤ xs.length := by
  unfold clT; split
  · simp only [List.length_take]; omega
  · exact Nat.le_refl _
theorem cl_sz (ar : Int) (rows : List (List Int)) (lw gh ps : List Int) (h : szIter rows lw gh ps ≤ 1048576) : szIter (asIsR rows) (clLw ar rows lw gh ps) (clGh ar rows lw gh ps) (clPs ar rows lw gh ps) ≤ 1048576 := by
  have h1 := clT_len (clOK ar rows lw gh ps) ps.length lw; have h2 := clT_len (clOK ar rows lw gh ps) ps.length gh; have h3 := clT_len (clOK ar rows lw gh ps) ps.length ps
  unfold szIter clLw clGh clPs asIsR at *; omega
theorem next_len (ar : Int) (rows : List (List Int)) (lw gh ps : List Int) : (nextP ar rows lw gh ps).length = ps.length := by unfold nextP; split <;> simp
theorem seek_len (ar : Int) (rows : List (List Int)) (lw gh ps : List Int) (v : Int) : (seekP ar rows lw gh ps v).length = ps.length := by unfold seekP; split <;> simp
theorem next_sz (ar : Int) (rows : List (List Int)) (lw gh ps : List Int) (h : szIter rows lw gh ps ≤ 1048576) : szIter (asIsR rows) (asIsL lw) (asIsH gh) (nextP ar rows lw gh ps) ≤ 1048576 := by
  have h3 := next_len ar rows lw gh ps; unfold szIter asIsR asIsL asIsH at *; omega
theorem seek_sz (ar : Int) (rows : List (List Int)) (lw gh ps : List Int) (v : Int) (h : szIter rows lw gh ps ≤ 1048576) : szIter (asIsR rows) (asIsL lw) (asIsH gh) (seekP ar rows lw gh ps v) ≤ 1048576 := by
  have h3 := seek_len ar rows lw gh ps v; unfold szIter asIsR asIsL asIsH at *; omega
theorem implClose' {fz : Bool} {lo hi : Nat} (ar : Int) (a : Option Addr) (n c : Nat) (rows : List (List Int)) (la : Option Addr) (ln lc : Nat) (lw : List Int) (ga : Option Addr) (gn gc : Nat) (gh : List Int) (pa : Option Addr) (pn pc : Nat) (ps : List Int) (w : World) (hI : IterA fz lo hi w ar a n c rows la ln lc lw ga gn gc gh pa pn pc ps) (hh : hi ≤ w.heap.size) (hs : szIter rows lw gh ps ≤ 1048576) :
    Calls Try.prog 20 #[iterV ar a n c la ln lc ga gn gc pa pn pc] w (GvItB w (asIsN ar) (asIsR rows) (clLw ar rows lw gh ps) (clGh ar rows lw gh ps) (clPs ar rows lw gh ps) (clOK ar rows lw gh ps)) := implClose ar a n c rows la ln lc lw ga gn gc gh pa pn pc ps w hI hh hs
theorem specClose' {fz : Bool} {lo hi : Nat} (ar : Int) (a : Option Addr) (n c : Nat) (rows : List (List Int)) (la : Option Addr) (ln lc : Nat) (lw : List Int) (ga : Option Addr) (gn gc : Nat) (gh : List Int) (pa : Option Addr) (pn pc : Nat) (ps : List Int) (w : World) (hI : IterA fz lo hi w ar a n c rows la ln lc lw ga gn gc gh pa pn pc ps) (hh : hi ≤ w.heap.size) (hs : szIter rows lw gh ps ≤ 1048576) :
    Calls Try.prog 18 #[iterV ar a n c la ln lc ga gn gc pa pn pc] w (GvItR w (asIsN ar) (asIsR rows) (clLw ar rows lw gh ps) (clGh ar rows lw gh ps) (clPs ar rows lw gh ps) (clOK ar rows lw gh ps)) := (specClose ar a n c rows la ln lc lw ga gn gc gh pa pn pc ps w hI hh hs).mono fun _ _ h => h.read
theorem implNext' {fz : Bool} {lo hi : Nat} (ar : Int) (a : Option Addr) (n c : Nat) (rows : List (List Int)) (la : Option Addr) (ln lc : Nat) (lw : List Int) (ga : Option Addr) (gn gc : Nat) (gh : List Int) (pa : Option Addr) (pn pc : Nat) (ps : List Int) (w : World) (hI : IterA fz lo hi w ar a n c rows la ln lc lw ga gn gc gh pa pn pc ps) (hh : hi ≤ w.heap.size) (hs : szIter rows lw gh ps ≤ 1048576) :
    Calls Try.prog 24 #[iterV ar a n c la ln lc ga gn gc pa pn pc] w (GvItB w (asIsN ar) (asIsR rows) (asIsL lw) (asIsH gh) (nextP ar rows lw gh ps) (standsF ar rows lw gh ps)) := implNext ar a n c rows la ln lc lw ga gn gc gh pa pn pc ps w hI hh hs
theorem specNext' {fz : Bool} {lo hi : Nat} (ar : Int) (a : Option Addr) (n c : Nat) (rows : List (List Int)) (la : Option Addr) (ln lc : Nat) (lw : List Int) (ga : Option Addr) (gn gc : Nat) (gh : List Int) (pa : Option Addr) (pn pc : Nat) (ps : List Int) (w : World) (hI : IterA fz lo hi w ar a n c rows la ln lc lw ga gn gc gh pa pn pc ps) (hh : hi ≤ w.heap.size) (hs : szIter rows lw gh ps ≤ 1048576) :
    Calls Try.prog 23 #[iterV ar a n c la ln lc ga gn gc pa pn pc] w (GvItR w (asIsN ar) (asIsR rows) (asIsL lw) (asIsH gh) (nextP ar rows lw gh ps) (standsF ar rows lw gh ps)) := (specNext ar a n c rows la ln lc lw ga gn gc gh pa pn pc ps w hI hh hs).mono fun _ _ h => h.read
theorem implSeek' {fz : Bool} {lo hi : Nat} (ar : Int) (a : Option Addr) (n c : Nat) (rows : List (List Int)) (la : Option Addr) (ln lc : Nat) (lw : List Int) (ga : Option Addr) (gn gc : Nat) (gh : List Int) (pa : Option Addr) (pn pc : Nat) (ps : List Int) (v : Int) (w : World) (hI : IterA fz lo hi w ar a n c rows la ln lc lw ga gn gc gh pa pn pc ps) (hh : hi ≤ w.heap.size) (hs : szIter rows lw gh ps ≤ 1048576) :
    Calls Try.prog 22 #[iterV ar a n c la ln lc ga gn gc pa pn pc, .int .i64 v] w (GvItB w (asIsN ar) (asIsR rows) (asIsL lw) (asIsH gh) (seekP ar rows lw gh ps v) (standsF ar rows lw gh ps)) := implSeek ar a n c rows la ln lc lw ga gn gc gh pa pn pc ps v w hI hh hs
theorem specSeek' {fz : Bool} {lo hi : Nat} (ar : Int) (a : Option Addr) (n c : Nat) (rows : List (List Int)) (la : Option Addr) (ln lc : Nat) (lw : List Int) (ga : Option Addr) (gn gc : Nat) (gh : List Int) (pa : Option Addr) (pn pc : Nat) (ps : List Int) (v : Int) (w : World) (hI : IterA fz lo hi w ar a n c rows la ln lc lw ga gn gc gh pa pn pc ps) (hh : hi ≤ w.heap.size) (hs : szIter rows lw gh ps ≤ 1048576) :
    Calls Try.prog 21 #[iterV ar a n c la ln lc ga gn gc pa pn pc, .int .i64 v] w (GvItR w (asIsN ar) (asIsR rows) (asIsL lw) (asIsH gh) (seekP ar rows lw gh ps v) (standsF ar rows lw gh ps)) := (specSeek ar a n c rows la ln lc lw ga gn gc gh pa pn pc ps v w hI hh hs).mono fun _ _ h => h.read
end Go.Proofs.Ythochdlbmaiclaa
