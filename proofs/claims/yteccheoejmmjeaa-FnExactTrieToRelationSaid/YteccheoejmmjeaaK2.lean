/- Relations and tries as results whose rows lie apart; the laws' words on relations. Written by relw.py. -/
import Derived.Test.YteccheoejmmjeaaK1
import Derived.Test.YteccheoejmmjeaaMarkS
import Derived.Test.YteccheoejmmjeaaCell
import Derived.Deep.DeepCutAuto
import Derived.Deep.CutBlock
namespace Go.Proofs.Yteccheoejmmjeaa
set_option linter.unusedSimpArgs false
set_option linter.unusedVariables false
open Go.RowKit
def TrieS (lo hi : Nat) (w : World) (ar : Int) (a : Option Addr) (n c : Nat) (rows : List (List Int)) : Prop := I64 ar ∧ RowsS lo hi w a n c rows
section
variable {lo hi B lo' : Nat} {w w' : World} {ar : Int} {a : Option Addr} {n c : Nat} {rows : List (List Int)}
theorem TrieS.tr (h : TrieS lo hi w ar a n c rows) : TrieA true lo hi w ar a n c rows := ⟨h.1, h.2.rows⟩
theorem kpTrieS (h : TrieS lo hi w ar a n c rows) (hb : Keeps lo hi w w') : TrieS lo hi w' ar a n c rows := ⟨h.1, SepA.keep intsQOK h.2 hb⟩
theorem beTrieS (h : TrieS lo hi w ar a n c rows) (hb : Below B w w') (hh : hi ≤ B) : TrieS lo hi w' ar a n c rows := kpTrieS h (Keeps.of_below hb hh)
theorem wdTrieS (h : TrieS lo hi w ar a n c rows) (hl : lo' ≤ lo) : TrieS lo' hi w ar a n c rows := ⟨h.1, SepA.wide h.2 hl (Nat.le_refl _)⟩
end
def GvMarkTrieS (lo hi : Nat) (w : World) (r : Int) (a : Option Addr) (n c : Nat) (yss : List (List Int)) (e : Ending) (w' : World) : Prop := e = .returned (.int .i64 r) ∧ MarkedG lo hi w w' ∧ RowsS lo hi w' a n c yss
def GvMarkTrie (lo hi : Nat) (w : World) (k : Int) (ar : Int) (a : Option Addr) (n c : Nat) (rows : List (List Int)) (e : Ending) (w' : World) : Prop := e = .returned (.int .i64 (k + (lens rows rows.length : Nat))) ∧ MarkedG lo hi w w' ∧ TrieA true lo hi w' ar a n c (mkRows k rows)
def GvTrRel (w : World) (ar : Int) (rows : List (List Int)) (e : Ending) (w' : World) : Prop := ∃ a n c, e = .returned (trieV ar a n c) ∧ TrieA true w.heap.size w'.heap.size w' ar a n c rows ∧ Below w.heap.size w w'
set_option maxHeartbeats 1600000 in
theorem markTrieS {lo hi : Nat} (ar : Int) (a : Option Addr) (n c : Nat) (rows : List (List Int)) (k : Int) (w : World) (hI : RowsS lo hi w a n c rows) (hh : hi ≤ w.heap.size) (h0 : 0 ≤ k) (h1 : k ≤ 2097152) (hsz : rowsSz rows ≤ 1048576) :
    Calls Try.prog 15 #[trieV ar a n c, .int .i64 k] w (GvMarkTrieS lo hi w (k + lens rows n) a n c (mkRows k rows)) := by
  have HI := hid hI; clear hI
  go_enter Try.func15, Try.ntmps15
  go_wp2_with fail
  refine (markRowsS a n c rows k _ (SepA.keep intsQOK HI.out (Keeps.al (Keeps.refl _ _ _) hh _)) h0 h1 hsz).mono ?_
  rintro e w1 ⟨rfl, hm1, r0⟩
  have HM1 := hid ((MarkedG.of_below (lo := lo) (hi := hi) (w := w) (by repeat (first | with_reducible assumption | with_reducible exact Below.refl _ _ | with_reducible refine below_drewN ?_ _ | with_reducible refine Below.al ?_ (by first | with_reducible exact Nat.le_refl _ | omega | (simp; done) | (simp; omega) | exact Nat.le_refl _) _ | with_reducible refine Below.setCell ?_ (by first | with_reducible exact Nat.le_refl _ | omega | (simp; done) | (simp; omega) | exact Nat.le_refl _) _ | assumption | exact Below.refl _ _ | refine below_drewN ?_ _ | refine Below.al ?_ (by first | with_reducible exact Nat.le_refl _ | omega | (simp; done) | (simp; omega) | exact Nat.le_refl _) _ | refine Below.setCell ?_ (by first | with_reducible exact Nat.le_refl _ | omega | (simp; done) | (simp; omega) | exact Nat.le_refl _) _))).trans (.of_marked hm1))
  have HR := hid r0; clear hm1 r0
  go_wp2_with fail
  go_ret
  exact ⟨rfl, HM1.out, HR.out⟩
set_option maxHeartbeats 1600000 in
theorem heldTrieS {fz : Bool} {lo hi : Nat} (ar : Int) (a : Option Addr) (n c : Nat) (rows : List (List Int)) (k : Int) (w : World) (hI : RowsA fz lo hi w a n c (mkRows k rows)) (hh : hi ≤ w.heap.size) (h0 : 0 ≤ k) (h1 : k ≤ 2097152) (hsz : rowsSz rows ≤ 1048576) (hn : rows.length = n) :
    Calls Try.prog 16 #[trieV ar a n c, .int .i64 k] w (Leaves w (.int .i64 (k + lens rows n))) := by
  have hsum : lens rows n ≤ 1048576 := by unfold rowsSz at hsz; rw [hn] at hsz; omega
  have hnn : ¬ k + (lens rows n : Int) < 0 := by omega
  have HI := hid hI; clear hI hn
  go_enter Try.func16, Try.ntmps16
  go_wp2_with fail
  refine (heldRows a n c rows k _ (SlA.be intsOK (B := w.heap.size) HI.out (by repeat (first | with_reducible assumption | with_reducible exact Below.refl _ _ | with_reducible refine below_drewN ?_ _ | with_reducible refine Below.al ?_ (by first | with_reducible exact Nat.le_refl _ | omega | (simp; done) | (simp; omega) | exact Nat.le_refl _) _ | with_reducible refine Below.setCell ?_ (by first | with_reducible exact Nat.le_refl _ | omega | (simp; done) | (simp; omega) | exact Nat.le_refl _) _ | assumption | exact Below.refl _ _ | refine below_drewN ?_ _ | refine Below.al ?_ (by first | with_reducible exact Nat.le_refl _ | omega | (simp; done) | (simp; omega) | exact Nat.le_refl _) _ | refine Below.setCell ?_ (by first | with_reducible exact Nat.le_refl _ | omega | (simp; done) | (simp; omega) | exact Nat.le_refl _) _)) hh) h0 h1 hsz).mono ?_
  rintro e w1 ⟨rfl, m1, rfl⟩
  go_wp2_with fail
  go_ret
  exact ⟨rfl, (by repeat (first | with_reducible assumption | with_reducible exact Below.refl _ _ | with_reducible refine below_drewN ?_ _ | with_reducible refine below_drew1 ?_ | with_reducible refine Below.al ?_ (by first | with_reducible exact Nat.le_refl _ | omega | (simp; done) | (simp; omega) | exact Nat.le_refl _) _ | with_reducible refine Below.setCell ?_ (by first | with_reducible exact Nat.le_refl _ | omega | (simp; done) | (simp; omega) | exact Nat.le_refl _) _ | assumption | exact Below.refl _ _ | refine below_drewN ?_ _ | refine below_drew1 ?_ | refine Below.al ?_ (by first | with_reducible exact Nat.le_refl _ | omega | (simp; done) | (simp; omega) | exact Nat.le_refl _) _ | refine Below.setCell ?_ (by first | with_reducible exact Nat.le_refl _ | omega | (simp; done) | (simp; omega) | exact Nat.le_refl _) _))⟩
theorem resK_Trie {lo hi : Nat} (ar : Int) (a : Option Addr) (n c : Nat) (rows : List (List Int)) (k : Int) (w : World) (hI : TrieS lo hi w ar a n c rows) (hh : hi ≤ w.heap.size) (h0 : 0 ≤ k) (h1 : k ≤ 1048576) (hs : rowsSz rows ≤ 1048576) :
    Calls Try.prog 15 #[trieV ar a n c, .int .i64 k] w (GvMarkTrie lo hi w k ar a n c rows) := by
  have hl := hI.2.len
  refine (markTrieS ar a n c rows k w hI.2 hh h0 (by omega) hs).mono ?_
  rintro e w' ⟨h2, h3, h4⟩
  exact ⟨by rw [hl]; exact h2, h3, hI.1, h4.rows⟩
theorem heldK_Trie {fz : Bool} {lo hi : Nat} (ar : Int) (a : Option Addr) (n c : Nat) (rows : List (List Int)) (k : Int) (w : World) (hI : TrieA fz lo hi w ar a n c (mkRows k rows)) (hh : hi ≤ w.heap.size) (h0 : 0 ≤ k) (h1 : k ≤ 1048576) (hs : rowsSz rows ≤ 1048576) :
    Calls Try.prog 16 #[trieV ar a n c, .int .i64 k] w (Leaves w (.int .i64 (k + (lens rows rows.length : Nat)))) := by
  have hl : rows.length = n := by rw [← mkRows_len k rows]; exact hI.2.len
  have := heldTrieS ar a n c rows k w hI.2 hh h0 (by omega) hs hl
  rw [← hl] at this ⊢
  exact this
set_option maxHeartbeats 800000 in
theorem toRel {lo hi : Nat} (ar : Int) (a : Option Addr) (n c : Nat) (rows : List (List Int)) (w : World) (hI : RowsA false lo hi w a n c rows) (hh : hi ≤ w.heap.size) (har : I64 ar) (hn : n ≤ 1048576) (hr : ∀ i, (rx rows i).length ≤ 1048576) :
    Calls Try.prog 7 #[trieV ar a n c] w (GivesTrie w ar rows) := by
  have HAR := hid har; clear har
  have HR := hid hr; clear hr
  go_enter Try.func7, Try.ntmps7
  go_wp2_with fail
  refine (toRows a n c rows _ (hI.be intsOK (B := w.heap.size) (by repeat (first | with_reducible assumption | with_reducible exact Below.refl _ _ | with_reducible refine below_drewN ?_ _ | with_reducible refine Below.al ?_ (by first | with_reducible exact Nat.le_refl _ | omega | (simp; done) | (simp; omega) | exact Nat.le_refl _) _ | with_reducible refine Below.setCell ?_ (by first | with_reducible exact Nat.le_refl _ | omega | (simp; done) | (simp; omega) | exact Nat.le_refl _) _ | assumption | exact Below.refl _ _ | refine below_drewN ?_ _ | refine Below.al ?_ (by first | with_reducible exact Nat.le_refl _ | omega | (simp; done) | (simp; omega) | exact Nat.le_refl _) _ | refine Below.setCell ?_ (by first | with_reducible exact Nat.le_refl _ | omega | (simp; done) | (simp; omega) | exact Nat.le_refl _) _)) hh) (by first | with_reducible exact Nat.le_refl _ | omega | (simp; done) | (simp; omega) | exact Nat.le_refl _) hn HR.out).mono ?_
  rintro e w1 ⟨a1, n1, c1, rfl, ho1, hb1⟩
  have hz := hb1.size
  simp at hz
  have hb2 : Below w.heap.size w w1 := Below.trans (by repeat (first | with_reducible assumption | with_reducible exact Below.refl _ _ | with_reducible refine below_drewN ?_ _ | with_reducible refine Below.al ?_ (by first | with_reducible exact Nat.le_refl _ | omega | (simp; done) | (simp; omega) | exact Nat.le_refl _) _ | with_reducible refine Below.setCell ?_ (by first | with_reducible exact Nat.le_refl _ | omega | (simp; done) | (simp; omega) | exact Nat.le_refl _) _ | assumption | exact Below.refl _ _ | refine below_drewN ?_ _ | refine Below.al ?_ (by first | with_reducible exact Nat.le_refl _ | omega | (simp; done) | (simp; omega) | exact Nat.le_refl _) _ | refine Below.setCell ?_ (by first | with_reducible exact Nat.le_refl _ | omega | (simp; done) | (simp; omega) | exact Nat.le_refl _) _)) (hb1.mono (by first | with_reducible exact Nat.le_refl _ | omega | (simp; done) | (simp; omega) | exact Nat.le_refl _))
  have q0 : w1.cell? ⟨w.heap.size + 1, 0, none⟩ = some (.int .i64 0) := (by rw [(bcell hb1).1 _ _ (by first | omega | (simp; done) | (simp; omega))]; first | with_reducible assumption | (go_simp; done) | assumption | (simp [World.cell?]; done))
  have q1 : w1.cell? ⟨w.heap.size + 1, 1, none⟩ = some (.slice none 0 0) := (by rw [(bcell hb1).1 _ _ (by first | omega | (simp; done) | (simp; omega))]; first | with_reducible assumption | (go_simp; done) | assumption | (simp [World.cell?]; done))
  have q2 : w1.frozen? ⟨w.heap.size + 1, 0, none⟩ = false := (by rw [(bcell hb1).2 _ _ (by first | omega | (simp; done) | (simp; omega))]; first | with_reducible assumption | (go_simp; done) | assumption | (simp [World.frozen?]; done))
  have q3 : w1.frozen? ⟨w.heap.size + 1, 1, none⟩ = false := (by rw [(bcell hb1).2 _ _ (by first | omega | (simp; done) | (simp; omega))]; first | with_reducible assumption | (go_simp; done) | assumption | (simp [World.frozen?]; done))
  have r0 : w1.cell? ⟨w.heap.size + 1 + 1, 0, none⟩ = some (.int .i64 ar) := (by rw [(bcell hb1).1 _ _ (by first | omega | (simp; done) | (simp; omega))]; first | with_reducible assumption | (go_simp; done) | assumption | (simp [World.cell?]; done))
  have r1 : w1.cell? ⟨w.heap.size + 1 + 1, 1, none⟩ = some (.slice none 0 0) := (by rw [(bcell hb1).1 _ _ (by first | omega | (simp; done) | (simp; omega))]; first | with_reducible assumption | (go_simp; done) | assumption | (simp [World.cell?]; done))
  have r2 : w1.frozen? ⟨w.heap.size + 1 + 1, 0, none⟩ = false := (by rw [(bcell hb1).2 _ _ (by first | omega | (simp; done) | (simp; omega))]; first | with_reducible assumption | (go_simp; done) | assumption | (simp [World.frozen?]; done))
  have r3 : w1.frozen? ⟨w.heap.size + 1 + 1, 1, none⟩ = false := (by rw [(bcell hb1).2 _ _ (by first | omega | (simp; done) | (simp; omega))]; first | with_reducible assumption | (go_simp; done) | assumption | (simp [World.frozen?]; done))
  have HO := hid ho1; clear ho1
  have HB := hid (And.intro hb1 hb2); clear hb1 hb2
  go_wp2_with fail
  refine bodyPost_ret (v := trieV ar a1 n1 c1) ?_ rfl ⟨_, _, _, rfl, ?_, ?_⟩
  · simp [results, Try.results7, go_sem, q0, q1]
  · have h1 := HO.out
    exact (SlA.keep intsOK h1 (by repeat (first | assumption | exact Keeps.refl _ _ _ | exact HB.out.1 | refine Keeps.dr ?_ _ | refine Keeps.sc ?_ (by first | omega | (simp; done) | (simp; omega)) _ | refine Keeps.al ?_ (by first | with_reducible exact Nat.le_refl _ | omega | (simp; done) | (simp; omega) | exact Nat.le_refl _) _))).wide intsOK (by first | with_reducible exact Nat.le_refl _ | omega | (simp; done) | (simp; omega) | exact Nat.le_refl _) (by first | with_reducible exact Nat.le_refl _ | omega | (simp; done) | (simp; omega) | exact Nat.le_refl _)
  · have hb2 := HB.out.2
    exact (by repeat (first | with_reducible assumption | with_reducible exact Below.refl _ _ | with_reducible refine below_drewN ?_ _ | with_reducible refine Below.al ?_ (by first | with_reducible exact Nat.le_refl _ | omega | (simp; done) | (simp; omega) | exact Nat.le_refl _) _ | with_reducible refine Below.setCell ?_ (by first | with_reducible exact Nat.le_refl _ | omega | (simp; done) | (simp; omega) | exact Nat.le_refl _) _ | assumption | exact Below.refl _ _ | refine below_drewN ?_ _ | refine Below.al ?_ (by first | with_reducible exact Nat.le_refl _ | omega | (simp; done) | (simp; omega) | exact Nat.le_refl _) _ | refine Below.setCell ?_ (by first | with_reducible exact Nat.le_refl _ | omega | (simp; done) | (simp; omega) | exact Nat.le_refl _) _))
set_option maxHeartbeats 400000 in
theorem szRel {fz : Bool} {lo hi : Nat} (ar : Int) (a : Option Addr) (n c : Nat) (rows : List (List Int)) (left : Int) (w : World) (hI : RowsA fz lo hi w a n c rows) (hh : hi ≤ w.heap.size) (h0 : 0 ≤ left) (h1 : left ≤ 1048576) :
    Calls Try.prog 5 #[trieV ar a n c, .int .i64 left] w (Leaves w (.int .i64 (szI (rowsSz rows) left))) := by
  by_cases hle : (rowsSz rows : Int) ≤ left
  · have hsz := szI_yes hle
    obtain ⟨t, ht⟩ : ∃ t, t = left - rowsSz rows := ⟨_, rfl⟩
    have ht0 : 0 ≤ t := by omega
    rw [← ht] at hsz
    have HS := hid hsz; clear hsz
    have HT := hid (And.intro ht hle); clear ht hle
    go_enter Try.func5, Try.ntmps5
    go_wp2_with fail
    refine (szRowsG a n c rows left _ (hI.al intsOK hh _) h0 h1).mono ?_
    rintro e w1 ⟨rfl, m1, rfl⟩
    rw [HS.out]
    go_wp2_with fail
    go_ret
    exact ⟨by rw [HS.out]; rfl, (by repeat (first | with_reducible assumption | with_reducible exact Below.refl _ _ | with_reducible refine below_drewN ?_ _ | with_reducible refine Below.al ?_ (by first | with_reducible exact Nat.le_refl _ | omega | (simp; done) | (simp; omega) | exact Nat.le_refl _) _ | with_reducible refine Below.setCell ?_ (by first | with_reducible exact Nat.le_refl _ | omega | (simp; done) | (simp; omega) | exact Nat.le_refl _) _ | assumption | exact Below.refl _ _ | refine below_drewN ?_ _ | refine Below.al ?_ (by first | with_reducible exact Nat.le_refl _ | omega | (simp; done) | (simp; omega) | exact Nat.le_refl _) _ | refine Below.setCell ?_ (by first | with_reducible exact Nat.le_refl _ | omega | (simp; done) | (simp; omega) | exact Nat.le_refl _) _))⟩
  · have hsz := szI_no hle
    have HS := hid hsz; clear hsz
    have HT := hid hle; clear hle
    go_enter Try.func5, Try.ntmps5
    go_wp2_with fail
    refine (szRowsG a n c rows left _ (hI.al intsOK hh _) h0 h1).mono ?_
    rintro e w1 ⟨rfl, m1, rfl⟩
    rw [HS.out]
    go_wp2_with fail
    go_ret
    exact ⟨by rw [HS.out]; rfl, (by repeat (first | with_reducible assumption | with_reducible exact Below.refl _ _ | with_reducible refine below_drewN ?_ _ | with_reducible refine Below.al ?_ (by first | with_reducible exact Nat.le_refl _ | omega | (simp; done) | (simp; omega) | exact Nat.le_refl _) _ | with_reducible refine Below.setCell ?_ (by first | with_reducible exact Nat.le_refl _ | omega | (simp; done) | (simp; omega) | exact Nat.le_refl _) _ | assumption | exact Below.refl _ _ | refine below_drewN ?_ _ | refine Below.al ?_ (by first | with_reducible exact Nat.le_refl _ | omega | (simp; done) | (simp; omega) | exact Nat.le_refl _) _ | refine Below.setCell ?_ (by first | with_reducible exact Nat.le_refl _ | omega | (simp; done) | (simp; omega) | exact Nat.le_refl _) _))⟩
set_option maxHeartbeats 800000 in
theorem eqRel {fz fz' : Bool} {lo hi lo' hi' : Nat} (ar ar' : Int) (a a' : Option Addr) (n c n' c' : Nat) (rows rows' : List (List Int)) (w : World) (hI : RowsA fz lo hi w a n c rows) (hh : hi ≤ w.heap.size) (hJ : RowsA fz' lo' hi' w a' n' c' rows') (hh' : hi' ≤ w.heap.size) :
    Calls Try.prog 11 #[trieV ar a n c, trieV ar' a' n' c'] w (Leaves w (.bool (eqT ar ar' rows rows'))) := by
  by_cases he : ar = ar'
  · have hb : (ar != ar') = false := by simp [he]
    have hE : eqT ar ar' rows rows' = eqLL rows rows' := by unfold eqT eqLL; simp [he]
    rw [hE]
    have HE := hid (And.intro he hE); clear he hE
    obtain ⟨q, hq⟩ : ∃ q, q = eqLL rows rows' := ⟨_, rfl⟩
    rw [← hq]
    have HQ := hid hq; clear hq
    cases q
    all_goals
      go_enter Try.func11, Try.ntmps11
      go_wp2_with fail
      refine (eqRows a a' n c n' c' rows rows' _ (hI.be intsOK (B := w.heap.size) (by repeat (first | with_reducible assumption | with_reducible exact Below.refl _ _ | with_reducible refine below_drewN ?_ _ | with_reducible refine Below.al ?_ (by first | with_reducible exact Nat.le_refl _ | omega | (simp; done) | (simp; omega) | exact Nat.le_refl _) _ | with_reducible refine Below.setCell ?_ (by first | with_reducible exact Nat.le_refl _ | omega | (simp; done) | (simp; omega) | exact Nat.le_refl _) _ | assumption | exact Below.refl _ _ | refine below_drewN ?_ _ | refine Below.al ?_ (by first | with_reducible exact Nat.le_refl _ | omega | (simp; done) | (simp; omega) | exact Nat.le_refl _) _ | refine Below.setCell ?_ (by first | with_reducible exact Nat.le_refl _ | omega | (simp; done) | (simp; omega) | exact Nat.le_refl _) _)) hh) (hJ.be intsOK (B := w.heap.size) (by repeat (first | with_reducible assumption | with_reducible exact Below.refl _ _ | with_reducible refine below_drewN ?_ _ | with_reducible refine Below.al ?_ (by first | with_reducible exact Nat.le_refl _ | omega | (simp; done) | (simp; omega) | exact Nat.le_refl _) _ | with_reducible refine Below.setCell ?_ (by first | with_reducible exact Nat.le_refl _ | omega | (simp; done) | (simp; omega) | exact Nat.le_refl _) _ | assumption | exact Below.refl _ _ | refine below_drewN ?_ _ | refine Below.al ?_ (by first | with_reducible exact Nat.le_refl _ | omega | (simp; done) | (simp; omega) | exact Nat.le_refl _) _ | refine Below.setCell ?_ (by first | with_reducible exact Nat.le_refl _ | omega | (simp; done) | (simp; omega) | exact Nat.le_refl _) _)) hh')).mono ?_
      rintro e w1 ⟨rfl, m1, rfl⟩
      rw [← HQ.out]
      go_wp2_with fail
      go_ret
      exact ⟨rfl, (by repeat (first | with_reducible assumption | with_reducible exact Below.refl _ _ | with_reducible refine below_drewN ?_ _ | with_reducible refine Below.al ?_ (by first | with_reducible exact Nat.le_refl _ | omega | (simp; done) | (simp; omega) | exact Nat.le_refl _) _ | with_reducible refine Below.setCell ?_ (by first | with_reducible exact Nat.le_refl _ | omega | (simp; done) | (simp; omega) | exact Nat.le_refl _) _ | assumption | exact Below.refl _ _ | refine below_drewN ?_ _ | refine Below.al ?_ (by first | with_reducible exact Nat.le_refl _ | omega | (simp; done) | (simp; omega) | exact Nat.le_refl _) _ | refine Below.setCell ?_ (by first | with_reducible exact Nat.le_refl _ | omega | (simp; done) | (simp; omega) | exact Nat.le_refl _) _))⟩
  · have hb : (ar != ar') = true := by simp [he]
    have hE : eqT ar ar' rows rows' = false := by unfold eqT; simp [he]
    rw [hE]
    have HE := hid (And.intro he hE); clear he hE
    go_enter Try.func11, Try.ntmps11
    go_wp2_with fail
    go_ret
    exact ⟨rfl, (by repeat (first | with_reducible assumption | with_reducible exact Below.refl _ _ | with_reducible refine below_drewN ?_ _ | with_reducible refine Below.al ?_ (by first | with_reducible exact Nat.le_refl _ | omega | (simp; done) | (simp; omega) | exact Nat.le_refl _) _ | with_reducible refine Below.setCell ?_ (by first | with_reducible exact Nat.le_refl _ | omega | (simp; done) | (simp; omega) | exact Nat.le_refl _) _ | assumption | exact Below.refl _ _ | refine below_drewN ?_ _ | refine Below.al ?_ (by first | with_reducible exact Nat.le_refl _ | omega | (simp; done) | (simp; omega) | exact Nat.le_refl _) _ | refine Below.setCell ?_ (by first | with_reducible exact Nat.le_refl _ | omega | (simp; done) | (simp; omega) | exact Nat.le_refl _) _))⟩
theorem toK_Rel {lo hi : Nat} (ar : Int) (a : Option Addr) (n c : Nat) (rows : List (List Int)) (w : World) (hI : TrieA false lo hi w ar a n c rows) (hh : hi ≤ w.heap.size) (hs : rowsSz rows ≤ 1048576) :
    Calls Try.prog 7 #[trieV ar a n c] w (GvTrie w ar rows) :=
  (toRel ar a n c rows w hI.2 hh hI.1 (by have := hI.2.len; unfold rowsSz at hs; omega) (rowsSz_row hs)).mono fun _ _ ⟨a', n', c', h1, h2, h3⟩ => ⟨a', n', c', h1, ⟨hI.1, h2⟩, h3⟩
theorem szK_Rel {fz : Bool} {lo hi : Nat} (ar : Int) (a : Option Addr) (n c : Nat) (rows : List (List Int)) (left : Int) (w : World) (hI : TrieA fz lo hi w ar a n c rows) (hh : hi ≤ w.heap.size) (h0 : 0 ≤ left) (h1 : left ≤ 1048576) :
    Calls Try.prog 5 #[trieV ar a n c, .int .i64 left] w (Leaves w (.int .i64 (szI (rowsSz rows) left))) := szRel ar a n c rows left w hI.2 hh h0 h1
theorem eqK_Rel {fz fz' : Bool} {lo hi lo' hi' : Nat} (ar : Int) (a a' : Option Addr) (n c n' c' : Nat) (rows : List (List Int)) (w : World) (hI : TrieA fz lo hi w ar a n c rows) (hh : hi ≤ w.heap.size) (hJ : TrieA fz' lo' hi' w ar a' n' c' rows) (hh' : hi' ≤ w.heap.size) :
    Calls Try.prog 11 #[trieV ar a n c, trieV ar a' n' c'] w (Leaves w (.bool true)) := by have := eqRel ar ar a a' n c n' c' rows rows w hI.2 hh hJ.2 hh'; rwa [eqT_refl] at this
theorem markK_Rel {lo hi : Nat} (ar : Int) (a : Option Addr) (n c : Nat) (rows : List (List Int)) (k : Int) (w : World) (hI : TrieA true lo hi w ar a n c rows) (hh : hi ≤ w.heap.size) (h0 : 0 ≤ k) (h1 : k ≤ 2097152) (hs : rowsSz rows ≤ 1048576) :
    Calls Try.prog 13 #[trieV ar a n c, .int .i64 k] w (GivesMG lo hi w (k + lens rows rows.length)) := by
  have hn : n ≤ 1048576 := by have := hI.2.len; unfold rowsSz at hs; omega
  have hl : lens rows rows.length ≤ 1048576 := by unfold rowsSz at hs; omega
  have hlen := hI.2.len
  have HD := hid (And.intro hI (And.intro hs hl)); clear hI hs hl
  have HN := hid hlen; clear hlen
  go_enter Try.func13, Try.ntmps13
  go_wp2_with fail
  refine (markRows a n c rows k _ (SlA.be intsOK (B := w.heap.size) HD.out.1.2 (by repeat (first | with_reducible assumption | with_reducible exact Below.refl _ _ | with_reducible refine below_drewN ?_ _ | with_reducible refine Below.al ?_ (by first | with_reducible exact Nat.le_refl _ | omega | (simp; done) | (simp; omega) | exact Nat.le_refl _) _ | with_reducible refine Below.setCell ?_ (by first | with_reducible exact Nat.le_refl _ | omega | (simp; done) | (simp; omega) | exact Nat.le_refl _) _ | assumption | exact Below.refl _ _ | refine below_drewN ?_ _ | refine Below.al ?_ (by first | with_reducible exact Nat.le_refl _ | omega | (simp; done) | (simp; omega) | exact Nat.le_refl _) _ | refine Below.setCell ?_ (by first | with_reducible exact Nat.le_refl _ | omega | (simp; done) | (simp; omega) | exact Nat.le_refl _) _)) hh) h0 h1 hn HD.out.2.2).mono ?_
  rintro e w1 ⟨rfl, hm⟩
  have hm2 : MarkedG lo hi w w1 := (MarkedG.of_below (by repeat (first | with_reducible assumption | with_reducible exact Below.refl _ _ | with_reducible refine below_drewN ?_ _ | with_reducible refine Below.al ?_ (by first | with_reducible exact Nat.le_refl _ | omega | (simp; done) | (simp; omega) | exact Nat.le_refl _) _ | with_reducible refine Below.setCell ?_ (by first | with_reducible exact Nat.le_refl _ | omega | (simp; done) | (simp; omega) | exact Nat.le_refl _) _ | assumption | exact Below.refl _ _ | refine below_drewN ?_ _ | refine Below.al ?_ (by first | with_reducible exact Nat.le_refl _ | omega | (simp; done) | (simp; omega) | exact Nat.le_refl _) _ | refine Below.setCell ?_ (by first | with_reducible exact Nat.le_refl _ | omega | (simp; done) | (simp; omega) | exact Nat.le_refl _) _))).trans (.of_marked hm)
  have HM := hid hm2; clear hm2 hm
  go_wp2_with fail
  go_ret
  exact ⟨by rw [HN.out]; rfl, HM.out⟩
set_option maxHeartbeats 1600000 in
theorem markRelS {lo hi : Nat} (ar : Int) (a : Option Addr) (n c : Nat) (rows : List (List Int)) (k : Int) (w : World) (hI : RowsS lo hi w a n c rows) (hh : hi ≤ w.heap.size) (h0 : 0 ≤ k) (h1 : k ≤ 2097152) (hsz : rowsSz rows ≤ 1048576) :
    Calls Try.prog 13 #[trieV ar a n c, .int .i64 k] w (GvMarkTrieS lo hi w (k + lens rows n) a n c (mkRows k rows)) := by
  have HI := hid hI; clear hI
  go_enter Try.func13, Try.ntmps13
  go_wp2_with fail
  refine (markRowsS a n c rows k _ (SepA.keep intsQOK HI.out (Keeps.al (Keeps.refl _ _ _) hh _)) h0 h1 hsz).mono ?_
  rintro e w1 ⟨rfl, hm1, r0⟩
  have HM1 := hid ((MarkedG.of_below (lo := lo) (hi := hi) (w := w) (by repeat (first | with_reducible assumption | with_reducible exact Below.refl _ _ | with_reducible refine below_drewN ?_ _ | with_reducible refine Below.al ?_ (by first | with_reducible exact Nat.le_refl _ | omega | (simp; done) | (simp; omega) | exact Nat.le_refl _) _ | with_reducible refine Below.setCell ?_ (by first | with_reducible exact Nat.le_refl _ | omega | (simp; done) | (simp; omega) | exact Nat.le_refl _) _ | assumption | exact Below.refl _ _ | refine below_drewN ?_ _ | refine Below.al ?_ (by first | with_reducible exact Nat.le_refl _ | omega | (simp; done) | (simp; omega) | exact Nat.le_refl _) _ | refine Below.setCell ?_ (by first | with_reducible exact Nat.le_refl _ | omega | (simp; done) | (simp; omega) | exact Nat.le_refl _) _))).trans (.of_marked hm1))
  have HR := hid r0; clear hm1 r0
  go_wp2_with fail
  go_ret
  exact ⟨rfl, HM1.out, HR.out⟩
set_option maxHeartbeats 1600000 in
theorem heldRelS {fz : Bool} {lo hi : Nat} (ar : Int) (a : Option Addr) (n c : Nat) (rows : List (List Int)) (k : Int) (w : World) (hI : RowsA fz lo hi w a n c (mkRows k rows)) (hh : hi ≤ w.heap.size) (h0 : 0 ≤ k) (h1 : k ≤ 2097152) (hsz : rowsSz rows ≤ 1048576) (hn : rows.length = n) :
    Calls Try.prog 21 #[trieV ar a n c, .int .i64 k] w (Leaves w (.int .i64 (k + lens rows n))) := by
  have hsum : lens rows n ≤ 1048576 := by unfold rowsSz at hsz; rw [hn] at hsz; omega
  have hnn : ¬ k + (lens rows n : Int) < 0 := by omega
  have HI := hid hI; clear hI hn
  go_enter Try.func21, Try.ntmps21
  go_wp2_with fail
  refine (heldRows a n c rows k _ (SlA.be intsOK (B := w.heap.size) HI.out (by repeat (first | with_reducible assumption | with_reducible exact Below.refl _ _ | with_reducible refine below_drewN ?_ _ | with_reducible refine Below.al ?_ (by first | with_reducible exact Nat.le_refl _ | omega | (simp; done) | (simp; omega) | exact Nat.le_refl _) _ | with_reducible refine Below.setCell ?_ (by first | with_reducible exact Nat.le_refl _ | omega | (simp; done) | (simp; omega) | exact Nat.le_refl _) _ | assumption | exact Below.refl _ _ | refine below_drewN ?_ _ | refine Below.al ?_ (by first | with_reducible exact Nat.le_refl _ | omega | (simp; done) | (simp; omega) | exact Nat.le_refl _) _ | refine Below.setCell ?_ (by first | with_reducible exact Nat.le_refl _ | omega | (simp; done) | (simp; omega) | exact Nat.le_refl _) _)) hh) h0 h1 hsz).mono ?_
  rintro e w1 ⟨rfl, m1, rfl⟩
  go_wp2_with fail
  go_ret
  exact ⟨rfl, (by repeat (first | with_reducible assumption | with_reducible exact Below.refl _ _ | with_reducible refine below_drewN ?_ _ | with_reducible refine below_drew1 ?_ | with_reducible refine Below.al ?_ (by first | with_reducible exact Nat.le_refl _ | omega | (simp; done) | (simp; omega) | exact Nat.le_refl _) _ | with_reducible refine Below.setCell ?_ (by first | with_reducible exact Nat.le_refl _ | omega | (simp; done) | (simp; omega) | exact Nat.le_refl _) _ | assumption | exact Below.refl _ _ | refine below_drewN ?_ _ | refine below_drew1 ?_ | refine Below.al ?_ (by first | with_reducible exact Nat.le_refl _ | omega | (simp; done) | (simp; omega) | exact Nat.le_refl _) _ | refine Below.setCell ?_ (by first | with_reducible exact Nat.le_refl _ | omega | (simp; done) | (simp; omega) | exact Nat.le_refl _) _))⟩
theorem resK_Rel {lo hi : Nat} (ar : Int) (a : Option Addr) (n c : Nat) (rows : List (List Int)) (k : Int) (w : World) (hI : TrieS lo hi w ar a n c rows) (hh : hi ≤ w.heap.size) (h0 : 0 ≤ k) (h1 : k ≤ 1048576) (hs : rowsSz rows ≤ 1048576) :
    Calls Try.prog 13 #[trieV ar a n c, .int .i64 k] w (GvMarkTrie lo hi w k ar a n c rows) := by
  have hl := hI.2.len
  refine (markRelS ar a n c rows k w hI.2 hh h0 (by omega) hs).mono ?_
  rintro e w' ⟨h2, h3, h4⟩
  exact ⟨by rw [hl]; exact h2, h3, hI.1, h4.rows⟩
theorem heldK_Rel {fz : Bool} {lo hi : Nat} (ar : Int) (a : Option Addr) (n c : Nat) (rows : List (List Int)) (k : Int) (w : World) (hI : TrieA fz lo hi w ar a n c (mkRows k rows)) (hh : hi ≤ w.heap.size) (h0 : 0 ≤ k) (h1 : k ≤ 1048576) (hs : rowsSz rows ≤ 1048576) :
    Calls Try.prog 21 #[trieV ar a n c, .int .i64 k] w (Leaves w (.int .i64 (k + (lens rows rows.length : Nat)))) := by
  have hl : rows.length = n := by rw [← mkRows_len k rows]; exact hI.2.len
  have := heldRelS ar a n c rows k w hI.2 hh h0 (by omega) hs hl
  rw [← hl] at this ⊢
  exact this
theorem row_len5 {ar : Int} {rows : List (List Int)} (h : validR ar rows = true) : rowsSz rows ≤ 1048576 := by
  obtain ⟨⟨h1, h2⟩, h3, h4⟩ := validR_out h
  have hj : ∀ j, j ≤ rows.length → lens rows j ≤ j * 5 := by
    intro j
    induction j with
    | zero => intro _; simp [lens]
    | succ j ih =>
      intro hj
      have := ih (by omega); have h5 := (h4 j (by omega)).1
      simp only [lens, Nat.add_mul, Nat.one_mul]; omega
  have := hj rows.length (Nat.le_refl _)
  unfold rowsSz; omega
theorem sz_nil : rowsSz [] ≤ 1048576 := by simp [rowsSz, lens]
end Go.Proofs.Yteccheoejmmjeaa
