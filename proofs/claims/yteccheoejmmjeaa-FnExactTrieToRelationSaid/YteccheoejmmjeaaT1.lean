/- Walks: copying, measuring and comparing tries. -/
import Derived.Test.YteccheoejmmjeaaQ7
import Derived.Test.YteccheoejmmjeaaW5
import Derived.Test.YteccheoejmmjeaaS1
namespace Go.Proofs.Yteccheoejmmjeaa
set_option linter.unusedSimpArgs false
set_option linter.unusedVariables false
open Go.RowKit
/-- The call returns a trie in new memory; nothing that was there has turned. -/
def GivesTrie (w : World) (ar : Int) (rows : List (List Int)) (e : Ending) (w' : World) : Prop :=
  ∃ a n c, e = .returned (trieV ar a n c) ∧ RowsA true w.heap.size w'.heap.size w' a n c rows ∧ Below w.heap.size w w'
set_option maxHeartbeats 800000 in
theorem toTrie {lo hi : Nat} (ar : Int) (a : Option Addr) (n c : Nat) (rows : List (List Int)) (w : World) (hI : RowsA false lo hi w a n c rows) (hh : hi ≤ w.heap.size) (har : I64 ar) (hn : n ≤ 1048576) (hr : ∀ i, (rx rows i).length ≤ 1048576) :
    Calls Try.prog 19 #[trieV ar a n c] w (GivesTrie w ar rows) := by
  have HAR := hid har; clear har
  have HR := hid hr; clear hr
  go_enter Try.func19, Try.ntmps19
  go_wp2_with fail
  refine (toRows a n c rows _ (hI.be intsOK (B := w.heap.size) (by repeat (first | with_reducible assumption | with_reducible exact Below.refl _ _ | with_reducible refine below_drewN ?_ _ | with_reducible refine Below.al ?_ (by first | with_reducible exact Nat.le_refl _ | omega | (simp; done) | (simp; omega) | exact Nat.le_refl _) _ | with_reducible refine Below.setCell ?_ (by first | with_reducible exact Nat.le_refl _ | omega | (simp; done) | (simp; omega) | exact Nat.le_refl _) _ | assumption | exact Below.refl _ _ | refine below_drewN ?_ _ | refine Below.al ?_ (by first | with_reducible exact Nat.le_refl _ | omega | (simp; done) | (simp; omega) | exact Nat.le_refl _) _ | refine Below.setCell ?_ (by first | with_reducible exact Nat.le_refl _ | omega | (simp; done) | (simp; omega) | exact Nat.le_refl _) _)) hh) (by first | with_reducible exact Nat.le_refl _ | omega | (simp; done) | (simp; omega) | exact Nat.le_refl _) hn HR.out).mono ?_
  rintro e w1 ⟨a1, n1, c1, rfl, ho1, hb1⟩
  have hz := hb1.size
  simp at hz
  have hb2 : Below w.heap.size w w1 := Below.trans (by repeat (first | with_reducible assumption | with_reducible exact Below.refl _ _ | with_reducible refine below_drewN ?_ _ | with_reducible refine Below.al ?_ (by first | with_reducible exact Nat.le_refl _ | omega | (simp; done) | (simp; omega) | exact Nat.le_refl _) _ | with_reducible refine Below.setCell ?_ (by first | with_reducible exact Nat.le_refl _ | omega | (simp; done) | (simp; omega) | exact Nat.le_refl _) _ | assumption | exact Below.refl _ _ | refine below_drewN ?_ _ | refine Below.al ?_ (by first | with_reducible exact Nat.le_refl _ | omega | (simp; done) | (simp; omega) | exact Nat.le_refl _) _ | refine Below.setCell ?_ (by first | with_reducible exact Nat.le_refl _ | omega | (simp; done) | (simp; omega) | exact Nat.le_refl _) _)) (hb1.mono (by first | with_reducible exact Nat.le_refl _ | omega | (simp; done) | (simp; omega) | exact Nat.le_refl _))
  have q0 : w1.cell? ⟨w.heap.size + 1, 0, none⟩ = some (.int .i64 0) := (by rw [(bcell hb1).1 _ _ (by first | omega | (simp; done) | (simp; omega))]; first | with_reducible assumption | (go_simp; done) | assumption | (simp [World.cell?]; done))
  have q1 : w1.cell? ⟨w.heap.size + 1, 1, none⟩ = some (.slice none 0 0) := (by rw [(bcell hb1).1 _ _ (by first | omega | (simp; done) | (simp; omega))]; first | with_reducible assumption | (go_simp; done) | assumption | (simp [World.cell?]; done))
  have q2 : w1.frozen? ⟨w.heap.size + 1, 0, none⟩ = false := (by rw [(bcell hb1).2 _ _ (by first | omega | (simp; done) | (simp; omega))]; first | with_reducible assumption | (go_simp; done) | assumption | (simp [World.frozen?]; done))
  have q3 : w1.frozen? ⟨w.heap.size + 1, 1, none⟩ = false := (by rw [(bcell hb1).2 _ _ (by first | omega | (simp; done) | (simp; omega))]; first | with_reducible assumption | (go_simp; done) | assumption | (simp [World.frozen?]; done))
  have r0 : w1.cell? ⟨w.heap.size + 1 + 1, 0, none⟩ = some (.int .i64 ar) := (by rw [(bcell hb1).1 _ _ (by first | omega | (simp; done) | (simp; omega))]; first | with_reducible assumption | (go_simp; done) | assumption | (simp [World.cell?]; done))
  have r1 : w1.cell? ⟨w.heap.size + 1 + 1, 1, none⟩ = some (.slice none 0 0) := (by rw [(bcell hb1).1 _ _ (by first | omega | (simp; done) | (simp; omega))]; first | with_reducible assumption | (go_simp; done) | assumption | (simp [World.cell?]; done))
  have r2 : w1.frozen? ⟨w.heap.size + 1 + 1, 0, none⟩ = false := (by rw [(bcell hb1).2 _ _ (by first | omega | (simp; done) | (simp; omega))]; first | with_reducible assumption | (go_simp; done) | assumption | (simp [World.frozen?]; done))
  have r3 : w1.frozen? ⟨w.heap.size + 1 + 1, 1, none⟩ = false := (by rw [(bcell hb1).2 _ _ (by first | omega | (simp; done) | (simp; omega))]; first | with_reducible assumption | (go_simp; done) | assumption | (simp [World.frozen?]; done))
  have HO := hid ho1; clear ho1
  have HB := hid (And.intro hb1 hb2); clear hb1 hb2
  go_wp2_with fail
  refine bodyPost_ret (v := trieV ar a1 n1 c1) ?_ rfl ⟨_, _, _, rfl, ?_, ?_⟩
  · simp [results, Try.results19, go_sem, q0, q1]
  · have h1 := HO.out
    exact (SlA.keep intsOK h1 (by repeat (first | assumption | exact Keeps.refl _ _ _ | exact HB.out.1 | refine Keeps.dr ?_ _ | refine Keeps.sc ?_ (by first | omega | (simp; done) | (simp; omega)) _ | refine Keeps.al ?_ (by first | with_reducible exact Nat.le_refl _ | omega | (simp; done) | (simp; omega) | exact Nat.le_refl _) _))).wide intsOK (by first | with_reducible exact Nat.le_refl _ | omega | (simp; done) | (simp; omega) | exact Nat.le_refl _) (by first | with_reducible exact Nat.le_refl _ | omega | (simp; done) | (simp; omega) | exact Nat.le_refl _)
  · have hb2 := HB.out.2
    exact (by repeat (first | with_reducible assumption | with_reducible exact Below.refl _ _ | with_reducible refine below_drewN ?_ _ | with_reducible refine Below.al ?_ (by first | with_reducible exact Nat.le_refl _ | omega | (simp; done) | (simp; omega) | exact Nat.le_refl _) _ | with_reducible refine Below.setCell ?_ (by first | with_reducible exact Nat.le_refl _ | omega | (simp; done) | (simp; omega) | exact Nat.le_refl _) _ | assumption | exact Below.refl _ _ | refine below_drewN ?_ _ | refine Below.al ?_ (by first | with_reducible exact Nat.le_refl _ | omega | (simp; done) | (simp; omega) | exact Nat.le_refl _) _ | refine Below.setCell ?_ (by first | with_reducible exact Nat.le_refl _ | omega | (simp; done) | (simp; omega) | exact Nat.le_refl _) _))
set_option maxHeartbeats 400000 in
theorem szTrie {fz : Bool} {lo hi : Nat} (ar : Int) (a : Option Addr) (n c : Nat) (rows : List (List Int)) (left : Int) (w : World) (hI : RowsA fz lo hi w a n c rows) (hh : hi ≤ w.heap.size) (h0 : 0 ≤ left) (h1 : left ≤ 1048576) :
    Calls Try.prog 17 #[trieV ar a n c, .int .i64 left] w (Leaves w (.int .i64 (szI (rowsSz rows) left))) := by
  by_cases hle : (rowsSz rows : Int) ≤ left
  · have hsz := szI_yes hle
    obtain ⟨t, ht⟩ : ∃ t, t = left - rowsSz rows := ⟨_, rfl⟩
    have ht0 : 0 ≤ t := by omega
    rw [← ht] at hsz
    have HS := hid hsz; clear hsz
    have HT := hid (And.intro ht hle); clear ht hle
    go_enter Try.func17, Try.ntmps17
    go_wp2_with fail
    refine (szRowsG a n c rows left _ (hI.al intsOK hh _) h0 h1).mono ?_
    rintro e w1 ⟨rfl, m1, rfl⟩
    rw [HS.out]
    go_wp2_with fail
    go_ret
    exact ⟨by rw [HS.out]; rfl, (by repeat (first | with_reducible assumption | with_reducible exact Below.refl _ _ | with_reducible refine below_drewN ?_ _ | with_reducible refine Below.al ?_ (by first | with_reducible exact Nat.le_refl _ | omega | (simp; done) | (simp; omega) | exact Nat.le_refl _) _ | with_reducible refine Below.setCell ?_ (by first | with_reducible exact Nat.le_refl _ | omega | (simp; done) | (simp; omega) | exact Nat.le_refl _) _ | assumption | exact Below.refl _ _ | refine below_drewN ?_ _ | refine Below.al ?_ (by first | with_reducible exact Nat.le_refl _ | omega | (simp; done) | (simp; omega) | exact Nat.le_refl _) _ | refine Below.setCell ?_ (by first | with_reducible exact Nat.le_refl _ | omega | (simp; done) | (simp; omega) | exact Nat.le_refl _) _))⟩
  · have hsz := szI_no hle
    have HS := hid hsz; clear hsz
    have HT := hid hle; clear hle
    go_enter Try.func17, Try.ntmps17
    go_wp2_with fail
    refine (szRowsG a n c rows left _ (hI.al intsOK hh _) h0 h1).mono ?_
    rintro e w1 ⟨rfl, m1, rfl⟩
    rw [HS.out]
    go_wp2_with fail
    go_ret
    exact ⟨by rw [HS.out]; rfl, (by repeat (first | with_reducible assumption | with_reducible exact Below.refl _ _ | with_reducible refine below_drewN ?_ _ | with_reducible refine Below.al ?_ (by first | with_reducible exact Nat.le_refl _ | omega | (simp; done) | (simp; omega) | exact Nat.le_refl _) _ | with_reducible refine Below.setCell ?_ (by first | with_reducible exact Nat.le_refl _ | omega | (simp; done) | (simp; omega) | exact Nat.le_refl _) _ | assumption | exact Below.refl _ _ | refine below_drewN ?_ _ | refine Below.al ?_ (by first | with_reducible exact Nat.le_refl _ | omega | (simp; done) | (simp; omega) | exact Nat.le_refl _) _ | refine Below.setCell ?_ (by first | with_reducible exact Nat.le_refl _ | omega | (simp; done) | (simp; omega) | exact Nat.le_refl _) _))⟩
open Classical in
noncomputable def eqT (ar ar' : Int) (rows rows' : List (List Int)) : Bool := decide (ar = ar' ∧ rows = rows')
set_option maxHeartbeats 800000 in
theorem eqTrie {fz fz' : Bool} {lo hi lo' hi' : Nat} (ar ar' : Int) (a a' : Option Addr) (n c n' c' : Nat) (rows rows' : List (List Int)) (w : World) (hI : RowsA fz lo hi w a n c rows) (hh : hi ≤ w.heap.size) (hJ : RowsA fz' lo' hi' w a' n' c' rows') (hh' : hi' ≤ w.heap.size) :
    Calls Try.prog 10 #[trieV ar a n c, trieV ar' a' n' c'] w (Leaves w (.bool (eqT ar ar' rows rows'))) := by
  by_cases he : ar = ar'
  · have hb : (ar != ar') = false := by simp [he]
    have hE : eqT ar ar' rows rows' = eqLL rows rows' := by unfold eqT eqLL; simp [he]
    rw [hE]
    have HE := hid (And.intro he hE); clear he hE
    obtain ⟨q, hq⟩ : ∃ q, q = eqLL rows rows' := ⟨_, rfl⟩
    rw [← hq]
    have HQ := hid hq; clear hq
    cases q
    all_goals
      go_enter Try.func10, Try.ntmps10
      go_wp2_with fail
      refine (eqRows a a' n c n' c' rows rows' _ (hI.be intsOK (B := w.heap.size) (by repeat (first | with_reducible assumption | with_reducible exact Below.refl _ _ | with_reducible refine below_drewN ?_ _ | with_reducible refine Below.al ?_ (by first | with_reducible exact Nat.le_refl _ | omega | (simp; done) | (simp; omega) | exact Nat.le_refl _) _ | with_reducible refine Below.setCell ?_ (by first | with_reducible exact Nat.le_refl _ | omega | (simp; done) | (simp; omega) | exact Nat.le_refl _) _ | assumption | exact Below.refl _ _ | refine below_drewN ?_ _ | refine Below.al ?_ (by first | with_reducible exact Nat.le_refl _ | omega | (simp; done) | (simp; omega) | exact Nat.le_refl _) _ | refine Below.setCell ?_ (by first | with_reducible exact Nat.le_refl _ | omega | (simp; done) | (simp; omega) | exact Nat.le_refl _) _)) hh) (hJ.be intsOK (B := w.heap.size) (by repeat (first | with_reducible assumption | with_reducible exact Below.refl _ _ | with_reducible refine below_drewN ?_ _ | with_reducible refine Below.al ?_ (by first | with_reducible exact Nat.le_refl _ | omega | (simp; done) | (simp; omega) | exact Nat.le_refl _) _ | with_reducible refine Below.setCell ?_ (by first | with_reducible exact Nat.le_refl _ | omega | (simp; done) | (simp; omega) | exact Nat.le_refl _) _ | assumption | exact Below.refl _ _ | refine below_drewN ?_ _ | refine Below.al ?_ (by first | with_reducible exact Nat.le_refl _ | omega | (simp; done) | (simp; omega) | exact Nat.le_refl _) _ | refine Below.setCell ?_ (by first | with_reducible exact Nat.le_refl _ | omega | (simp; done) | (simp; omega) | exact Nat.le_refl _) _)) hh')).mono ?_
      rintro e w1 ⟨rfl, m1, rfl⟩
      rw [← HQ.out]
      go_wp2_with fail
      go_ret
      exact ⟨rfl, (by repeat (first | with_reducible assumption | with_reducible exact Below.refl _ _ | with_reducible refine below_drewN ?_ _ | with_reducible refine Below.al ?_ (by first | with_reducible exact Nat.le_refl _ | omega | (simp; done) | (simp; omega) | exact Nat.le_refl _) _ | with_reducible refine Below.setCell ?_ (by first | with_reducible exact Nat.le_refl _ | omega | (simp; done) | (simp; omega) | exact Nat.le_refl _) _ | assumption | exact Below.refl _ _ | refine below_drewN ?_ _ | refine Below.al ?_ (by first | with_reducible exact Nat.le_refl _ | omega | (simp; done) | (simp; omega) | exact Nat.le_refl _) _ | refine Below.setCell ?_ (by first | with_reducible exact Nat.le_refl _ | omega | (simp; done) | (simp; omega) | exact Nat.le_refl _) _))⟩
  · have hb : (ar != ar') = true := by simp [he]
    have hE : eqT ar ar' rows rows' = false := by unfold eqT; simp [he]
    rw [hE]
    have HE := hid (And.intro he hE); clear he hE
    go_enter Try.func10, Try.ntmps10
    go_wp2_with fail
    go_ret
    exact ⟨rfl, (by repeat (first | with_reducible assumption | with_reducible exact Below.refl _ _ | with_reducible refine below_drewN ?_ _ | with_reducible refine Below.al ?_ (by first | with_reducible exact Nat.le_refl _ | omega | (simp; done) | (simp; omega) | exact Nat.le_refl _) _ | with_reducible refine Below.setCell ?_ (by first | with_reducible exact Nat.le_refl _ | omega | (simp; done) | (simp; omega) | exact Nat.le_refl _) _ | assumption | exact Below.refl _ _ | refine below_drewN ?_ _ | refine Below.al ?_ (by first | with_reducible exact Nat.le_refl _ | omega | (simp; done) | (simp; omega) | exact Nat.le_refl _) _ | refine Below.setCell ?_ (by first | with_reducible exact Nat.le_refl _ | omega | (simp; done) | (simp; omega) | exact Nat.le_refl _) _))⟩
theorem eqT_refl (ar : Int) (rows : List (List Int)) : eqT ar ar rows rows = true := by simp [eqT]
end Go.Proofs.Yteccheoejmmjeaa
