/- Walks: whether an iterator stands at a key, and the key. -/
import Derived.Test.YthochdlbmaiclaaI5
namespace Go.Proofs.Ythochdlbmaiclaa
set_option linter.unusedSimpArgs false
set_option linter.unusedVariables false
open Go.RowKit
theorem stands_inv {ar : Int} {rows : List (List Int)} {low high pos : List Int} (h : validIt ar rows low high pos = false) : standsF ar rows low high pos = false := by simp [standsF, h]
theorem stands_nil {ar : Int} {rows : List (List Int)} {low high pos : List Int} (h : pos.length = 0) : standsF ar rows low high pos = false := by simp [standsF, h]
theorem stands_val {ar : Int} {rows : List (List Int)} {low high pos : List Int} (h : validIt ar rows low high pos = true) (h0 : 0 < pos.length) : standsF ar rows low high pos = !atEndF ar rows low high pos := by simp [standsF, h, h0]
/-- the current key; 0 if there is none -/
noncomputable def curKey (ar : Int) (rows : List (List Int)) (low high pos : List Int) : Int := if standsF ar rows low high pos = true then kx rows (px pos (pos.length - 1)) (pos.length - 1) else 0
theorem curKey_no {ar : Int} {rows : List (List Int)} {low high pos : List Int} (h : standsF ar rows low high pos = false) : curKey ar rows low high pos = 0 := by simp [curKey, h]
theorem curKey_yes {ar : Int} {rows : List (List Int)} {low high pos : List Int} (h : standsF ar rows low high pos = true) : curKey ar rows low high pos = kx rows (px pos (pos.length - 1)) (pos.length - 1) := by simp [curKey, h]
abbrev intBool (x : Int) (b : Bool) : Value := .tuple #[.int .i64 x, .bool b]
set_option maxRecDepth 100000 in
set_option maxHeartbeats 6400000 in
theorem implStands {fz : Bool} {lo hi : Nat} (ar : Int) (a : Option Addr) (n c : Nat) (rows : List (List Int)) (la : Option Addr) (ln lc : Nat) (lw : List Int) (ga : Option Addr) (gn gc : Nat) (gh : List Int) (pa : Option Addr) (pn pc : Nat) (ps : List Int) (w : World)
    (hI : IterA fz lo hi w ar a n c rows la ln lc lw ga gn gc gh pa pn pc ps) (hh : hi ≤ w.heap.size) :
    Calls Try.prog 44 #[iterV ar a n c la ln lc ga gn gc pa pn pc] w (Leaves w (.bool (standsF ar rows lw gh ps))) := by
  have hl4 := hI.2.2.2.len
  have hs4 := hI.2.2.2.small
  have HL := hid hl4; clear hl4
  have HI := hid hI; clear hI
  obtain ⟨vb, hvb⟩ : ∃ vb, validIt ar rows lw gh ps = vb := ⟨_, rfl⟩
  have HVB := hid hvb; clear hvb
  cases vb with
  | false =>
    have HF := hid (stands_inv HVB.out)
    go_enter Try.func44, Try.ntmps44
    go_wp2_with fail
    refine (implValidIt ar a n c rows la ln lc lw ga gn gc gh pa pn pc ps _ (beIter (B := w.heap.size) HI.out (by repeat (first | with_reducible assumption | with_reducible exact Below.refl _ _ | with_reducible refine below_drewN ?_ _ | with_reducible refine Below.al ?_ (by first | with_reducible exact Nat.le_refl _ | omega | (simp; done) | (simp; omega) | exact Nat.le_refl _) _ | with_reducible refine Below.setCell ?_ (by first | with_reducible exact Nat.le_refl _ | omega | (simp; done) | (simp; omega) | exact Nat.le_refl _) _ | assumption | exact Below.refl _ _ | refine below_drewN ?_ _ | refine Below.al ?_ (by first | with_reducible exact Nat.le_refl _ | omega | (simp; done) | (simp; omega) | exact Nat.le_refl _) _ | refine Below.setCell ?_ (by first | with_reducible exact Nat.le_refl _ | omega | (simp; done) | (simp; omega) | exact Nat.le_refl _) _)) hh) (by first | with_reducible exact Nat.le_refl _ | omega | (simp; done) | (simp; omega) | exact Nat.le_refl _)).mono ?_
    rintro e w1 ⟨rfl, hb1⟩
    rw [HVB.out]
    have hb2 : Below w.heap.size w w1 := Below.trans (by repeat (first | with_reducible assumption | with_reducible exact Below.refl _ _ | with_reducible refine below_drewN ?_ _ | with_reducible refine Below.al ?_ (by first | with_reducible exact Nat.le_refl _ | omega | (simp; done) | (simp; omega) | exact Nat.le_refl _) _ | with_reducible refine Below.setCell ?_ (by first | with_reducible exact Nat.le_refl _ | omega | (simp; done) | (simp; omega) | exact Nat.le_refl _) _ | assumption | exact Below.refl _ _ | refine below_drewN ?_ _ | refine Below.al ?_ (by first | with_reducible exact Nat.le_refl _ | omega | (simp; done) | (simp; omega) | exact Nat.le_refl _) _ | refine Below.setCell ?_ (by first | with_reducible exact Nat.le_refl _ | omega | (simp; done) | (simp; omega) | exact Nat.le_refl _) _)) (hb1.mono (by first | with_reducible exact Nat.le_refl _ | omega | (simp; done) | (simp; omega) | exact Nat.le_refl _))
    have HB := hid hb2; clear hb1 hb2
    go_wp2_with fail
    go_ret
    exact ⟨by rw [HF.out]; rfl, HB.out⟩
  | true =>
    go_enter Try.func44, Try.ntmps44
    go_wp2_with fail
    refine (implValidIt ar a n c rows la ln lc lw ga gn gc gh pa pn pc ps _ (beIter (B := w.heap.size) HI.out (by repeat (first | with_reducible assumption | with_reducible exact Below.refl _ _ | with_reducible refine below_drewN ?_ _ | with_reducible refine Below.al ?_ (by first | with_reducible exact Nat.le_refl _ | omega | (simp; done) | (simp; omega) | exact Nat.le_refl _) _ | with_reducible refine Below.setCell ?_ (by first | with_reducible exact Nat.le_refl _ | omega | (simp; done) | (simp; omega) | exact Nat.le_refl _) _ | assumption | exact Below.refl _ _ | refine below_drewN ?_ _ | refine Below.al ?_ (by first | with_reducible exact Nat.le_refl _ | omega | (simp; done) | (simp; omega) | exact Nat.le_refl _) _ | refine Below.setCell ?_ (by first | with_reducible exact Nat.le_refl _ | omega | (simp; done) | (simp; omega) | exact Nat.le_refl _) _)) hh) (by first | with_reducible exact Nat.le_refl _ | omega | (simp; done) | (simp; omega) | exact Nat.le_refl _)).mono ?_
    rintro e w1 ⟨rfl, hb1⟩
    rw [HVB.out]
    have hb2 : Below w.heap.size w w1 := Below.trans (by repeat (first | with_reducible assumption | with_reducible exact Below.refl _ _ | with_reducible refine below_drewN ?_ _ | with_reducible refine Below.al ?_ (by first | with_reducible exact Nat.le_refl _ | omega | (simp; done) | (simp; omega) | exact Nat.le_refl _) _ | with_reducible refine Below.setCell ?_ (by first | with_reducible exact Nat.le_refl _ | omega | (simp; done) | (simp; omega) | exact Nat.le_refl _) _ | assumption | exact Below.refl _ _ | refine below_drewN ?_ _ | refine Below.al ?_ (by first | with_reducible exact Nat.le_refl _ | omega | (simp; done) | (simp; omega) | exact Nat.le_refl _) _ | refine Below.setCell ?_ (by first | with_reducible exact Nat.le_refl _ | omega | (simp; done) | (simp; omega) | exact Nat.le_refl _) _)) (hb1.mono (by first | with_reducible exact Nat.le_refl _ | omega | (simp; done) | (simp; omega) | exact Nat.le_refl _))
    have c0 : w1.cell? ⟨w.heap.size, 0, none⟩ = some (.int .i64 ar) := (by rw [(bcell hb1).1 _ _ (by first | omega | (simp; done) | (simp; omega))]; first | with_reducible assumption | (go_simp; done) | assumption | (simp [World.cell?]; done))
    have c1 : w1.cell? ⟨w.heap.size, 1, none⟩ = some (.slice a n c) := (by rw [(bcell hb1).1 _ _ (by first | omega | (simp; done) | (simp; omega))]; first | with_reducible assumption | (go_simp; done) | assumption | (simp [World.cell?]; done))
    have c2 : w1.cell? ⟨w.heap.size, 2, none⟩ = some (.slice la ln lc) := (by rw [(bcell hb1).1 _ _ (by first | omega | (simp; done) | (simp; omega))]; first | with_reducible assumption | (go_simp; done) | assumption | (simp [World.cell?]; done))
    have c3 : w1.cell? ⟨w.heap.size, 3, none⟩ = some (.slice ga gn gc) := (by rw [(bcell hb1).1 _ _ (by first | omega | (simp; done) | (simp; omega))]; first | with_reducible assumption | (go_simp; done) | assumption | (simp [World.cell?]; done))
    have c4 : w1.cell? ⟨w.heap.size, 4, none⟩ = some (.slice pa pn pc) := (by rw [(bcell hb1).1 _ _ (by first | omega | (simp; done) | (simp; omega))]; first | with_reducible assumption | (go_simp; done) | assumption | (simp [World.cell?]; done))
    have hz := hb2.size
    have HB := hid hb2; clear hb1 hb2
    by_cases hp : pn = 0
    · have HF := hid (stands_nil (ar := ar) (rows := rows) (low := lw) (high := gh) (pos := ps) (by rw [HL.out]; exact hp))
      subst hp
      go_wp2_with fail
      go_ret
      exact ⟨by rw [HF.out]; rfl, HB.out⟩
    · have HF := hid (stands_val HVB.out (by rw [HL.out]; omega))
      have hp0 : 0 < pn := by omega
      obtain ⟨eb, heb⟩ : ∃ eb, atEndF ar rows lw gh ps = eb := ⟨_, rfl⟩
      have HEB := hid heb; clear heb
      go_wp2_with fail
      refine (implAtEnd ar a n c rows la ln lc lw ga gn gc gh pa pn pc ps _ (beIter HI.out HB.out hh) (by omega)).mono ?_
      rintro e w2 ⟨rfl, hb3⟩
      rw [HEB.out]
      have HB2 := hid (Below.calm HB.out hb3); clear hb3
      cases eb
      all_goals
        go_wp2_with fail
        go_ret
        exact ⟨by rw [HF.out, HEB.out]; rfl, HB2.out⟩
end Go.Proofs.Ythochdlbmaiclaa
