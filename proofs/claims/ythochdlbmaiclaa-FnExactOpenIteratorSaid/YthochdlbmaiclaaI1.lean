/- Walks: the end of a group of rows. -/
import Derived.Test.YthochdlbmaiclaaI0
import Derived.Test.YthochdlbmaiclaaIt
import Derived.Test.YthochdlbmaiclaaQ8
namespace Go.Proofs.Ythochdlbmaiclaa
set_option linter.unusedSimpArgs false
set_option linter.unusedVariables false
open Go.RowKit
/-- a row's cell at a level, out of the rows -/
theorem rowsKey {fz : Bool} {lo hi : Nat} {w : World} {b off n c : Nat} {rows : List (List Int)} (h : RowsA fz lo hi w (some ⟨b, off, none⟩) n c rows) {i k : Nat} (hi' : i < n) (hk : k < (rx rows i).length) :
    ∃ b2 off2 rn rc, w.cell? ⟨b, off + i, none⟩ = some (.slice (some ⟨b2, off2, none⟩) rn rc) ∧ k < rn ∧ rn ≤ rc ∧ rn ≤ 9223372036854775807 ∧ w.cell? ⟨b2, off2 + k, none⟩ = some (.int .i64 (kx rows i k)) ∧ I64 (kx rows i k) := by
  obtain ⟨_, _, ra, rn, rc, hc, hr, _⟩ := RowsA.at h hi'
  have hl := hr.len
  obtain ⟨b2, off2, rfl, _, _, hc2, _⟩ := hr.open (by omega)
  exact ⟨b2, off2, rn, rc, hc, by omega, hr.2.1, hr.small, hc2 k (by omega), hr.at (by omega)⟩
set_option maxHeartbeats 1600000 in
theorem implGroupEnd {fz : Bool} {lo hi : Nat} (ar : Int) (a : Option Addr) (n c : Nat) (rows : List (List Int)) (la : Option Addr) (ln lc : Nat) (ga : Option Addr) (gn gc : Nat) (pa : Option Addr) (pn pc : Nat) (l p h : Nat) (w : World)
    (hI : RowsA fz lo hi w a n c rows) (hh : hi ≤ w.heap.size) (hp : p < h) (hhn : h ≤ rows.length) (hrow : ∀ i, i < h → l < (rx rows i).length) :
    Calls Try.prog 46 #[iterV ar a n c la ln lc ga gn gc pa pn pc, .int .i64 l, .int .i64 p, .int .i64 h] w (Leaves w (.int .i64 ((grpEnd rows l p h : Nat) : Int))) := by
  have hl := hI.len
  have hs := hI.small
  have hhn' : h ≤ n := by omega
  have HL := hid hl; clear hl hhn
  have HR := hid hrow; clear hrow
  have hls : l ≤ 9223372036854775807 := by
    obtain ⟨b, off, rfl⟩ := RowsA.some hI (show 0 < n by omega)
    obtain ⟨_, _, rn, _, _, h1, _, h2, _⟩ := rowsKey hI (show p < n by omega) (HR.out p hp)
    omega
  go_enter Try.func46, Try.ntmps46
  have hI1 := hI.al intsOK hh (.cells #[.int .i64 ar, .slice a n c, .slice la ln lc, .slice ga gn gc, .slice pa pn pc] 29)
  obtain ⟨b, off, rfl⟩ := RowsA.some hI (show 0 < n by omega)
  obtain ⟨b2, off2, rn, rc, d0, d1, d2, d3, d4, _⟩ := rowsKey hI1 (show p < n by omega) (HR.out p hp)
  generalize hv : kx rows p l = v at *
  have HV := hid hv; clear hv
  have HI := hid (And.intro hI hI1); clear hI hI1
  go_wp2_with fail
  go_loop [2] (fun i => ∃ q : Nat, i = .int .i64 q ∧ p ≤ q ∧ q ≤ h ∧ Hid (∀ i, p ≤ i → i < q → kx rows i l = kx rows p l)) (fun i => h - (intOf i).toNat)
  case atStart => exact ⟨p, rfl, Nat.le_refl _, by omega, hid (fun i h1 h2 => by omega)⟩
  case round =>
    obtain ⟨q, rfl, hq1, hq2, HT⟩ := hrel
    by_cases hlt : q < h
    · obtain ⟨b3, off3, rn', rc', e0, e1, e2, e3, e4, _⟩ := rowsKey HI.out.2 (show q < n by omega) (HR.out q hlt)
      generalize hx : kx rows q l = x at *
      have HX := hid hx; clear hx
      by_cases he : x = v
      · have hb : (x == v) = true := by simp [he]
        have HT2 : Hid (∀ i, p ≤ i → i < q + 1 → kx rows i l = kx rows p l) := hid (fun i h1 h2 => by
          by_cases e : i = q
          · subst e; rw [HX.out, HV.out]; exact he
          · exact HT.out i h1 (by omega))
        have HE := hid he; clear he
        go_wp2_with fail
        go_round
        case rel => exact ⟨q + 1, by go_num, by omega, by omega, HT2⟩
        case measure => simp [intOf]; omega
      · have hb : (x == v) = false := by simp [he]
        have HF := hid (grpEnd_eq (rows := rows) (k := l) (p := p) (hi := h) hq2 hq1 HT.out (fun _ => by rw [HX.out, HV.out]; exact he))
        have HE := hid he; clear he
        go_wp2_with fail
        go_ret
        exact ⟨by rw [HF.out]; rfl, (by repeat (first | with_reducible assumption | with_reducible exact Below.refl _ _ | with_reducible refine below_drewN ?_ _ | with_reducible refine Below.al ?_ (by first | with_reducible exact Nat.le_refl _ | omega | (simp; done) | (simp; omega) | exact Nat.le_refl _) _ | with_reducible refine Below.setCell ?_ (by first | with_reducible exact Nat.le_refl _ | omega | (simp; done) | (simp; omega) | exact Nat.le_refl _) _ | assumption | exact Below.refl _ _ | refine below_drewN ?_ _ | refine Below.al ?_ (by first | with_reducible exact Nat.le_refl _ | omega | (simp; done) | (simp; omega) | exact Nat.le_refl _) _ | refine Below.setCell ?_ (by first | with_reducible exact Nat.le_refl _ | omega | (simp; done) | (simp; omega) | exact Nat.le_refl _) _))⟩
    · have HF := hid (grpEnd_eq (rows := rows) (k := l) (p := p) (hi := h) hq2 hq1 HT.out (fun h => by omega))
      go_wp2_with fail
      go_ret
      exact ⟨by rw [HF.out]; rfl, (by repeat (first | with_reducible assumption | with_reducible exact Below.refl _ _ | with_reducible refine below_drewN ?_ _ | with_reducible refine Below.al ?_ (by first | with_reducible exact Nat.le_refl _ | omega | (simp; done) | (simp; omega) | exact Nat.le_refl _) _ | with_reducible refine Below.setCell ?_ (by first | with_reducible exact Nat.le_refl _ | omega | (simp; done) | (simp; omega) | exact Nat.le_refl _) _ | assumption | exact Below.refl _ _ | refine below_drewN ?_ _ | refine Below.al ?_ (by first | with_reducible exact Nat.le_refl _ | omega | (simp; done) | (simp; omega) | exact Nat.le_refl _) _ | refine Below.setCell ?_ (by first | with_reducible exact Nat.le_refl _ | omega | (simp; done) | (simp; omega) | exact Nat.le_refl _) _))⟩
end Go.Proofs.Ythochdlbmaiclaa
