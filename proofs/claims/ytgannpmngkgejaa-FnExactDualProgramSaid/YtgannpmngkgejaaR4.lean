/- Walks: the operations on rational numbers, both sides. -/
import Derived.Test.YtgannpmngkgejaaR3
import Derived.Test.YtgannpmngkgejaaQ2
namespace Go.Proofs.Ytgannpmngkgejaa
set_option linter.unusedSimpArgs false
set_option linter.unusedVariables false
open Go.RowKit
theorem mul_bd {x y : Int} (h1 : -1000000000 ≤ x ∧ x ≤ 1000000000) (h2 : -1000000000 ≤ y ∧ y ≤ 1000000000) : -1000000000000000000 ≤ x * y ∧ x * y ≤ 1000000000000000000 := by
  have h : (x * y).natAbs ≤ 1000000000 * 1000000000 := by rw [Int.natAbs_mul]; exact Nat.mul_le_mul (by omega) (by omega)
  omega
/-- both numbers are valid -/
def bothOK (an ad bn bd : Int) : Bool := ratOK an ad && ratOK bn bd
def addR (an ad bn bd : Int) : Int × Int × Bool := if bothOK an ad bn bd = true then newRat (an * bd + bn * ad) (ad * bd) else (0, 0, false)
def mulR (an ad bn bd : Int) : Int × Int × Bool := if bothOK an ad bn bd = true then newRat (an * bn) (ad * bd) else (0, 0, false)
def divR (an ad bn bd : Int) : Int × Int × Bool := if bothOK an ad bn bd = true then newRat (an * bd) (ad * bn) else (0, 0, false)
def subR (an ad bn bd : Int) : Int × Int × Bool := addR an ad (-bn) bd
def cmpRat (an ad bn bd : Int) : Int := if bothOK an ad bn bd = true then cmpI (an * bd) (bn * ad) else 0
theorem ratOK_b {n d : Int} (h : ratOK n d = true) : (-1000000000 ≤ n ∧ n ≤ 1000000000) ∧ (-1000000000 ≤ d ∧ d ≤ 1000000000) ∧ 0 < d := by
  obtain ⟨h1, h2, _⟩ := ratOK_out h
  omega
theorem bothOK_out {an ad bn bd : Int} (h : bothOK an ad bn bd = true) : ratOK an ad = true ∧ ratOK bn bd = true := by simpa [bothOK] using h
/-- the products that the operations make do not wrap -/
theorem ops_bd {an ad bn bd : Int} (h : bothOK an ad bn bd = true) : (-1000000000000000000 ≤ an * bd ∧ an * bd ≤ 1000000000000000000) ∧ (-1000000000000000000 ≤ bn * ad ∧ bn * ad ≤ 1000000000000000000) ∧ (-1000000000000000000 ≤ ad * bd ∧ ad * bd ≤ 1000000000000000000) ∧ (-1000000000000000000 ≤ an * bn ∧ an * bn ≤ 1000000000000000000) ∧ (-1000000000000000000 ≤ ad * bn ∧ ad * bn ≤ 1000000000000000000) := by
  obtain ⟨h1, h2⟩ := bothOK_out h
  have k1 := ratOK_b h1; have k2 := ratOK_b h2
  exact ⟨mul_bd k1.1 k2.2.1, mul_bd k2.1 k1.2.1, mul_bd k1.2.1 k2.2.1, mul_bd k1.1 k2.1, mul_bd k1.2.1 k2.1⟩
set_option maxHeartbeats 1600000 in
theorem implBothValid (an ad bn bd : Int) (w : World) (h1 : I64 an) (h2 : I64 ad) (h3 : I64 bn) (h4 : I64 bd) :
    Calls Try.prog 49 #[ratV an ad, ratV bn bd] w (Leaves w (.bool (bothOK an ad bn bd))) := by
  have HI := hid (And.intro h1 (And.intro h2 (And.intro h3 h4))); clear h1 h2 h3 h4
  obtain ⟨k, hk⟩ : ∃ k, ratOK an ad = k := ⟨_, rfl⟩
  have hb : bothOK an ad bn bd = (k && ratOK bn bd) := by unfold bothOK; rw [hk]
  have HK := hid (And.intro hk hb); clear hk hb
  cases k with
  | false =>
    go_enter Try.func49, Try.ntmps49
    go_wp2_with fail
    refine (implValidRat an ad _ HI.out.1 HI.out.2.1).mono ?_
    rintro e w1 ⟨rfl, hb1⟩
    rw [HK.out.1]
    have hb2 : Below w.heap.size w w1 := Below.trans (by repeat (first | assumption | exact Below.refl _ _ | refine below_drewN ?_ _ | refine below_drew1 ?_ | refine Below.al ?_ (by first | exact Nat.le_refl _ | omega | (simp; done) | (simp; omega)) _ | refine Below.setCell ?_ (by first | exact Nat.le_refl _ | omega | (simp; done) | (simp; omega)) _)) (hb1.mono (by first | exact Nat.le_refl _ | omega | (simp; done) | (simp; omega)))
    have HB := hid hb2; clear hb1 hb2
    go_wp2_with fail
    go_ret
    exact ⟨by rw [HK.out.2]; rfl, HB.out⟩
  | true =>
    go_enter Try.func49, Try.ntmps49
    go_wp2_with fail
    refine (implValidRat an ad _ HI.out.1 HI.out.2.1).mono ?_
    rintro e w1 ⟨rfl, hb1⟩
    rw [HK.out.1]
    have hz := hb1.size
    simp at hz
    have hb2 : Below w.heap.size w w1 := Below.trans (by repeat (first | assumption | exact Below.refl _ _ | refine below_drewN ?_ _ | refine below_drew1 ?_ | refine Below.al ?_ (by first | exact Nat.le_refl _ | omega | (simp; done) | (simp; omega)) _ | refine Below.setCell ?_ (by first | exact Nat.le_refl _ | omega | (simp; done) | (simp; omega)) _)) (hb1.mono (by first | exact Nat.le_refl _ | omega | (simp; done) | (simp; omega)))
    have q0 : w1.cell? ⟨w.heap.size + 1, 0, none⟩ = some (.int .i64 bn) := (by rw [(bcell hb1).1 _ _ (by first | omega | (simp; done) | (simp; omega))]; first | assumption | (go_simp; done) | (simp [World.cell?]; done))
    have q1 : w1.cell? ⟨w.heap.size + 1, 1, none⟩ = some (.int .i64 bd) := (by rw [(bcell hb1).1 _ _ (by first | omega | (simp; done) | (simp; omega))]; first | assumption | (go_simp; done) | (simp [World.cell?]; done))
    have HB := hid hb2; clear hb1 hb2
    go_wp2_with fail
    refine (implValidRat bn bd _ HI.out.2.2.1 HI.out.2.2.2).mono ?_
    rintro e w2 ⟨rfl, hb1⟩
    have hb2 : Below w.heap.size w w2 := HB.out.trans (hb1.mono (by omega))
    have HB2 := hid hb2; clear hb1 hb2
    obtain ⟨k2, hk2⟩ : ∃ k, ratOK bn bd = k := ⟨_, rfl⟩
    rw [hk2] at HK ⊢
    have HK2 := hid hk2; clear hk2
    go_wp2_with fail
    go_ret
    exact ⟨by rw [HK.out.2]; rfl, HB2.out⟩
set_option maxHeartbeats 3200000 in
theorem implAddRational (an ad bn bd : Int) (w : World) (h1 : I64 an) (h2 : I64 ad) (h3 : I64 bn) (h4 : I64 bd) :
    Calls Try.prog 56 #[ratV an ad, ratV bn bd] w (Leaves w (ratB (addR an ad bn bd))) := by
  have HI := hid (And.intro h1 (And.intro h2 (And.intro h3 h4))); clear h1 h2 h3 h4
  obtain ⟨k, hk⟩ : ∃ k, bothOK an ad bn bd = k := ⟨_, rfl⟩
  cases k with
  | false =>
    have hf : addR an ad bn bd = (0, 0, false) := by unfold addR; rw [if_neg (by rw [hk]; decide)]
    have HF := hid hf; have HK := hid hk; clear hf hk
    go_enter Try.func56, Try.ntmps56
    go_wp2_with fail
    refine (implBothValid an ad bn bd _ HI.out.1 HI.out.2.1 HI.out.2.2.1 HI.out.2.2.2).mono ?_
    rintro e w1 ⟨rfl, hb1⟩
    rw [HK.out]
    have hzw1 := hb1.size
    try simp at hzw1
    have q00w1 : w1.cell? ⟨w.heap.size, 0, none⟩ = some (.int .i64 an) := (by rw [(bcell hb1).1 _ _ (by first | omega | (simp; done) | (simp; omega))]; first | assumption | (go_simp; done) | (simp [World.cell?]; done))
    have q10w1 : w1.cell? ⟨w.heap.size + 1, 0, none⟩ = some (.int .i64 bn) := (by rw [(bcell hb1).1 _ _ (by first | omega | (simp; done) | (simp; omega))]; first | assumption | (go_simp; done) | (simp [World.cell?]; done))
    have q20w1 : w1.cell? ⟨w.heap.size + 1 + 1, 0, none⟩ = some (.int .i64 0) := (by rw [(bcell hb1).1 _ _ (by first | omega | (simp; done) | (simp; omega))]; first | assumption | (go_simp; done) | (simp [World.cell?]; done))
    have f20w1 : w1.frozen? ⟨w.heap.size + 1 + 1, 0, none⟩ = false := (by rw [(bcell hb1).2 _ _ (by first | omega | (simp; done) | (simp; omega))]; first | assumption | (go_simp; done) | (simp [World.frozen?]; done))
    have q01w1 : w1.cell? ⟨w.heap.size, 1, none⟩ = some (.int .i64 ad) := (by rw [(bcell hb1).1 _ _ (by first | omega | (simp; done) | (simp; omega))]; first | assumption | (go_simp; done) | (simp [World.cell?]; done))
    have q11w1 : w1.cell? ⟨w.heap.size + 1, 1, none⟩ = some (.int .i64 bd) := (by rw [(bcell hb1).1 _ _ (by first | omega | (simp; done) | (simp; omega))]; first | assumption | (go_simp; done) | (simp [World.cell?]; done))
    have q21w1 : w1.cell? ⟨w.heap.size + 1 + 1, 1, none⟩ = some (.int .i64 0) := (by rw [(bcell hb1).1 _ _ (by first | omega | (simp; done) | (simp; omega))]; first | assumption | (go_simp; done) | (simp [World.cell?]; done))
    have f21w1 : w1.frozen? ⟨w.heap.size + 1 + 1, 1, none⟩ = false := (by rw [(bcell hb1).2 _ _ (by first | omega | (simp; done) | (simp; omega))]; first | assumption | (go_simp; done) | (simp [World.frozen?]; done))
    have hBw1 : Below w.heap.size w w1 := Below.trans (by repeat (first | assumption | exact Below.refl _ _ | refine below_drewN ?_ _ | refine below_drew1 ?_ | refine Below.al ?_ (by first | exact Nat.le_refl _ | omega | (simp; done) | (simp; omega)) _ | refine Below.setCell ?_ (by first | exact Nat.le_refl _ | omega | (simp; done) | (simp; omega)) _)) (hb1.mono (by first | exact Nat.le_refl _ | omega | (simp; done) | (simp; omega)))
    have Hw1 := hid hBw1; clear hb1 hBw1
    go_wp2_with fail
    refine bodyPost_ret (v := ratB (0, 0, false)) (by simp [results, Try.results56, go_sem, q20w1, q21w1]) rfl ⟨by rw [HF.out], ?_⟩
    have hq := Hw1.out
    exact (by repeat (first | assumption | exact Below.refl _ _ | refine below_drewN ?_ _ | refine below_drew1 ?_ | refine Below.al ?_ (by first | exact Nat.le_refl _ | omega | (simp; done) | (simp; omega)) _ | refine Below.setCell ?_ (by first | exact Nat.le_refl _ | omega | (simp; done) | (simp; omega)) _))
  | true =>
    have hO := ops_bd hk
    have wr0 : IntKind.i64.wrap (an * bd) = an * bd := IntWalk.i64_in _ (by omega)
    have wr1 : IntKind.i64.wrap (bn * ad) = bn * ad := IntWalk.i64_in _ (by omega)
    have wr2 : IntKind.i64.wrap (ad * bd) = ad * bd := IntWalk.i64_in _ (by omega)
    have wr3 : IntKind.i64.wrap (an * bd + bn * ad) = an * bd + bn * ad := IntWalk.i64_in _ (by omega)
    have HJ : Hid (I64 (an * bd + bn * ad) ∧ I64 (ad * bd)) := hid ⟨by unfold I64; omega, by unfold I64; omega⟩
    obtain ⟨⟨r1, r2, r3⟩, hr⟩ : ∃ r, newRat (an * bd + bn * ad) (ad * bd) = r := ⟨_, rfl⟩
    have hf : addR an ad bn bd = (r1, r2, r3) := by unfold addR; rw [if_pos hk]; exact hr
    have HF := hid hf; have HR := hid hr; have HK := hid hk; clear hf hr hk hO
    go_enter Try.func56, Try.ntmps56
    go_wp2_with fail
    refine (implBothValid an ad bn bd _ HI.out.1 HI.out.2.1 HI.out.2.2.1 HI.out.2.2.2).mono ?_
    rintro e w1 ⟨rfl, hb1⟩
    rw [HK.out]
    have hzw1 := hb1.size
    try simp at hzw1
    have q00w1 : w1.cell? ⟨w.heap.size, 0, none⟩ = some (.int .i64 an) := (by rw [(bcell hb1).1 _ _ (by first | omega | (simp; done) | (simp; omega))]; first | assumption | (go_simp; done) | (simp [World.cell?]; done))
    have q10w1 : w1.cell? ⟨w.heap.size + 1, 0, none⟩ = some (.int .i64 bn) := (by rw [(bcell hb1).1 _ _ (by first | omega | (simp; done) | (simp; omega))]; first | assumption | (go_simp; done) | (simp [World.cell?]; done))
    have q20w1 : w1.cell? ⟨w.heap.size + 1 + 1, 0, none⟩ = some (.int .i64 0) := (by rw [(bcell hb1).1 _ _ (by first | omega | (simp; done) | (simp; omega))]; first | assumption | (go_simp; done) | (simp [World.cell?]; done))
    have f20w1 : w1.frozen? ⟨w.heap.size + 1 + 1, 0, none⟩ = false := (by rw [(bcell hb1).2 _ _ (by first | omega | (simp; done) | (simp; omega))]; first | assumption | (go_simp; done) | (simp [World.frozen?]; done))
    have q01w1 : w1.cell? ⟨w.heap.size, 1, none⟩ = some (.int .i64 ad) := (by rw [(bcell hb1).1 _ _ (by first | omega | (simp; done) | (simp; omega))]; first | assumption | (go_simp; done) | (simp [World.cell?]; done))
    have q11w1 : w1.cell? ⟨w.heap.size + 1, 1, none⟩ = some (.int .i64 bd) := (by rw [(bcell hb1).1 _ _ (by first | omega | (simp; done) | (simp; omega))]; first | assumption | (go_simp; done) | (simp [World.cell?]; done))
    have q21w1 : w1.cell? ⟨w.heap.size + 1 + 1, 1, none⟩ = some (.int .i64 0) := (by rw [(bcell hb1).1 _ _ (by first | omega | (simp; done) | (simp; omega))]; first | assumption | (go_simp; done) | (simp [World.cell?]; done))
    have f21w1 : w1.frozen? ⟨w.heap.size + 1 + 1, 1, none⟩ = false := (by rw [(bcell hb1).2 _ _ (by first | omega | (simp; done) | (simp; omega))]; first | assumption | (go_simp; done) | (simp [World.frozen?]; done))
    have hBw1 : Below w.heap.size w w1 := Below.trans (by repeat (first | assumption | exact Below.refl _ _ | refine below_drewN ?_ _ | refine below_drew1 ?_ | refine Below.al ?_ (by first | exact Nat.le_refl _ | omega | (simp; done) | (simp; omega)) _ | refine Below.setCell ?_ (by first | exact Nat.le_refl _ | omega | (simp; done) | (simp; omega)) _)) (hb1.mono (by first | exact Nat.le_refl _ | omega | (simp; done) | (simp; omega)))
    have Hw1 := hid hBw1; clear hb1 hBw1
    go_wp2_with fail
    refine (implNewRat (an * bd + bn * ad) (ad * bd) _ HJ.out.1 HJ.out.2).mono ?_
    rintro e w3 ⟨rfl, hb3⟩
    rw [HR.out]
    have hzw3 := hb3.size
    try simp at hzw3
    have q00w3 : w3.cell? ⟨w.heap.size, 0, none⟩ = some (.int .i64 an) := (by rw [(bcell hb3).1 _ _ (by first | omega | (simp; done) | (simp; omega))]; first | assumption | (go_simp; done) | (simp [World.cell?]; done))
    have q10w3 : w3.cell? ⟨w.heap.size + 1, 0, none⟩ = some (.int .i64 bn) := (by rw [(bcell hb3).1 _ _ (by first | omega | (simp; done) | (simp; omega))]; first | assumption | (go_simp; done) | (simp [World.cell?]; done))
    have q20w3 : w3.cell? ⟨w.heap.size + 1 + 1, 0, none⟩ = some (.int .i64 0) := (by rw [(bcell hb3).1 _ _ (by first | omega | (simp; done) | (simp; omega))]; first | assumption | (go_simp; done) | (simp [World.cell?]; done))
    have f20w3 : w3.frozen? ⟨w.heap.size + 1 + 1, 0, none⟩ = false := (by rw [(bcell hb3).2 _ _ (by first | omega | (simp; done) | (simp; omega))]; first | assumption | (go_simp; done) | (simp [World.frozen?]; done))
    have q01w3 : w3.cell? ⟨w.heap.size, 1, none⟩ = some (.int .i64 ad) := (by rw [(bcell hb3).1 _ _ (by first | omega | (simp; done) | (simp; omega))]; first | assumption | (go_simp; done) | (simp [World.cell?]; done))
    have q11w3 : w3.cell? ⟨w.heap.size + 1, 1, none⟩ = some (.int .i64 bd) := (by rw [(bcell hb3).1 _ _ (by first | omega | (simp; done) | (simp; omega))]; first | assumption | (go_simp; done) | (simp [World.cell?]; done))
    have q21w3 : w3.cell? ⟨w.heap.size + 1 + 1, 1, none⟩ = some (.int .i64 0) := (by rw [(bcell hb3).1 _ _ (by first | omega | (simp; done) | (simp; omega))]; first | assumption | (go_simp; done) | (simp [World.cell?]; done))
    have f21w3 : w3.frozen? ⟨w.heap.size + 1 + 1, 1, none⟩ = false := (by rw [(bcell hb3).2 _ _ (by first | omega | (simp; done) | (simp; omega))]; first | assumption | (go_simp; done) | (simp [World.frozen?]; done))
    have hBw3 : Below w.heap.size w w3 := Hw1.out.trans (hb3.mono (by omega))
    clear q00w1 q01w1 q10w1 q11w1 q20w1 q21w1 f20w1 f21w1
    have Hw3 := hid hBw3; clear hb3 hBw3
    go_wp2_with fail
    refine bodyPost_ret (v := ratB (r1, r2, r3)) ?_ rfl ⟨by rw [HF.out], ?_⟩
    · simp [results, Try.results56, go_sem, q20w3, q21w3]
    · have hq := Hw3.out
      exact (by repeat (first | assumption | exact Below.refl _ _ | refine below_drewN ?_ _ | refine below_drew1 ?_ | refine Below.al ?_ (by first | exact Nat.le_refl _ | omega | (simp; done) | (simp; omega)) _ | refine Below.setCell ?_ (by first | exact Nat.le_refl _ | omega | (simp; done) | (simp; omega)) _))
set_option maxHeartbeats 3200000 in
theorem specAddRational (an ad bn bd : Int) (w : World) (h1 : I64 an) (h2 : I64 ad) (h3 : I64 bn) (h4 : I64 bd) :
    Calls Try.prog 54 #[ratV an ad, ratV bn bd] w (Leaves w (ratB (addR an ad bn bd))) := by
  have HI := hid (And.intro h1 (And.intro h2 (And.intro h3 h4))); clear h1 h2 h3 h4
  obtain ⟨k, hk⟩ : ∃ k, bothOK an ad bn bd = k := ⟨_, rfl⟩
  obtain ⟨ka, hka⟩ : ∃ k, ratOK an ad = k := ⟨_, rfl⟩
  obtain ⟨kb, hkb⟩ : ∃ k, ratOK bn bd = k := ⟨_, rfl⟩
  have HA := hid hka; have HB := hid hkb
  have hkk : k = (ka && kb) := by rw [← hk]; unfold bothOK; rw [hka, hkb]
  clear hka hkb
  cases ka with
  | false =>
    have hf : addR an ad bn bd = (0, 0, false) := by unfold addR; rw [if_neg (by rw [hk, hkk]; simp)]
    have HF := hid hf; clear hf hk hkk
    go_enter Try.func54, Try.ntmps54
    go_wp2_with fail
    refine (specValidRat an ad _ HI.out.1 HI.out.2.1).mono ?_
    rintro e w1 ⟨rfl, hb1⟩
    rw [HA.out]
    have hzw1 := hb1.size
    try simp at hzw1
    have q00w1 : w1.cell? ⟨w.heap.size, 0, none⟩ = some (.int .i64 an) := (by rw [(bcell hb1).1 _ _ (by first | omega | (simp; done) | (simp; omega))]; first | assumption | (go_simp; done) | (simp [World.cell?]; done))
    have q10w1 : w1.cell? ⟨w.heap.size + 1, 0, none⟩ = some (.int .i64 bn) := (by rw [(bcell hb1).1 _ _ (by first | omega | (simp; done) | (simp; omega))]; first | assumption | (go_simp; done) | (simp [World.cell?]; done))
    have q20w1 : w1.cell? ⟨w.heap.size + 1 + 1, 0, none⟩ = some (.int .i64 0) := (by rw [(bcell hb1).1 _ _ (by first | omega | (simp; done) | (simp; omega))]; first | assumption | (go_simp; done) | (simp [World.cell?]; done))
    have f20w1 : w1.frozen? ⟨w.heap.size + 1 + 1, 0, none⟩ = false := (by rw [(bcell hb1).2 _ _ (by first | omega | (simp; done) | (simp; omega))]; first | assumption | (go_simp; done) | (simp [World.frozen?]; done))
    have q01w1 : w1.cell? ⟨w.heap.size, 1, none⟩ = some (.int .i64 ad) := (by rw [(bcell hb1).1 _ _ (by first | omega | (simp; done) | (simp; omega))]; first | assumption | (go_simp; done) | (simp [World.cell?]; done))
    have q11w1 : w1.cell? ⟨w.heap.size + 1, 1, none⟩ = some (.int .i64 bd) := (by rw [(bcell hb1).1 _ _ (by first | omega | (simp; done) | (simp; omega))]; first | assumption | (go_simp; done) | (simp [World.cell?]; done))
    have q21w1 : w1.cell? ⟨w.heap.size + 1 + 1, 1, none⟩ = some (.int .i64 0) := (by rw [(bcell hb1).1 _ _ (by first | omega | (simp; done) | (simp; omega))]; first | assumption | (go_simp; done) | (simp [World.cell?]; done))
    have f21w1 : w1.frozen? ⟨w.heap.size + 1 + 1, 1, none⟩ = false := (by rw [(bcell hb1).2 _ _ (by first | omega | (simp; done) | (simp; omega))]; first | assumption | (go_simp; done) | (simp [World.frozen?]; done))
    have hBw1 : Below w.heap.size w w1 := Below.trans (by repeat (first | assumption | exact Below.refl _ _ | refine below_drewN ?_ _ | refine below_drew1 ?_ | refine Below.al ?_ (by first | exact Nat.le_refl _ | omega | (simp; done) | (simp; omega)) _ | refine Below.setCell ?_ (by first | exact Nat.le_refl _ | omega | (simp; done) | (simp; omega)) _)) (hb1.mono (by first | exact Nat.le_refl _ | omega | (simp; done) | (simp; omega)))
    have Hw1 := hid hBw1; clear hb1 hBw1
    go_wp2_with fail
    refine bodyPost_ret (v := ratB (0, 0, false)) (by simp [results, Try.results54, go_sem, q20w1, q21w1]) rfl ⟨by rw [HF.out], ?_⟩
    have hq := Hw1.out
    exact (by repeat (first | assumption | exact Below.refl _ _ | refine below_drewN ?_ _ | refine below_drew1 ?_ | refine Below.al ?_ (by first | exact Nat.le_refl _ | omega | (simp; done) | (simp; omega)) _ | refine Below.setCell ?_ (by first | exact Nat.le_refl _ | omega | (simp; done) | (simp; omega)) _))
  | true =>
    cases kb with
    | false =>
      have hf : addR an ad bn bd = (0, 0, false) := by unfold addR; rw [if_neg (by rw [hk, hkk]; simp)]
      have HF := hid hf; clear hf hk hkk
      go_enter Try.func54, Try.ntmps54
      go_wp2_with fail
      refine (specValidRat an ad _ HI.out.1 HI.out.2.1).mono ?_
      rintro e w1 ⟨rfl, hb1⟩
      rw [HA.out]
      have hzw1 := hb1.size
      try simp at hzw1
      have q00w1 : w1.cell? ⟨w.heap.size, 0, none⟩ = some (.int .i64 an) := (by rw [(bcell hb1).1 _ _ (by first | omega | (simp; done) | (simp; omega))]; first | assumption | (go_simp; done) | (simp [World.cell?]; done))
      have q10w1 : w1.cell? ⟨w.heap.size + 1, 0, none⟩ = some (.int .i64 bn) := (by rw [(bcell hb1).1 _ _ (by first | omega | (simp; done) | (simp; omega))]; first | assumption | (go_simp; done) | (simp [World.cell?]; done))
      have q20w1 : w1.cell? ⟨w.heap.size + 1 + 1, 0, none⟩ = some (.int .i64 0) := (by rw [(bcell hb1).1 _ _ (by first | omega | (simp; done) | (simp; omega))]; first | assumption | (go_simp; done) | (simp [World.cell?]; done))
      have f20w1 : w1.frozen? ⟨w.heap.size + 1 + 1, 0, none⟩ = false := (by rw [(bcell hb1).2 _ _ (by first | omega | (simp; done) | (simp; omega))]; first | assumption | (go_simp; done) | (simp [World.frozen?]; done))
      have q01w1 : w1.cell? ⟨w.heap.size, 1, none⟩ = some (.int .i64 ad) := (by rw [(bcell hb1).1 _ _ (by first | omega | (simp; done) | (simp; omega))]; first | assumption | (go_simp; done) | (simp [World.cell?]; done))
      have q11w1 : w1.cell? ⟨w.heap.size + 1, 1, none⟩ = some (.int .i64 bd) := (by rw [(bcell hb1).1 _ _ (by first | omega | (simp; done) | (simp; omega))]; first | assumption | (go_simp; done) | (simp [World.cell?]; done))
      have q21w1 : w1.cell? ⟨w.heap.size + 1 + 1, 1, none⟩ = some (.int .i64 0) := (by rw [(bcell hb1).1 _ _ (by first | omega | (simp; done) | (simp; omega))]; first | assumption | (go_simp; done) | (simp [World.cell?]; done))
      have f21w1 : w1.frozen? ⟨w.heap.size + 1 + 1, 1, none⟩ = false := (by rw [(bcell hb1).2 _ _ (by first | omega | (simp; done) | (simp; omega))]; first | assumption | (go_simp; done) | (simp [World.frozen?]; done))
      have hBw1 : Below w.heap.size w w1 := Below.trans (by repeat (first | assumption | exact Below.refl _ _ | refine below_drewN ?_ _ | refine below_drew1 ?_ | refine Below.al ?_ (by first | exact Nat.le_refl _ | omega | (simp; done) | (simp; omega)) _ | refine Below.setCell ?_ (by first | exact Nat.le_refl _ | omega | (simp; done) | (simp; omega)) _)) (hb1.mono (by first | exact Nat.le_refl _ | omega | (simp; done) | (simp; omega)))
      have Hw1 := hid hBw1; clear hb1 hBw1
      go_wp2_with fail
      refine (specValidRat bn bd _ HI.out.2.2.1 HI.out.2.2.2).mono ?_
      rintro e w2 ⟨rfl, hb2⟩
      rw [HB.out]
      have hzw2 := hb2.size
      try simp at hzw2
      have q00w2 : w2.cell? ⟨w.heap.size, 0, none⟩ = some (.int .i64 an) := (by rw [(bcell hb2).1 _ _ (by first | omega | (simp; done) | (simp; omega))]; first | assumption | (go_simp; done) | (simp [World.cell?]; done))
      have q10w2 : w2.cell? ⟨w.heap.size + 1, 0, none⟩ = some (.int .i64 bn) := (by rw [(bcell hb2).1 _ _ (by first | omega | (simp; done) | (simp; omega))]; first | assumption | (go_simp; done) | (simp [World.cell?]; done))
      have q20w2 : w2.cell? ⟨w.heap.size + 1 + 1, 0, none⟩ = some (.int .i64 0) := (by rw [(bcell hb2).1 _ _ (by first | omega | (simp; done) | (simp; omega))]; first | assumption | (go_simp; done) | (simp [World.cell?]; done))
      have f20w2 : w2.frozen? ⟨w.heap.size + 1 + 1, 0, none⟩ = false := (by rw [(bcell hb2).2 _ _ (by first | omega | (simp; done) | (simp; omega))]; first | assumption | (go_simp; done) | (simp [World.frozen?]; done))
      have q01w2 : w2.cell? ⟨w.heap.size, 1, none⟩ = some (.int .i64 ad) := (by rw [(bcell hb2).1 _ _ (by first | omega | (simp; done) | (simp; omega))]; first | assumption | (go_simp; done) | (simp [World.cell?]; done))
      have q11w2 : w2.cell? ⟨w.heap.size + 1, 1, none⟩ = some (.int .i64 bd) := (by rw [(bcell hb2).1 _ _ (by first | omega | (simp; done) | (simp; omega))]; first | assumption | (go_simp; done) | (simp [World.cell?]; done))
      have q21w2 : w2.cell? ⟨w.heap.size + 1 + 1, 1, none⟩ = some (.int .i64 0) := (by rw [(bcell hb2).1 _ _ (by first | omega | (simp; done) | (simp; omega))]; first | assumption | (go_simp; done) | (simp [World.cell?]; done))
      have f21w2 : w2.frozen? ⟨w.heap.size + 1 + 1, 1, none⟩ = false := (by rw [(bcell hb2).2 _ _ (by first | omega | (simp; done) | (simp; omega))]; first | assumption | (go_simp; done) | (simp [World.frozen?]; done))
      have hBw2 : Below w.heap.size w w2 := Hw1.out.trans (hb2.mono (by omega))
      clear q00w1 q01w1 q10w1 q11w1 q20w1 q21w1 f20w1 f21w1
      have Hw2 := hid hBw2; clear hb2 hBw2
      go_wp2_with fail
      refine bodyPost_ret (v := ratB (0, 0, false)) (by simp [results, Try.results54, go_sem, q20w2, q21w2]) rfl ⟨by rw [HF.out], ?_⟩
      have hq := Hw2.out
      exact (by repeat (first | assumption | exact Below.refl _ _ | refine below_drewN ?_ _ | refine below_drew1 ?_ | refine Below.al ?_ (by first | exact Nat.le_refl _ | omega | (simp; done) | (simp; omega)) _ | refine Below.setCell ?_ (by first | exact Nat.le_refl _ | omega | (simp; done) | (simp; omega)) _))
    | true =>
      obtain rfl : k = true := by simpa using hkk
      clear hkk
      have hO := ops_bd hk
      have wr0 : IntKind.i64.wrap (an * bd) = an * bd := IntWalk.i64_in _ (by omega)
      have wr1 : IntKind.i64.wrap (bn * ad) = bn * ad := IntWalk.i64_in _ (by omega)
      have wr2 : IntKind.i64.wrap (ad * bd) = ad * bd := IntWalk.i64_in _ (by omega)
      have wr3 : IntKind.i64.wrap (an * bd + bn * ad) = an * bd + bn * ad := IntWalk.i64_in _ (by omega)
      have HJ : Hid (I64 (an * bd + bn * ad) ∧ I64 (ad * bd)) := hid ⟨by unfold I64; omega, by unfold I64; omega⟩
      obtain ⟨⟨r1, r2, r3⟩, hr⟩ : ∃ r, newRat (an * bd + bn * ad) (ad * bd) = r := ⟨_, rfl⟩
      have hf : addR an ad bn bd = (r1, r2, r3) := by unfold addR; rw [if_pos hk]; exact hr
      have HF := hid hf; have HR := hid hr; have HK := hid hk; clear hf hr hk hO
      go_enter Try.func54, Try.ntmps54
      go_wp2_with fail
      refine (specValidRat an ad _ HI.out.1 HI.out.2.1).mono ?_
      rintro e w1 ⟨rfl, hb1⟩
      rw [HA.out]
      have hzw1 := hb1.size
      try simp at hzw1
      have q00w1 : w1.cell? ⟨w.heap.size, 0, none⟩ = some (.int .i64 an) := (by rw [(bcell hb1).1 _ _ (by first | omega | (simp; done) | (simp; omega))]; first | assumption | (go_simp; done) | (simp [World.cell?]; done))
      have q10w1 : w1.cell? ⟨w.heap.size + 1, 0, none⟩ = some (.int .i64 bn) := (by rw [(bcell hb1).1 _ _ (by first | omega | (simp; done) | (simp; omega))]; first | assumption | (go_simp; done) | (simp [World.cell?]; done))
      have q20w1 : w1.cell? ⟨w.heap.size + 1 + 1, 0, none⟩ = some (.int .i64 0) := (by rw [(bcell hb1).1 _ _ (by first | omega | (simp; done) | (simp; omega))]; first | assumption | (go_simp; done) | (simp [World.cell?]; done))
      have f20w1 : w1.frozen? ⟨w.heap.size + 1 + 1, 0, none⟩ = false := (by rw [(bcell hb1).2 _ _ (by first | omega | (simp; done) | (simp; omega))]; first | assumption | (go_simp; done) | (simp [World.frozen?]; done))
      have q01w1 : w1.cell? ⟨w.heap.size, 1, none⟩ = some (.int .i64 ad) := (by rw [(bcell hb1).1 _ _ (by first | omega | (simp; done) | (simp; omega))]; first | assumption | (go_simp; done) | (simp [World.cell?]; done))
      have q11w1 : w1.cell? ⟨w.heap.size + 1, 1, none⟩ = some (.int .i64 bd) := (by rw [(bcell hb1).1 _ _ (by first | omega | (simp; done) | (simp; omega))]; first | assumption | (go_simp; done) | (simp [World.cell?]; done))
      have q21w1 : w1.cell? ⟨w.heap.size + 1 + 1, 1, none⟩ = some (.int .i64 0) := (by rw [(bcell hb1).1 _ _ (by first | omega | (simp; done) | (simp; omega))]; first | assumption | (go_simp; done) | (simp [World.cell?]; done))
      have f21w1 : w1.frozen? ⟨w.heap.size + 1 + 1, 1, none⟩ = false := (by rw [(bcell hb1).2 _ _ (by first | omega | (simp; done) | (simp; omega))]; first | assumption | (go_simp; done) | (simp [World.frozen?]; done))
      have hBw1 : Below w.heap.size w w1 := Below.trans (by repeat (first | assumption | exact Below.refl _ _ | refine below_drewN ?_ _ | refine below_drew1 ?_ | refine Below.al ?_ (by first | exact Nat.le_refl _ | omega | (simp; done) | (simp; omega)) _ | refine Below.setCell ?_ (by first | exact Nat.le_refl _ | omega | (simp; done) | (simp; omega)) _)) (hb1.mono (by first | exact Nat.le_refl _ | omega | (simp; done) | (simp; omega)))
      have Hw1 := hid hBw1; clear hb1 hBw1
      go_wp2_with fail
      refine (specValidRat bn bd _ HI.out.2.2.1 HI.out.2.2.2).mono ?_
      rintro e w2 ⟨rfl, hb2⟩
      rw [HB.out]
      have hzw2 := hb2.size
      try simp at hzw2
      have q00w2 : w2.cell? ⟨w.heap.size, 0, none⟩ = some (.int .i64 an) := (by rw [(bcell hb2).1 _ _ (by first | omega | (simp; done) | (simp; omega))]; first | assumption | (go_simp; done) | (simp [World.cell?]; done))
      have q10w2 : w2.cell? ⟨w.heap.size + 1, 0, none⟩ = some (.int .i64 bn) := (by rw [(bcell hb2).1 _ _ (by first | omega | (simp; done) | (simp; omega))]; first | assumption | (go_simp; done) | (simp [World.cell?]; done))
      have q20w2 : w2.cell? ⟨w.heap.size + 1 + 1, 0, none⟩ = some (.int .i64 0) := (by rw [(bcell hb2).1 _ _ (by first | omega | (simp; done) | (simp; omega))]; first | assumption | (go_simp; done) | (simp [World.cell?]; done))
      have f20w2 : w2.frozen? ⟨w.heap.size + 1 + 1, 0, none⟩ = false := (by rw [(bcell hb2).2 _ _ (by first | omega | (simp; done) | (simp; omega))]; first | assumption | (go_simp; done) | (simp [World.frozen?]; done))
      have q01w2 : w2.cell? ⟨w.heap.size, 1, none⟩ = some (.int .i64 ad) := (by rw [(bcell hb2).1 _ _ (by first | omega | (simp; done) | (simp; omega))]; first | assumption | (go_simp; done) | (simp [World.cell?]; done))
      have q11w2 : w2.cell? ⟨w.heap.size + 1, 1, none⟩ = some (.int .i64 bd) := (by rw [(bcell hb2).1 _ _ (by first | omega | (simp; done) | (simp; omega))]; first | assumption | (go_simp; done) | (simp [World.cell?]; done))
      have q21w2 : w2.cell? ⟨w.heap.size + 1 + 1, 1, none⟩ = some (.int .i64 0) := (by rw [(bcell hb2).1 _ _ (by first | omega | (simp; done) | (simp; omega))]; first | assumption | (go_simp; done) | (simp [World.cell?]; done))
      have f21w2 : w2.frozen? ⟨w.heap.size + 1 + 1, 1, none⟩ = false := (by rw [(bcell hb2).2 _ _ (by first | omega | (simp; done) | (simp; omega))]; first | assumption | (go_simp; done) | (simp [World.frozen?]; done))
      have hBw2 : Below w.heap.size w w2 := Hw1.out.trans (hb2.mono (by omega))
      clear q00w1 q01w1 q10w1 q11w1 q20w1 q21w1 f20w1 f21w1
      have Hw2 := hid hBw2; clear hb2 hBw2
      go_wp2_with fail
      refine (specNewRat (an * bd + bn * ad) (ad * bd) _ HJ.out.1 HJ.out.2).mono ?_
      rintro e w3 ⟨rfl, hb3⟩
      rw [HR.out]
      have hzw3 := hb3.size
      try simp at hzw3
      have q00w3 : w3.cell? ⟨w.heap.size, 0, none⟩ = some (.int .i64 an) := (by rw [(bcell hb3).1 _ _ (by first | omega | (simp; done) | (simp; omega))]; first | assumption | (go_simp; done) | (simp [World.cell?]; done))
      have q10w3 : w3.cell? ⟨w.heap.size + 1, 0, none⟩ = some (.int .i64 bn) := (by rw [(bcell hb3).1 _ _ (by first | omega | (simp; done) | (simp; omega))]; first | assumption | (go_simp; done) | (simp [World.cell?]; done))
      have q20w3 : w3.cell? ⟨w.heap.size + 1 + 1, 0, none⟩ = some (.int .i64 0) := (by rw [(bcell hb3).1 _ _ (by first | omega | (simp; done) | (simp; omega))]; first | assumption | (go_simp; done) | (simp [World.cell?]; done))
      have f20w3 : w3.frozen? ⟨w.heap.size + 1 + 1, 0, none⟩ = false := (by rw [(bcell hb3).2 _ _ (by first | omega | (simp; done) | (simp; omega))]; first | assumption | (go_simp; done) | (simp [World.frozen?]; done))
      have q01w3 : w3.cell? ⟨w.heap.size, 1, none⟩ = some (.int .i64 ad) := (by rw [(bcell hb3).1 _ _ (by first | omega | (simp; done) | (simp; omega))]; first | assumption | (go_simp; done) | (simp [World.cell?]; done))
      have q11w3 : w3.cell? ⟨w.heap.size + 1, 1, none⟩ = some (.int .i64 bd) := (by rw [(bcell hb3).1 _ _ (by first | omega | (simp; done) | (simp; omega))]; first | assumption | (go_simp; done) | (simp [World.cell?]; done))
      have q21w3 : w3.cell? ⟨w.heap.size + 1 + 1, 1, none⟩ = some (.int .i64 0) := (by rw [(bcell hb3).1 _ _ (by first | omega | (simp; done) | (simp; omega))]; first | assumption | (go_simp; done) | (simp [World.cell?]; done))
      have f21w3 : w3.frozen? ⟨w.heap.size + 1 + 1, 1, none⟩ = false := (by rw [(bcell hb3).2 _ _ (by first | omega | (simp; done) | (simp; omega))]; first | assumption | (go_simp; done) | (simp [World.frozen?]; done))
      have hlt3 : w.heap.size + 1 + 1 < w3.heap.size := by omega
      have hBw3 : Below w.heap.size w w3 := Hw2.out.trans (hb3.mono (by omega))
      clear q00w2 q01w2 q10w2 q11w2 q20w2 q21w2 f20w2 f21w2
      have Hw3 := hid hBw3; clear hb3 hBw3
      go_wp2_with fail
      refine bodyPost_ret (v := ratB (r1, r2, r3)) ?_ rfl ⟨by rw [HF.out], ?_⟩
      · simp [results, Try.results54, go_sem, q20w3, q21w3, hlt3]
      · have hq := Hw3.out
        exact (by repeat (first | assumption | exact Below.refl _ _ | refine below_drewN ?_ _ | refine below_drew1 ?_ | refine Below.al ?_ (by first | exact Nat.le_refl _ | omega | (simp; done) | (simp; omega)) _ | refine Below.setCell ?_ (by first | exact Nat.le_refl _ | omega | (simp; done) | (simp; omega)) _))
set_option maxHeartbeats 3200000 in
theorem implMulRational (an ad bn bd : Int) (w : World) (h1 : I64 an) (h2 : I64 ad) (h3 : I64 bn) (h4 : I64 bd) :
    Calls Try.prog 55 #[ratV an ad, ratV bn bd] w (Leaves w (ratB (mulR an ad bn bd))) := by
  have HI := hid (And.intro h1 (And.intro h2 (And.intro h3 h4))); clear h1 h2 h3 h4
  obtain ⟨k, hk⟩ : ∃ k, bothOK an ad bn bd = k := ⟨_, rfl⟩
  cases k with
  | false =>
    have hf : mulR an ad bn bd = (0, 0, false) := by unfold mulR; rw [if_neg (by rw [hk]; decide)]
    have HF := hid hf; have HK := hid hk; clear hf hk
    go_enter Try.func55, Try.ntmps55
    go_wp2_with fail
    refine (implBothValid an ad bn bd _ HI.out.1 HI.out.2.1 HI.out.2.2.1 HI.out.2.2.2).mono ?_
    rintro e w1 ⟨rfl, hb1⟩
    rw [HK.out]
    have hzw1 := hb1.size
    try simp at hzw1
    have q00w1 : w1.cell? ⟨w.heap.size, 0, none⟩ = some (.int .i64 an) := (by rw [(bcell hb1).1 _ _ (by first | omega | (simp; done) | (simp; omega))]; first | assumption | (go_simp; done) | (simp [World.cell?]; done))
    have q10w1 : w1.cell? ⟨w.heap.size + 1, 0, none⟩ = some (.int .i64 bn) := (by rw [(bcell hb1).1 _ _ (by first | omega | (simp; done) | (simp; omega))]; first | assumption | (go_simp; done) | (simp [World.cell?]; done))
    have q20w1 : w1.cell? ⟨w.heap.size + 1 + 1, 0, none⟩ = some (.int .i64 0) := (by rw [(bcell hb1).1 _ _ (by first | omega | (simp; done) | (simp; omega))]; first | assumption | (go_simp; done) | (simp [World.cell?]; done))
    have f20w1 : w1.frozen? ⟨w.heap.size + 1 + 1, 0, none⟩ = false := (by rw [(bcell hb1).2 _ _ (by first | omega | (simp; done) | (simp; omega))]; first | assumption | (go_simp; done) | (simp [World.frozen?]; done))
    have q01w1 : w1.cell? ⟨w.heap.size, 1, none⟩ = some (.int .i64 ad) := (by rw [(bcell hb1).1 _ _ (by first | omega | (simp; done) | (simp; omega))]; first | assumption | (go_simp; done) | (simp [World.cell?]; done))
    have q11w1 : w1.cell? ⟨w.heap.size + 1, 1, none⟩ = some (.int .i64 bd) := (by rw [(bcell hb1).1 _ _ (by first | omega | (simp; done) | (simp; omega))]; first | assumption | (go_simp; done) | (simp [World.cell?]; done))
    have q21w1 : w1.cell? ⟨w.heap.size + 1 + 1, 1, none⟩ = some (.int .i64 0) := (by rw [(bcell hb1).1 _ _ (by first | omega | (simp; done) | (simp; omega))]; first | assumption | (go_simp; done) | (simp [World.cell?]; done))
    have f21w1 : w1.frozen? ⟨w.heap.size + 1 + 1, 1, none⟩ = false := (by rw [(bcell hb1).2 _ _ (by first | omega | (simp; done) | (simp; omega))]; first | assumption | (go_simp; done) | (simp [World.frozen?]; done))
    have hBw1 : Below w.heap.size w w1 := Below.trans (by repeat (first | assumption | exact Below.refl _ _ | refine below_drewN ?_ _ | refine below_drew1 ?_ | refine Below.al ?_ (by first | exact Nat.le_refl _ | omega | (simp; done) | (simp; omega)) _ | refine Below.setCell ?_ (by first | exact Nat.le_refl _ | omega | (simp; done) | (simp; omega)) _)) (hb1.mono (by first | exact Nat.le_refl _ | omega | (simp; done) | (simp; omega)))
    have Hw1 := hid hBw1; clear hb1 hBw1
    go_wp2_with fail
    refine bodyPost_ret (v := ratB (0, 0, false)) (by simp [results, Try.results55, go_sem, q20w1, q21w1]) rfl ⟨by rw [HF.out], ?_⟩
    have hq := Hw1.out
    exact (by repeat (first | assumption | exact Below.refl _ _ | refine below_drewN ?_ _ | refine below_drew1 ?_ | refine Below.al ?_ (by first | exact Nat.le_refl _ | omega | (simp; done) | (simp; omega)) _ | refine Below.setCell ?_ (by first | exact Nat.le_refl _ | omega | (simp; done) | (simp; omega)) _))
  | true =>
    have hO := ops_bd hk
    have wr0 : IntKind.i64.wrap (an * bn) = an * bn := IntWalk.i64_in _ (by omega)
    have wr1 : IntKind.i64.wrap (ad * bd) = ad * bd := IntWalk.i64_in _ (by omega)
    have HJ : Hid (I64 (an * bn) ∧ I64 (ad * bd)) := hid ⟨by unfold I64; omega, by unfold I64; omega⟩
    obtain ⟨⟨r1, r2, r3⟩, hr⟩ : ∃ r, newRat (an * bn) (ad * bd) = r := ⟨_, rfl⟩
    have hf : mulR an ad bn bd = (r1, r2, r3) := by unfold mulR; rw [if_pos hk]; exact hr
    have HF := hid hf; have HR := hid hr; have HK := hid hk; clear hf hr hk hO
    go_enter Try.func55, Try.ntmps55
    go_wp2_with fail
    refine (implBothValid an ad bn bd _ HI.out.1 HI.out.2.1 HI.out.2.2.1 HI.out.2.2.2).mono ?_
    rintro e w1 ⟨rfl, hb1⟩
    rw [HK.out]
    have hzw1 := hb1.size
    try simp at hzw1
    have q00w1 : w1.cell? ⟨w.heap.size, 0, none⟩ = some (.int .i64 an) := (by rw [(bcell hb1).1 _ _ (by first | omega | (simp; done) | (simp; omega))]; first | assumption | (go_simp; done) | (simp [World.cell?]; done))
    have q10w1 : w1.cell? ⟨w.heap.size + 1, 0, none⟩ = some (.int .i64 bn) := (by rw [(bcell hb1).1 _ _ (by first | omega | (simp; done) | (simp; omega))]; first | assumption | (go_simp; done) | (simp [World.cell?]; done))
    have q20w1 : w1.cell? ⟨w.heap.size + 1 + 1, 0, none⟩ = some (.int .i64 0) := (by rw [(bcell hb1).1 _ _ (by first | omega | (simp; done) | (simp; omega))]; first | assumption | (go_simp; done) | (simp [World.cell?]; done))
    have f20w1 : w1.frozen? ⟨w.heap.size + 1 + 1, 0, none⟩ = false := (by rw [(bcell hb1).2 _ _ (by first | omega | (simp; done) | (simp; omega))]; first | assumption | (go_simp; done) | (simp [World.frozen?]; done))
    have q01w1 : w1.cell? ⟨w.heap.size, 1, none⟩ = some (.int .i64 ad) := (by rw [(bcell hb1).1 _ _ (by first | omega | (simp; done) | (simp; omega))]; first | assumption | (go_simp; done) | (simp [World.cell?]; done))
    have q11w1 : w1.cell? ⟨w.heap.size + 1, 1, none⟩ = some (.int .i64 bd) := (by rw [(bcell hb1).1 _ _ (by first | omega | (simp; done) | (simp; omega))]; first | assumption | (go_simp; done) | (simp [World.cell?]; done))
    have q21w1 : w1.cell? ⟨w.heap.size + 1 + 1, 1, none⟩ = some (.int .i64 0) := (by rw [(bcell hb1).1 _ _ (by first | omega | (simp; done) | (simp; omega))]; first | assumption | (go_simp; done) | (simp [World.cell?]; done))
    have f21w1 : w1.frozen? ⟨w.heap.size + 1 + 1, 1, none⟩ = false := (by rw [(bcell hb1).2 _ _ (by first | omega | (simp; done) | (simp; omega))]; first | assumption | (go_simp; done) | (simp [World.frozen?]; done))
    have hBw1 : Below w.heap.size w w1 := Below.trans (by repeat (first | assumption | exact Below.refl _ _ | refine below_drewN ?_ _ | refine below_drew1 ?_ | refine Below.al ?_ (by first | exact Nat.le_refl _ | omega | (simp; done) | (simp; omega)) _ | refine Below.setCell ?_ (by first | exact Nat.le_refl _ | omega | (simp; done) | (simp; omega)) _)) (hb1.mono (by first | exact Nat.le_refl _ | omega | (simp; done) | (simp; omega)))
    have Hw1 := hid hBw1; clear hb1 hBw1
    go_wp2_with fail
    refine (implNewRat (an * bn) (ad * bd) _ HJ.out.1 HJ.out.2).mono ?_
    rintro e w3 ⟨rfl, hb3⟩
    rw [HR.out]
    have hzw3 := hb3.size
    try simp at hzw3
    have q00w3 : w3.cell? ⟨w.heap.size, 0, none⟩ = some (.int .i64 an) := (by rw [(bcell hb3).1 _ _ (by first | omega | (simp; done) | (simp; omega))]; first | assumption | (go_simp; done) | (simp [World.cell?]; done))
    have q10w3 : w3.cell? ⟨w.heap.size + 1, 0, none⟩ = some (.int .i64 bn) := (by rw [(bcell hb3).1 _ _ (by first | omega | (simp; done) | (simp; omega))]; first | assumption | (go_simp; done) | (simp [World.cell?]; done))
    have q20w3 : w3.cell? ⟨w.heap.size + 1 + 1, 0, none⟩ = some (.int .i64 0) := (by rw [(bcell hb3).1 _ _ (by first | omega | (simp; done) | (simp; omega))]; first | assumption | (go_simp; done) | (simp [World.cell?]; done))
    have f20w3 : w3.frozen? ⟨w.heap.size + 1 + 1, 0, none⟩ = false := (by rw [(bcell hb3).2 _ _ (by first | omega | (simp; done) | (simp; omega))]; first | assumption | (go_simp; done) | (simp [World.frozen?]; done))
    have q01w3 : w3.cell? ⟨w.heap.size, 1, none⟩ = some (.int .i64 ad) := (by rw [(bcell hb3).1 _ _ (by first | omega | (simp; done) | (simp; omega))]; first | assumption | (go_simp; done) | (simp [World.cell?]; done))
    have q11w3 : w3.cell? ⟨w.heap.size + 1, 1, none⟩ = some (.int .i64 bd) := (by rw [(bcell hb3).1 _ _ (by first | omega | (simp; done) | (simp; omega))]; first | assumption | (go_simp; done) | (simp [World.cell?]; done))
    have q21w3 : w3.cell? ⟨w.heap.size + 1 + 1, 1, none⟩ = some (.int .i64 0) := (by rw [(bcell hb3).1 _ _ (by first | omega | (simp; done) | (simp; omega))]; first | assumption | (go_simp; done) | (simp [World.cell?]; done))
    have f21w3 : w3.frozen? ⟨w.heap.size + 1 + 1, 1, none⟩ = false := (by rw [(bcell hb3).2 _ _ (by first | omega | (simp; done) | (simp; omega))]; first | assumption | (go_simp; done) | (simp [World.frozen?]; done))
    have hBw3 : Below w.heap.size w w3 := Hw1.out.trans (hb3.mono (by omega))
    clear q00w1 q01w1 q10w1 q11w1 q20w1 q21w1 f20w1 f21w1
    have Hw3 := hid hBw3; clear hb3 hBw3
    go_wp2_with fail
    refine bodyPost_ret (v := ratB (r1, r2, r3)) ?_ rfl ⟨by rw [HF.out], ?_⟩
    · simp [results, Try.results55, go_sem, q20w3, q21w3]
    · have hq := Hw3.out
      exact (by repeat (first | assumption | exact Below.refl _ _ | refine below_drewN ?_ _ | refine below_drew1 ?_ | refine Below.al ?_ (by first | exact Nat.le_refl _ | omega | (simp; done) | (simp; omega)) _ | refine Below.setCell ?_ (by first | exact Nat.le_refl _ | omega | (simp; done) | (simp; omega)) _))
set_option maxHeartbeats 3200000 in
theorem specMulRational (an ad bn bd : Int) (w : World) (h1 : I64 an) (h2 : I64 ad) (h3 : I64 bn) (h4 : I64 bd) :
    Calls Try.prog 53 #[ratV an ad, ratV bn bd] w (Leaves w (ratB (mulR an ad bn bd))) := by
  have HI := hid (And.intro h1 (And.intro h2 (And.intro h3 h4))); clear h1 h2 h3 h4
  obtain ⟨k, hk⟩ : ∃ k, bothOK an ad bn bd = k := ⟨_, rfl⟩
  obtain ⟨ka, hka⟩ : ∃ k, ratOK an ad = k := ⟨_, rfl⟩
  obtain ⟨kb, hkb⟩ : ∃ k, ratOK bn bd = k := ⟨_, rfl⟩
  have HA := hid hka; have HB := hid hkb
  have hkk : k = (ka && kb) := by rw [← hk]; unfold bothOK; rw [hka, hkb]
  clear hka hkb
  cases ka with
  | false =>
    have hf : mulR an ad bn bd = (0, 0, false) := by unfold mulR; rw [if_neg (by rw [hk, hkk]; simp)]
    have HF := hid hf; clear hf hk hkk
    go_enter Try.func53, Try.ntmps53
    go_wp2_with fail
    refine (specValidRat an ad _ HI.out.1 HI.out.2.1).mono ?_
    rintro e w1 ⟨rfl, hb1⟩
    rw [HA.out]
    have hzw1 := hb1.size
    try simp at hzw1
    have q00w1 : w1.cell? ⟨w.heap.size, 0, none⟩ = some (.int .i64 an) := (by rw [(bcell hb1).1 _ _ (by first | omega | (simp; done) | (simp; omega))]; first | assumption | (go_simp; done) | (simp [World.cell?]; done))
    have q10w1 : w1.cell? ⟨w.heap.size + 1, 0, none⟩ = some (.int .i64 bn) := (by rw [(bcell hb1).1 _ _ (by first | omega | (simp; done) | (simp; omega))]; first | assumption | (go_simp; done) | (simp [World.cell?]; done))
    have q20w1 : w1.cell? ⟨w.heap.size + 1 + 1, 0, none⟩ = some (.int .i64 0) := (by rw [(bcell hb1).1 _ _ (by first | omega | (simp; done) | (simp; omega))]; first | assumption | (go_simp; done) | (simp [World.cell?]; done))
    have f20w1 : w1.frozen? ⟨w.heap.size + 1 + 1, 0, none⟩ = false := (by rw [(bcell hb1).2 _ _ (by first | omega | (simp; done) | (simp; omega))]; first | assumption | (go_simp; done) | (simp [World.frozen?]; done))
    have q01w1 : w1.cell? ⟨w.heap.size, 1, none⟩ = some (.int .i64 ad) := (by rw [(bcell hb1).1 _ _ (by first | omega | (simp; done) | (simp; omega))]; first | assumption | (go_simp; done) | (simp [World.cell?]; done))
    have q11w1 : w1.cell? ⟨w.heap.size + 1, 1, none⟩ = some (.int .i64 bd) := (by rw [(bcell hb1).1 _ _ (by first | omega | (simp; done) | (simp; omega))]; first | assumption | (go_simp; done) | (simp [World.cell?]; done))
    have q21w1 : w1.cell? ⟨w.heap.size + 1 + 1, 1, none⟩ = some (.int .i64 0) := (by rw [(bcell hb1).1 _ _ (by first | omega | (simp; done) | (simp; omega))]; first | assumption | (go_simp; done) | (simp [World.cell?]; done))
    have f21w1 : w1.frozen? ⟨w.heap.size + 1 + 1, 1, none⟩ = false := (by rw [(bcell hb1).2 _ _ (by first | omega | (simp; done) | (simp; omega))]; first | assumption | (go_simp; done) | (simp [World.frozen?]; done))
    have hBw1 : Below w.heap.size w w1 := Below.trans (by repeat (first | assumption | exact Below.refl _ _ | refine below_drewN ?_ _ | refine below_drew1 ?_ | refine Below.al ?_ (by first | exact Nat.le_refl _ | omega | (simp; done) | (simp; omega)) _ | refine Below.setCell ?_ (by first | exact Nat.le_refl _ | omega | (simp; done) | (simp; omega)) _)) (hb1.mono (by first | exact Nat.le_refl _ | omega | (simp; done) | (simp; omega)))
    have Hw1 := hid hBw1; clear hb1 hBw1
    go_wp2_with fail
    refine bodyPost_ret (v := ratB (0, 0, false)) (by simp [results, Try.results53, go_sem, q20w1, q21w1]) rfl ⟨by rw [HF.out], ?_⟩
    have hq := Hw1.out
    exact (by repeat (first | assumption | exact Below.refl _ _ | refine below_drewN ?_ _ | refine below_drew1 ?_ | refine Below.al ?_ (by first | exact Nat.le_refl _ | omega | (simp; done) | (simp; omega)) _ | refine Below.setCell ?_ (by first | exact Nat.le_refl _ | omega | (simp; done) | (simp; omega)) _))
  | true =>
    cases kb with
    | false =>
      have hf : mulR an ad bn bd = (0, 0, false) := by unfold mulR; rw [if_neg (by rw [hk, hkk]; simp)]
      have HF := hid hf; clear hf hk hkk
      go_enter Try.func53, Try.ntmps53
      go_wp2_with fail
      refine (specValidRat an ad _ HI.out.1 HI.out.2.1).mono ?_
      rintro e w1 ⟨rfl, hb1⟩
      rw [HA.out]
      have hzw1 := hb1.size
      try simp at hzw1
      have q00w1 : w1.cell? ⟨w.heap.size, 0, none⟩ = some (.int .i64 an) := (by rw [(bcell hb1).1 _ _ (by first | omega | (simp; done) | (simp; omega))]; first | assumption | (go_simp; done) | (simp [World.cell?]; done))
      have q10w1 : w1.cell? ⟨w.heap.size + 1, 0, none⟩ = some (.int .i64 bn) := (by rw [(bcell hb1).1 _ _ (by first | omega | (simp; done) | (simp; omega))]; first | assumption | (go_simp; done) | (simp [World.cell?]; done))
      have q20w1 : w1.cell? ⟨w.heap.size + 1 + 1, 0, none⟩ = some (.int .i64 0) := (by rw [(bcell hb1).1 _ _ (by first | omega | (simp; done) | (simp; omega))]; first | assumption | (go_simp; done) | (simp [World.cell?]; done))
      have f20w1 : w1.frozen? ⟨w.heap.size + 1 + 1, 0, none⟩ = false := (by rw [(bcell hb1).2 _ _ (by first | omega | (simp; done) | (simp; omega))]; first | assumption | (go_simp; done) | (simp [World.frozen?]; done))
      have q01w1 : w1.cell? ⟨w.heap.size, 1, none⟩ = some (.int .i64 ad) := (by rw [(bcell hb1).1 _ _ (by first | omega | (simp; done) | (simp; omega))]; first | assumption | (go_simp; done) | (simp [World.cell?]; done))
      have q11w1 : w1.cell? ⟨w.heap.size + 1, 1, none⟩ = some (.int .i64 bd) := (by rw [(bcell hb1).1 _ _ (by first | omega | (simp; done) | (simp; omega))]; first | assumption | (go_simp; done) | (simp [World.cell?]; done))
      have q21w1 : w1.cell? ⟨w.heap.size + 1 + 1, 1, none⟩ = some (.int .i64 0) := (by rw [(bcell hb1).1 _ _ (by first | omega | (simp; done) | (simp; omega))]; first | assumption | (go_simp; done) | (simp [World.cell?]; done))
      have f21w1 : w1.frozen? ⟨w.heap.size + 1 + 1, 1, none⟩ = false := (by rw [(bcell hb1).2 _ _ (by first | omega | (simp; done) | (simp; omega))]; first | assumption | (go_simp; done) | (simp [World.frozen?]; done))
      have hBw1 : Below w.heap.size w w1 := Below.trans (by repeat (first | assumption | exact Below.refl _ _ | refine below_drewN ?_ _ | refine below_drew1 ?_ | refine Below.al ?_ (by first | exact Nat.le_refl _ | omega | (simp; done) | (simp; omega)) _ | refine Below.setCell ?_ (by first | exact Nat.le_refl _ | omega | (simp; done) | (simp; omega)) _)) (hb1.mono (by first | exact Nat.le_refl _ | omega | (simp; done) | (simp; omega)))
      have Hw1 := hid hBw1; clear hb1 hBw1
      go_wp2_with fail
      refine (specValidRat bn bd _ HI.out.2.2.1 HI.out.2.2.2).mono ?_
      rintro e w2 ⟨rfl, hb2⟩
      rw [HB.out]
      have hzw2 := hb2.size
      try simp at hzw2
      have q00w2 : w2.cell? ⟨w.heap.size, 0, none⟩ = some (.int .i64 an) := (by rw [(bcell hb2).1 _ _ (by first | omega | (simp; done) | (simp; omega))]; first | assumption | (go_simp; done) | (simp [World.cell?]; done))
      have q10w2 : w2.cell? ⟨w.heap.size + 1, 0, none⟩ = some (.int .i64 bn) := (by rw [(bcell hb2).1 _ _ (by first | omega | (simp; done) | (simp; omega))]; first | assumption | (go_simp; done) | (simp [World.cell?]; done))
      have q20w2 : w2.cell? ⟨w.heap.size + 1 + 1, 0, none⟩ = some (.int .i64 0) := (by rw [(bcell hb2).1 _ _ (by first | omega | (simp; done) | (simp; omega))]; first | assumption | (go_simp; done) | (simp [World.cell?]; done))
      have f20w2 : w2.frozen? ⟨w.heap.size + 1 + 1, 0, none⟩ = false := (by rw [(bcell hb2).2 _ _ (by first | omega | (simp; done) | (simp; omega))]; first | assumption | (go_simp; done) | (simp [World.frozen?]; done))
      have q01w2 : w2.cell? ⟨w.heap.size, 1, none⟩ = some (.int .i64 ad) := (by rw [(bcell hb2).1 _ _ (by first | omega | (simp; done) | (simp; omega))]; first | assumption | (go_simp; done) | (simp [World.cell?]; done))
      have q11w2 : w2.cell? ⟨w.heap.size + 1, 1, none⟩ = some (.int .i64 bd) := (by rw [(bcell hb2).1 _ _ (by first | omega | (simp; done) | (simp; omega))]; first | assumption | (go_simp; done) | (simp [World.cell?]; done))
      have q21w2 : w2.cell? ⟨w.heap.size + 1 + 1, 1, none⟩ = some (.int .i64 0) := (by rw [(bcell hb2).1 _ _ (by first | omega | (simp; done) | (simp; omega))]; first | assumption | (go_simp; done) | (simp [World.cell?]; done))
      have f21w2 : w2.frozen? ⟨w.heap.size + 1 + 1, 1, none⟩ = false := (by rw [(bcell hb2).2 _ _ (by first | omega | (simp; done) | (simp; omega))]; first | assumption | (go_simp; done) | (simp [World.frozen?]; done))
      have hBw2 : Below w.heap.size w w2 := Hw1.out.trans (hb2.mono (by omega))
      clear q00w1 q01w1 q10w1 q11w1 q20w1 q21w1 f20w1 f21w1
      have Hw2 := hid hBw2; clear hb2 hBw2
      go_wp2_with fail
      refine bodyPost_ret (v := ratB (0, 0, false)) (by simp [results, Try.results53, go_sem, q20w2, q21w2]) rfl ⟨by rw [HF.out], ?_⟩
      have hq := Hw2.out
      exact (by repeat (first | assumption | exact Below.refl _ _ | refine below_drewN ?_ _ | refine below_drew1 ?_ | refine Below.al ?_ (by first | exact Nat.le_refl _ | omega | (simp; done) | (simp; omega)) _ | refine Below.setCell ?_ (by first | exact Nat.le_refl _ | omega | (simp; done) | (simp; omega)) _))
    | true =>
      obtain rfl : k = true := by simpa using hkk
      clear hkk
      have hO := ops_bd hk
      have wr0 : IntKind.i64.wrap (an * bn) = an * bn := IntWalk.i64_in _ (by omega)
      have wr1 : IntKind.i64.wrap (ad * bd) = ad * bd := IntWalk.i64_in _ (by omega)
      have HJ : Hid (I64 (an * bn) ∧ I64 (ad * bd)) := hid ⟨by unfold I64; omega, by unfold I64; omega⟩
      obtain ⟨⟨r1, r2, r3⟩, hr⟩ : ∃ r, newRat (an * bn) (ad * bd) = r := ⟨_, rfl⟩
      have hf : mulR an ad bn bd = (r1, r2, r3) := by unfold mulR; rw [if_pos hk]; exact hr
      have HF := hid hf; have HR := hid hr; have HK := hid hk; clear hf hr hk hO
      go_enter Try.func53, Try.ntmps53
      go_wp2_with fail
      refine (specValidRat an ad _ HI.out.1 HI.out.2.1).mono ?_
      rintro e w1 ⟨rfl, hb1⟩
      rw [HA.out]
      have hzw1 := hb1.size
      try simp at hzw1
      have q00w1 : w1.cell? ⟨w.heap.size, 0, none⟩ = some (.int .i64 an) := (by rw [(bcell hb1).1 _ _ (by first | omega | (simp; done) | (simp; omega))]; first | assumption | (go_simp; done) | (simp [World.cell?]; done))
      have q10w1 : w1.cell? ⟨w.heap.size + 1, 0, none⟩ = some (.int .i64 bn) := (by rw [(bcell hb1).1 _ _ (by first | omega | (simp; done) | (simp; omega))]; first | assumption | (go_simp; done) | (simp [World.cell?]; done))
      have q20w1 : w1.cell? ⟨w.heap.size + 1 + 1, 0, none⟩ = some (.int .i64 0) := (by rw [(bcell hb1).1 _ _ (by first | omega | (simp; done) | (simp; omega))]; first | assumption | (go_simp; done) | (simp [World.cell?]; done))
      have f20w1 : w1.frozen? ⟨w.heap.size + 1 + 1, 0, none⟩ = false := (by rw [(bcell hb1).2 _ _ (by first | omega | (simp; done) | (simp; omega))]; first | assumption | (go_simp; done) | (simp [World.frozen?]; done))
      have q01w1 : w1.cell? ⟨w.heap.size, 1, none⟩ = some (.int .i64 ad) := (by rw [(bcell hb1).1 _ _ (by first | omega | (simp; done) | (simp; omega))]; first | assumption | (go_simp; done) | (simp [World.cell?]; done))
      have q11w1 : w1.cell? ⟨w.heap.size + 1, 1, none⟩ = some (.int .i64 bd) := (by rw [(bcell hb1).1 _ _ (by first | omega | (simp; done) | (simp; omega))]; first | assumption | (go_simp; done) | (simp [World.cell?]; done))
      have q21w1 : w1.cell? ⟨w.heap.size + 1 + 1, 1, none⟩ = some (.int .i64 0) := (by rw [(bcell hb1).1 _ _ (by first | omega | (simp; done) | (simp; omega))]; first | assumption | (go_simp; done) | (simp [World.cell?]; done))
      have f21w1 : w1.frozen? ⟨w.heap.size + 1 + 1, 1, none⟩ = false := (by rw [(bcell hb1).2 _ _ (by first | omega | (simp; done) | (simp; omega))]; first | assumption | (go_simp; done) | (simp [World.frozen?]; done))
      have hBw1 : Below w.heap.size w w1 := Below.trans (by repeat (first | assumption | exact Below.refl _ _ | refine below_drewN ?_ _ | refine below_drew1 ?_ | refine Below.al ?_ (by first | exact Nat.le_refl _ | omega | (simp; done) | (simp; omega)) _ | refine Below.setCell ?_ (by first | exact Nat.le_refl _ | omega | (simp; done) | (simp; omega)) _)) (hb1.mono (by first | exact Nat.le_refl _ | omega | (simp; done) | (simp; omega)))
      have Hw1 := hid hBw1; clear hb1 hBw1
      go_wp2_with fail
      refine (specValidRat bn bd _ HI.out.2.2.1 HI.out.2.2.2).mono ?_
      rintro e w2 ⟨rfl, hb2⟩
      rw [HB.out]
      have hzw2 := hb2.size
      try simp at hzw2
      have q00w2 : w2.cell? ⟨w.heap.size, 0, none⟩ = some (.int .i64 an) := (by rw [(bcell hb2).1 _ _ (by first | omega | (simp; done) | (simp; omega))]; first | assumption | (go_simp; done) | (simp [World.cell?]; done))
      have q10w2 : w2.cell? ⟨w.heap.size + 1, 0, none⟩ = some (.int .i64 bn) := (by rw [(bcell hb2).1 _ _ (by first | omega | (simp; done) | (simp; omega))]; first | assumption | (go_simp; done) | (simp [World.cell?]; done))
      have q20w2 : w2.cell? ⟨w.heap.size + 1 + 1, 0, none⟩ = some (.int .i64 0) := (by rw [(bcell hb2).1 _ _ (by first | omega | (simp; done) | (simp; omega))]; first | assumption | (go_simp; done) | (simp [World.cell?]; done))
      have f20w2 : w2.frozen? ⟨w.heap.size + 1 + 1, 0, none⟩ = false := (by rw [(bcell hb2).2 _ _ (by first | omega | (simp; done) | (simp; omega))]; first | assumption | (go_simp; done) | (simp [World.frozen?]; done))
      have q01w2 : w2.cell? ⟨w.heap.size, 1, none⟩ = some (.int .i64 ad) := (by rw [(bcell hb2).1 _ _ (by first | omega | (simp; done) | (simp; omega))]; first | assumption | (go_simp; done) | (simp [World.cell?]; done))
      have q11w2 : w2.cell? ⟨w.heap.size + 1, 1, none⟩ = some (.int .i64 bd) := (by rw [(bcell hb2).1 _ _ (by first | omega | (simp; done) | (simp; omega))]; first | assumption | (go_simp; done) | (simp [World.cell?]; done))
      have q21w2 : w2.cell? ⟨w.heap.size + 1 + 1, 1, none⟩ = some (.int .i64 0) := (by rw [(bcell hb2).1 _ _ (by first | omega | (simp; done) | (simp; omega))]; first | assumption | (go_simp; done) | (simp [World.cell?]; done))
      have f21w2 : w2.frozen? ⟨w.heap.size + 1 + 1, 1, none⟩ = false := (by rw [(bcell hb2).2 _ _ (by first | omega | (simp; done) | (simp; omega))]; first | assumption | (go_simp; done) | (simp [World.frozen?]; done))
      have hBw2 : Below w.heap.size w w2 := Hw1.out.trans (hb2.mono (by omega))
      clear q00w1 q01w1 q10w1 q11w1 q20w1 q21w1 f20w1 f21w1
      have Hw2 := hid hBw2; clear hb2 hBw2
      go_wp2_with fail
      refine (specNewRat (an * bn) (ad * bd) _ HJ.out.1 HJ.out.2).mono ?_
      rintro e w3 ⟨rfl, hb3⟩
      rw [HR.out]
      have hzw3 := hb3.size
      try simp at hzw3
      have q00w3 : w3.cell? ⟨w.heap.size, 0, none⟩ = some (.int .i64 an) := (by rw [(bcell hb3).1 _ _ (by first | omega | (simp; done) | (simp; omega))]; first | assumption | (go_simp; done) | (simp [World.cell?]; done))
      have q10w3 : w3.cell? ⟨w.heap.size + 1, 0, none⟩ = some (.int .i64 bn) := (by rw [(bcell hb3).1 _ _ (by first | omega | (simp; done) | (simp; omega))]; first | assumption | (go_simp; done) | (simp [World.cell?]; done))
      have q20w3 : w3.cell? ⟨w.heap.size + 1 + 1, 0, none⟩ = some (.int .i64 0) := (by rw [(bcell hb3).1 _ _ (by first | omega | (simp; done) | (simp; omega))]; first | assumption | (go_simp; done) | (simp [World.cell?]; done))
      have f20w3 : w3.frozen? ⟨w.heap.size + 1 + 1, 0, none⟩ = false := (by rw [(bcell hb3).2 _ _ (by first | omega | (simp; done) | (simp; omega))]; first | assumption | (go_simp; done) | (simp [World.frozen?]; done))
      have q01w3 : w3.cell? ⟨w.heap.size, 1, none⟩ = some (.int .i64 ad) := (by rw [(bcell hb3).1 _ _ (by first | omega | (simp; done) | (simp; omega))]; first | assumption | (go_simp; done) | (simp [World.cell?]; done))
      have q11w3 : w3.cell? ⟨w.heap.size + 1, 1, none⟩ = some (.int .i64 bd) := (by rw [(bcell hb3).1 _ _ (by first | omega | (simp; done) | (simp; omega))]; first | assumption | (go_simp; done) | (simp [World.cell?]; done))
      have q21w3 : w3.cell? ⟨w.heap.size + 1 + 1, 1, none⟩ = some (.int .i64 0) := (by rw [(bcell hb3).1 _ _ (by first | omega | (simp; done) | (simp; omega))]; first | assumption | (go_simp; done) | (simp [World.cell?]; done))
      have f21w3 : w3.frozen? ⟨w.heap.size + 1 + 1, 1, none⟩ = false := (by rw [(bcell hb3).2 _ _ (by first | omega | (simp; done) | (simp; omega))]; first | assumption | (go_simp; done) | (simp [World.frozen?]; done))
      have hlt3 : w.heap.size + 1 + 1 < w3.heap.size := by omega
      have hBw3 : Below w.heap.size w w3 := Hw2.out.trans (hb3.mono (by omega))
      clear q00w2 q01w2 q10w2 q11w2 q20w2 q21w2 f20w2 f21w2
      have Hw3 := hid hBw3; clear hb3 hBw3
      go_wp2_with fail
      refine bodyPost_ret (v := ratB (r1, r2, r3)) ?_ rfl ⟨by rw [HF.out], ?_⟩
      · simp [results, Try.results53, go_sem, q20w3, q21w3, hlt3]
      · have hq := Hw3.out
        exact (by repeat (first | assumption | exact Below.refl _ _ | refine below_drewN ?_ _ | refine below_drew1 ?_ | refine Below.al ?_ (by first | exact Nat.le_refl _ | omega | (simp; done) | (simp; omega)) _ | refine Below.setCell ?_ (by first | exact Nat.le_refl _ | omega | (simp; done) | (simp; omega)) _))
end Go.Proofs.Ytgannpmngkgejaa
