/- Walks: whether an iterator stands at a key, and the key. -/
import Derived.Test.YtbgbohapbdiopaaI5
namespace Go.Proofs.Ytbgbohapbdiopaa
open Go.RowKit
theorem stands_inv {ar : Int} {rows : List (List Int)} {low high pos : List Int} (h : validIt ar rows low high pos = false) : standsF ar rows low high pos = false := by simp [standsF, h]
theorem stands_nil {ar : Int} {rows : List (List Int)} {low high pos : List Int} (h : pos.length = 0) : standsF ar rows low high pos = false := by simp [standsF, h]
theorem stands_val {ar : Int} {rows : List (List Int)} {low high pos : List Int} (h : validIt ar rows low high pos = true) (h0 : 0 < pos.length) : standsF ar rows low high pos = !atEndF ar rows low high pos := by simp [standsF, h, h0]
/-- the current key; 0 if there is none -/
noncomputable def curKey (ar : Int) (rows : List (List Int)) (low high pos : List Int) : Int := if standsF ar rows low high pos = true then kx rows (px pos (pos.length - 1)) (pos.length - 1) else 0
theorem curKey_no {ar : Int} {rows : List (List Int)} {low high pos : List Int} (h : standsF ar rows low high pos = false) : curKey ar rows low high pos = 0 := by simp [curKey, h]
theorem curKey_yes {ar : Int} {rows : List (List Int)} {low high pos : List Int} (h : standsF ar rows low high pos = true) : curKey ar rows low high pos = kx rows (px pos (pos.length - 1)) (pos.length - 1) := by simp [curKey, h]
abbrev intBool (x : Int) (b : Bool) : Value := .tuple #[.int .i64 x, .bool b]
set_option maxRecDepth 100000 in
set_option maxHeartbeats 6400000 in
theorem implStands {fz : Bool} {lo hi : Nat} (ar : Int) (a : Option Addr) (n c : Nat) (rows : List (List Int)) (la : Option Addr) (ln lc : Nat) (lw : List Int) (ga : Option Addr) (gn gc : Nat) (gh : List Int) (pa : Option Addr) (pn pc : Nat) (ps : List Int) (w : World)
    (hI : IterA fz lo hi w ar a n c rows la ln lc lw ga gn gc gh pa pn pc ps) (hh : hi ≤ w.heap.size) :
    Calls Try.prog 51 #[iterV ar a n c la ln lc ga gn gc pa pn pc] w (Leaves w (.bool (standsF ar rows lw gh ps))) := by
  have hl4 := hI.2.2.2.len
  have hs4 := hI.2.2.2.small
  have HL := hid hl4; clear hl4
  have HI := hid hI; clear hI
  obtain ⟨vb, hvb⟩ : ∃ vb, validIt ar rows lw gh ps = vb := ⟨_, rfl⟩
  have HVB := hid hvb; clear hvb
  cases vb with
  | false =>
    have HF := hid (stands_inv HVB.out)
    go_enter Try.func51, Try.ntmps51
    go_wp2_with fail
    refine (implValidIt ar a n c rows la ln lc lw ga gn gc gh pa pn pc ps _ (beIter (B := w.heap.size) HI.out (by repeat (first | assumption | exact Below.refl _ _ | refine below_drewN ?_ _ | refine Below.al ?_ (by first | exact Nat.le_refl _ | omega | (simp; done) | (simp; omega)) _ | refine Below.setCell ?_ (by first | exact Nat.le_refl _ | omega | (simp; done) | (simp; omega)) _)) hh) (by first | exact Nat.le_refl _ | omega | (simp; done) | (simp; omega))).mono ?_
    rintro e w1 ⟨rfl, hb1⟩
    rw [HVB.out]
    have hb2 : Below w.heap.size w w1 := Below.trans (by repeat (first | assumption | exact Below.refl _ _ | refine below_drewN ?_ _ | refine Below.al ?_ (by first | exact Nat.le_refl _ | omega | (simp; done) | (simp; omega)) _ | refine Below.setCell ?_ (by first | exact Nat.le_refl _ | omega | (simp; done) | (simp; omega)) _)) (hb1.mono (by first | exact Nat.le_refl _ | omega | (simp; done) | (simp; omega)))
    have HB := hid hb2; clear hb1 hb2
    go_wp2_with fail
    go_ret
    exact ⟨by rw [HF.out]; rfl, HB.out⟩
  | true =>
    go_enter Try.func51, Try.ntmps51
    go_wp2_with fail
    refine (implValidIt ar a n c rows la ln lc lw ga gn gc gh pa pn pc ps _ (beIter (B := w.heap.size) HI.out (by repeat (first | assumption | exact Below.refl _ _ | refine below_drewN ?_ _ | refine Below.al ?_ (by first | exact Nat.le_refl _ | omega | (simp; done) | (simp; omega)) _ | refine Below.setCell ?_ (by first | exact Nat.le_refl _ | omega | (simp; done) | (simp; omega)) _)) hh) (by first | exact Nat.le_refl _ | omega | (simp; done) | (simp; omega))).mono ?_
    rintro e w1 ⟨rfl, hb1⟩
    rw [HVB.out]
    have hb2 : Below w.heap.size w w1 := Below.trans (by repeat (first | assumption | exact Below.refl _ _ | refine below_drewN ?_ _ | refine Below.al ?_ (by first | exact Nat.le_refl _ | omega | (simp; done) | (simp; omega)) _ | refine Below.setCell ?_ (by first | exact Nat.le_refl _ | omega | (simp; done) | (simp; omega)) _)) (hb1.mono (by first | exact Nat.le_refl _ | omega | (simp; done) | (simp; omega)))
    have c0 : w1.cell? ⟨w.heap.size, 0, none⟩ = some (.int .i64 ar) := (by rw [(bcell hb1).1 _ _ (by first | (simp; done) | (simp; omega))]; first | (go_simp; done) | (simp [World.cell?]; done))
    have c1 : w1.cell? ⟨w.heap.size, 1, none⟩ = some (.slice a n c) := (by rw [(bcell hb1).1 _ _ (by first | (simp; done) | (simp; omega))]; first | (go_simp; done) | (simp [World.cell?]; done))
    have c2 : w1.cell? ⟨w.heap.size, 2, none⟩ = some (.slice la ln lc) := (by rw [(bcell hb1).1 _ _ (by first | (simp; done) | (simp; omega))]; first | (go_simp; done) | (simp [World.cell?]; done))
    have c3 : w1.cell? ⟨w.heap.size, 3, none⟩ = some (.slice ga gn gc) := (by rw [(bcell hb1).1 _ _ (by first | (simp; done) | (simp; omega))]; first | (go_simp; done) | (simp [World.cell?]; done))
    have c4 : w1.cell? ⟨w.heap.size, 4, none⟩ = some (.slice pa pn pc) := (by rw [(bcell hb1).1 _ _ (by first | (simp; done) | (simp; omega))]; first | (go_simp; done) | (simp [World.cell?]; done))
    have hz := hb2.size
    have HB := hid hb2; clear hb1 hb2
    by_cases hp : pn = 0
    · have HF := hid (stands_nil (ar := ar) (rows := rows) (low := lw) (high := gh) (pos := ps) (by rw [HL.out]; exact hp))
      subst hp
      go_wp2_with fail
      go_ret
      exact ⟨by rw [HF.out]; rfl, HB.out⟩
    · have HF := hid (stands_val HVB.out (by rw [HL.out]; omega))
      have hp0 : 0 < pn := by omega
      obtain ⟨eb, heb⟩ : ∃ eb, atEndF ar rows lw gh ps = eb := ⟨_, rfl⟩
      have HEB := hid heb; clear heb
      go_wp2_with fail
      refine (implAtEnd ar a n c rows la ln lc lw ga gn gc gh pa pn pc ps _ (beIter HI.out HB.out hh) (by omega)).mono ?_
      rintro e w2 ⟨rfl, hb3⟩
      rw [HEB.out]
      have HB2 := hid (Below.calm HB.out hb3); clear hb3
      cases eb
      all_goals
        go_wp2_with fail
        go_ret
        exact ⟨by rw [HF.out, HEB.out]; rfl, HB2.out⟩
set_option maxRecDepth 100000 in
set_option maxHeartbeats 6400000 in
theorem implCurKey {fz : Bool} {lo hi : Nat} (ar : Int) (a : Option Addr) (n c : Nat) (rows : List (List Int)) (la : Option Addr) (ln lc : Nat) (lw : List Int) (ga : Option Addr) (gn gc : Nat) (gh : List Int) (pa : Option Addr) (pn pc : Nat) (ps : List Int) (w : World)
    (hI : IterA fz lo hi w ar a n c rows la ln lc lw ga gn gc gh pa pn pc ps) (hh : hi ≤ w.heap.size) :
    Calls Try.prog 26 #[iterV ar a n c la ln lc ga gn gc pa pn pc] w (Leaves w (intBool (curKey ar rows lw gh ps) (standsF ar rows lw gh ps))) := by
  have hl4 := hI.2.2.2.len
  have hl1 := hI.1.2.len
  have hs1 := hI.1.2.small
  have hs4 := hI.2.2.2.small
  have HL := hid (And.intro hl1 hl4); clear hl4 hl1
  have HI := hid hI; clear hI
  obtain ⟨sb, hsb⟩ : ∃ sb, standsF ar rows lw gh ps = sb := ⟨_, rfl⟩
  have HST := hid hsb
  rw [hsb]
  clear hsb
  cases sb with
  | false =>
    have HF := hid (curKey_no HST.out)
    go_enter Try.func26, Try.ntmps26
    go_wp2_with fail
    refine (implStands ar a n c rows la ln lc lw ga gn gc gh pa pn pc ps _ (beIter (B := w.heap.size) HI.out (by repeat (first | assumption | exact Below.refl _ _ | refine below_drewN ?_ _ | refine Below.al ?_ (by first | exact Nat.le_refl _ | omega | (simp; done) | (simp; omega)) _ | refine Below.setCell ?_ (by first | exact Nat.le_refl _ | omega | (simp; done) | (simp; omega)) _)) hh) (by first | exact Nat.le_refl _ | omega | (simp; done) | (simp; omega))).mono ?_
    rintro e w1 ⟨rfl, hb1⟩
    rw [HST.out]
    have hb2 : Below w.heap.size w w1 := Below.trans (by repeat (first | assumption | exact Below.refl _ _ | refine below_drewN ?_ _ | refine Below.al ?_ (by first | exact Nat.le_refl _ | omega | (simp; done) | (simp; omega)) _ | refine Below.setCell ?_ (by first | exact Nat.le_refl _ | omega | (simp; done) | (simp; omega)) _)) (hb1.mono (by first | exact Nat.le_refl _ | omega | (simp; done) | (simp; omega)))
    have HB := hid hb2; clear hb1 hb2
    go_wp2_with fail
    go_ret2
    exact ⟨by rw [HF.out]; rfl, HB.out⟩
  | true =>
    go_enter Try.func26, Try.ntmps26
    go_wp2_with fail
    refine (implStands ar a n c rows la ln lc lw ga gn gc gh pa pn pc ps _ (beIter (B := w.heap.size) HI.out (by repeat (first | assumption | exact Below.refl _ _ | refine below_drewN ?_ _ | refine Below.al ?_ (by first | exact Nat.le_refl _ | omega | (simp; done) | (simp; omega)) _ | refine Below.setCell ?_ (by first | exact Nat.le_refl _ | omega | (simp; done) | (simp; omega)) _)) hh) (by first | exact Nat.le_refl _ | omega | (simp; done) | (simp; omega))).mono ?_
    rintro e w1 ⟨rfl, hb1⟩
    rw [HST.out]
    have hb2 : Below w.heap.size w w1 := Below.trans (by repeat (first | assumption | exact Below.refl _ _ | refine below_drewN ?_ _ | refine Below.al ?_ (by first | exact Nat.le_refl _ | omega | (simp; done) | (simp; omega)) _ | refine Below.setCell ?_ (by first | exact Nat.le_refl _ | omega | (simp; done) | (simp; omega)) _)) (hb1.mono (by first | exact Nat.le_refl _ | omega | (simp; done) | (simp; omega)))
    have c0 : w1.cell? ⟨w.heap.size, 0, none⟩ = some (.int .i64 ar) := (by rw [(bcell hb1).1 _ _ (by first | (simp; done) | (simp; omega))]; first | (go_simp; done) | (simp [World.cell?]; done))
    have c1 : w1.cell? ⟨w.heap.size, 1, none⟩ = some (.slice a n c) := (by rw [(bcell hb1).1 _ _ (by first | (simp; done) | (simp; omega))]; first | (go_simp; done) | (simp [World.cell?]; done))
    have c2 : w1.cell? ⟨w.heap.size, 2, none⟩ = some (.slice la ln lc) := (by rw [(bcell hb1).1 _ _ (by first | (simp; done) | (simp; omega))]; first | (go_simp; done) | (simp [World.cell?]; done))
    have c3 : w1.cell? ⟨w.heap.size, 3, none⟩ = some (.slice ga gn gc) := (by rw [(bcell hb1).1 _ _ (by first | (simp; done) | (simp; omega))]; first | (go_simp; done) | (simp [World.cell?]; done))
    have c4 : w1.cell? ⟨w.heap.size, 4, none⟩ = some (.slice pa pn pc) := (by rw [(bcell hb1).1 _ _ (by first | (simp; done) | (simp; omega))]; first | (go_simp; done) | (simp [World.cell?]; done))
    have hz := hb2.size
    have HB := hid hb2; clear hb1 hb2
    obtain ⟨hv, l, hpn, hpx, hgx, hlt, hbn, hla, hrl⟩ := stands_out HST.out
    have hpn' : pn = l + 1 := by rw [← HL.out.2]; exact hpn
    subst hpn'
    have HKX := hid (curKey_yes HST.out)
    obtain ⟨p, hp⟩ : ∃ p, px ps l = p := ⟨_, rfl⟩
    rw [hp] at hpx hlt
    have hpn2 : p < n := by have h1 := HL.out.1; omega
    have hI1 := beIter HI.out HB.out hh
    obtain ⟨b, off, rfl⟩ := RowsA.some hI1.1.2 (show 0 < n by omega)
    obtain ⟨b2, off2, rn, rc, y0, y1, y2, y3, y4, _⟩ := rowsKey (k := l) hI1.1.2 hpn2 (by have := hrl p (by have h1 := HL.out.1; omega); omega)
    obtain ⟨pb, po', rfl, d3, _⟩ := intsAt hI1.2.2.2 (show l < l + 1 by omega)
    rw [hpx] at d3
    have hw1 : IntKind.i64.wrap ((l : Int) + 1 - 1) = l := by rw [show (l : Int) + 1 - 1 = l by omega]; exact IntWalk.i64_in _ (by omega)
    have hi1 : (l : Int) < (l : Int) + 1 := by omega
    have hi2 : (p : Int) < (n : Int) := by omega
    have hi3 : (l : Int) < (rn : Int) := by omega
    generalize hkk : kx rows p l = kk at *
    have HF : Hid (curKey ar rows lw gh ps = kk) := hid (by rw [HKX.out, hpn]; simp only [Nat.add_sub_cancel]; rw [hp]; exact hkk)
    have HQ := hid (And.intro hI1 (And.intro hpx (And.intro hp (And.intro hkk (And.intro hgx (And.intro hrl (And.intro hpn (And.intro hv hbn)))))))); clear hI1 hpx hp hkk hgx hrl hpn hv hbn
    go_wp2_with fail
    go_quiet (fail)
    go_wp2_with fail
    go_ret2
    exact ⟨by rw [HF.out]; rfl, below_drewN HB.out _⟩
set_option maxRecDepth 100000 in
set_option maxHeartbeats 6400000 in
theorem specCurKey {fz : Bool} {lo hi : Nat} (ar : Int) (a : Option Addr) (n c : Nat) (rows : List (List Int)) (la : Option Addr) (ln lc : Nat) (lw : List Int) (ga : Option Addr) (gn gc : Nat) (gh : List Int) (pa : Option Addr) (pn pc : Nat) (ps : List Int) (w : World)
    (hI : IterA fz lo hi w ar a n c rows la ln lc lw ga gn gc gh pa pn pc ps) (hh : hi ≤ w.heap.size) :
    Calls Try.prog 25 #[iterV ar a n c la ln lc ga gn gc pa pn pc] w (Leaves w (intBool (curKey ar rows lw gh ps) (standsF ar rows lw gh ps))) := by
  have hl4 := hI.2.2.2.len
  have hl1 := hI.1.2.len
  have hs1 := hI.1.2.small
  have hs4 := hI.2.2.2.small
  have HL := hid (And.intro hl1 hl4); clear hl4 hl1
  have HI := hid hI; clear hI
  obtain ⟨vb, hvb⟩ : ∃ vb, validIt ar rows lw gh ps = vb := ⟨_, rfl⟩
  have HVB := hid hvb; clear hvb
  cases vb with
  | false =>
    have HST := hid (stands_inv HVB.out)
    have HF := hid (curKey_no HST.out)
    go_enter Try.func25, Try.ntmps25
    go_wp2_with fail
    refine (specValidIt ar a n c rows la ln lc lw ga gn gc gh pa pn pc ps _ (beIter (B := w.heap.size) HI.out (by repeat (first | assumption | exact Below.refl _ _ | refine below_drewN ?_ _ | refine Below.al ?_ (by first | exact Nat.le_refl _ | omega | (simp; done) | (simp; omega)) _ | refine Below.setCell ?_ (by first | exact Nat.le_refl _ | omega | (simp; done) | (simp; omega)) _)) hh) (by first | exact Nat.le_refl _ | omega | (simp; done) | (simp; omega))).mono ?_
    rintro e w1 ⟨rfl, hb1⟩
    rw [HVB.out]
    have hb2 : Below w.heap.size w w1 := Below.trans (by repeat (first | assumption | exact Below.refl _ _ | refine below_drewN ?_ _ | refine Below.al ?_ (by first | exact Nat.le_refl _ | omega | (simp; done) | (simp; omega)) _ | refine Below.setCell ?_ (by first | exact Nat.le_refl _ | omega | (simp; done) | (simp; omega)) _)) (hb1.mono (by first | exact Nat.le_refl _ | omega | (simp; done) | (simp; omega)))
    have HB := hid hb2; clear hb1 hb2
    go_wp2_with fail
    go_ret2
    exact ⟨by rw [HF.out, HST.out]; rfl, HB.out⟩
  | true =>
    go_enter Try.func25, Try.ntmps25
    go_wp2_with fail
    refine (specValidIt ar a n c rows la ln lc lw ga gn gc gh pa pn pc ps _ (beIter (B := w.heap.size) HI.out (by repeat (first | assumption | exact Below.refl _ _ | refine below_drewN ?_ _ | refine Below.al ?_ (by first | exact Nat.le_refl _ | omega | (simp; done) | (simp; omega)) _ | refine Below.setCell ?_ (by first | exact Nat.le_refl _ | omega | (simp; done) | (simp; omega)) _)) hh) (by first | exact Nat.le_refl _ | omega | (simp; done) | (simp; omega))).mono ?_
    rintro e w1 ⟨rfl, hb1⟩
    rw [HVB.out]
    have hb2 : Below w.heap.size w w1 := Below.trans (by repeat (first | assumption | exact Below.refl _ _ | refine below_drewN ?_ _ | refine Below.al ?_ (by first | exact Nat.le_refl _ | omega | (simp; done) | (simp; omega)) _ | refine Below.setCell ?_ (by first | exact Nat.le_refl _ | omega | (simp; done) | (simp; omega)) _)) (hb1.mono (by first | exact Nat.le_refl _ | omega | (simp; done) | (simp; omega)))
    have c0 : w1.cell? ⟨w.heap.size, 0, none⟩ = some (.int .i64 ar) := (by rw [(bcell hb1).1 _ _ (by first | (simp; done) | (simp; omega))]; first | (go_simp; done) | (simp [World.cell?]; done))
    have c1 : w1.cell? ⟨w.heap.size, 1, none⟩ = some (.slice a n c) := (by rw [(bcell hb1).1 _ _ (by first | (simp; done) | (simp; omega))]; first | (go_simp; done) | (simp [World.cell?]; done))
    have c2 : w1.cell? ⟨w.heap.size, 2, none⟩ = some (.slice la ln lc) := (by rw [(bcell hb1).1 _ _ (by first | (simp; done) | (simp; omega))]; first | (go_simp; done) | (simp [World.cell?]; done))
    have c3 : w1.cell? ⟨w.heap.size, 3, none⟩ = some (.slice ga gn gc) := (by rw [(bcell hb1).1 _ _ (by first | (simp; done) | (simp; omega))]; first | (go_simp; done) | (simp [World.cell?]; done))
    have c4 : w1.cell? ⟨w.heap.size, 4, none⟩ = some (.slice pa pn pc) := (by rw [(bcell hb1).1 _ _ (by first | (simp; done) | (simp; omega))]; first | (go_simp; done) | (simp [World.cell?]; done))
    have hz := hb2.size
    have hg0 : w.heap.size < w1.heap.size := World.block_lt_of_cell? _ _ c0
    have HB0 := hid hb2; clear hb1 hb2
    by_cases hp0 : pn = 0
    · have HST := hid (stands_nil (ar := ar) (rows := rows) (low := lw) (high := gh) (pos := ps) (by rw [HL.out.2]; exact hp0))
      have HF := hid (curKey_no HST.out)
      subst hp0
      go_wp2_with fail
      go_ret2
      exact ⟨by rw [HF.out, HST.out]; rfl, HB0.out⟩
    · have hpb : ((pn : Int) == 0) = false := by simp; omega
      have HSV := hid (stands_val HVB.out (by rw [HL.out.2]; omega))
      obtain ⟨eb, heb⟩ : ∃ eb, atEndF ar rows lw gh ps = eb := ⟨_, rfl⟩
      have HEB := hid heb; clear heb
      go_wp2_with fail
      refine (specAtEnd ar a n c rows la ln lc lw ga gn gc gh pa pn pc ps _ (beIter HI.out HB0.out hh) (by omega)).mono ?_
      rintro e w2 ⟨rfl, hb3⟩
      rw [HEB.out]
      have HB := hid (Below.calm HB0.out hb3)
      replace c0 : w2.cell? ⟨w.heap.size, 0, none⟩ = some (.int .i64 ar) := by rw [(bcell hb3).1 _ _ hg0]; exact c0
      replace c1 : w2.cell? ⟨w.heap.size, 1, none⟩ = some (.slice a n c) := by rw [(bcell hb3).1 _ _ hg0]; exact c1
      replace c2 : w2.cell? ⟨w.heap.size, 2, none⟩ = some (.slice la ln lc) := by rw [(bcell hb3).1 _ _ hg0]; exact c2
      replace c3 : w2.cell? ⟨w.heap.size, 3, none⟩ = some (.slice ga gn gc) := by rw [(bcell hb3).1 _ _ hg0]; exact c3
      replace c4 : w2.cell? ⟨w.heap.size, 4, none⟩ = some (.slice pa pn pc) := by rw [(bcell hb3).1 _ _ hg0]; exact c4
      clear hb3
      cases eb with
      | true =>
        have HST : Hid (standsF ar rows lw gh ps = false) := hid (by rw [HSV.out, HEB.out]; rfl)
        have HF := hid (curKey_no HST.out)
        go_wp2_with fail
        go_ret2
        exact ⟨by rw [HF.out, HST.out]; rfl, HB.out⟩
      | false =>
        have HST : Hid (standsF ar rows lw gh ps = true) := hid (by rw [HSV.out, HEB.out]; rfl)
        obtain ⟨hv, l, hpn, hpx, hgx, hlt, hbn, hla, hrl⟩ := stands_out HST.out
        have hpn' : pn = l + 1 := by rw [← HL.out.2]; exact hpn
        subst hpn'
        have HKX := hid (curKey_yes HST.out)
        obtain ⟨p, hp⟩ : ∃ p, px ps l = p := ⟨_, rfl⟩
        rw [hp] at hpx hlt
        have hpn2 : p < n := by have h1 := HL.out.1; omega
        have hI1 := beIter HI.out HB.out hh
        obtain ⟨b, off, rfl⟩ := RowsA.some hI1.1.2 (show 0 < n by omega)
        obtain ⟨b2, off2, rn, rc, y0, y1, y2, y3, y4, _⟩ := rowsKey (k := l) hI1.1.2 hpn2 (by have := hrl p (by have h1 := HL.out.1; omega); omega)
        obtain ⟨pb, po', rfl, d3, _⟩ := intsAt hI1.2.2.2 (show l < l + 1 by omega)
        rw [hpx] at d3
        have hw1 : IntKind.i64.wrap ((l : Int) + 1 - 1) = l := by rw [show (l : Int) + 1 - 1 = l by omega]; exact IntWalk.i64_in _ (by omega)
        have hi1 : (l : Int) < (l : Int) + 1 := by omega
        have hi2 : (p : Int) < (n : Int) := by omega
        have hi3 : (l : Int) < (rn : Int) := by omega
        generalize hkk : kx rows p l = kk at *
        have HF : Hid (curKey ar rows lw gh ps = kk) := hid (by rw [HKX.out, hpn]; simp only [Nat.add_sub_cancel]; rw [hp]; exact hkk)
        have HQ := hid (And.intro hI1 (And.intro hpx (And.intro hp (And.intro hkk (And.intro hgx (And.intro hrl (And.intro hpn (And.intro hv hbn)))))))); clear hI1 hpx hp hkk hgx hrl hpn hv hbn
        go_wp2_with fail
        go_quiet (fail)
        go_wp2_with fail
        go_ret2
        exact ⟨by rw [HF.out, HST.out]; rfl, below_drewN HB.out _⟩
end Go.Proofs.Ytbgbohapbdiopaa
