/- The keys on an iterator's way: the plain law, and the walks of both versions. -/
import Derived.Test.YthebeimejhomjaaI6
import Derived.StillTailTactics
namespace Go.Proofs.Ythebeimejhomjaa
open Go.RowKit
/-- the keys of the first k levels that are not at their end -/
def pathTo (rows : List (List Int)) (gh ps : List Int) : Nat → List Int
  | 0 => []
  | k + 1 => if ix ps k < ix gh k then pathTo rows gh ps k ++ [kx rows (px ps k) k] else pathTo rows gh ps k
theorem pathTo_len (rows : List (List Int)) (gh ps : List Int) (k : Nat) : (pathTo rows gh ps k).length ≤ k := by
  induction k with
  | zero => simp [pathTo]
  | succ k ih =>
    simp only [pathTo]; split
    · simp; omega
    · omega
theorem pathTo_put {rows : List (List Int)} {gh ps : List Int} {k : Nat} (h : ix ps k < ix gh k) : pathTo rows gh ps (k + 1) = pathTo rows gh ps k ++ [kx rows (px ps k) k] := by simp only [pathTo]; rw [if_pos h]
theorem pathTo_keep {rows : List (List Int)} {gh ps : List Int} {k : Nat} (h : ¬ ix ps k < ix gh k) : pathTo rows gh ps (k + 1) = pathTo rows gh ps k := by simp only [pathTo]; rw [if_neg h]
noncomputable def pathF (ar : Int) (rows : List (List Int)) (lw gh ps : List Int) : List Int := if validIt ar rows lw gh ps = true then pathTo rows gh ps ps.length else []
theorem pathF_len (ar : Int) (rows : List (List Int)) (lw gh ps : List Int) : (pathF ar rows lw gh ps).length ≤ ps.length := by
  unfold pathF; split
  · exact pathTo_len _ _ _ _
  · simp
theorem pathF_no {ar : Int} {rows : List (List Int)} {lw gh ps : List Int} (h : validIt ar rows lw gh ps = false) : pathF ar rows lw gh ps = [] := by simp [pathF, h]
theorem pathF_yes {ar : Int} {rows : List (List Int)} {lw gh ps : List Int} (h : validIt ar rows lw gh ps = true) : pathF ar rows lw gh ps = pathTo rows gh ps ps.length := by simp [pathF, h]
/-- of a valid iterator: a level not at its end points to a row -/
theorem lev_row {ar : Int} {rows : List (List Int)} {lw gh ps : List Int} (h : validIt ar rows lw gh ps = true) {k : Nat} (hk : k < ps.length) (hlt : ix ps k < ix gh k) : ix ps k = (px ps k : Nat) ∧ px ps k < rows.length ∧ k < (rx rows (px ps k)).length := by
  obtain ⟨v1, v2, v3, v4, v5⟩ := validIt_out h
  have hl := v5 k hk
  have hb := bnd_ok (n := ps.length) hk (fun j hj => v5 j (by omega))
  have hp := lev_px hl
  have h2 := hl.2.1
  have h3 : px ps k < rows.length := by omega
  have h4 := ((validR_out v1).2.2 _ h3).1
  exact ⟨hp, h3, by omega⟩
set_option maxRecDepth 100000 in
set_option maxHeartbeats 6400000 in
theorem implPath {fz : Bool} {lo hi : Nat} (ar : Int) (a : Option Addr) (n c : Nat) (rows : List (List Int)) (la : Option Addr) (ln lc : Nat) (lw : List Int) (ga : Option Addr) (gn gc : Nat) (gh : List Int) (pa : Option Addr) (pn pc : Nat) (ps : List Int) (w : World)
    (hI : IterA fz lo hi w ar a n c rows la ln lc lw ga gn gc gh pa pn pc ps) (hh : hi ≤ w.heap.size) (hn : ps.length ≤ 1048576) :
    Calls Try.prog 11 #[iterV ar a n c la ln lc ga gn gc pa pn pc] w (GivesOwn w (pathF ar rows lw gh ps)) := by
  have hl1 := hI.1.2.len
  have hl3 := hI.2.2.1.len
  have hl4 := hI.2.2.2.len
  have hs1 := hI.1.2.small
  have hs3 := hI.2.2.1.small
  have hs4 := hI.2.2.2.small
  have hpn : pn ≤ 1048576 := by omega
  have HL := hid (And.intro hl1 (And.intro hl3 hl4)); clear hl1 hl3 hl4 hn
  have HI := hid hI; clear hI
  obtain ⟨vb, hvb⟩ : ∃ vb, validIt ar rows lw gh ps = vb := ⟨_, rfl⟩
  have HVB := hid hvb; clear hvb
  cases vb with
  | false =>
    have HF := hid (pathF_no HVB.out)
    go_enter Try.func11, Try.ntmps11
    go_wp2_with fail
    refine (implValidIt ar a n c rows la ln lc lw ga gn gc gh pa pn pc ps _ (beIter (B := w.heap.size) HI.out (by repeat (first | assumption | exact Below.refl _ _ | refine below_drewN ?_ _ | refine Below.al ?_ (by first | exact Nat.le_refl _ | omega | (simp; done) | (simp; omega)) _ | refine Below.setCell ?_ (by first | exact Nat.le_refl _ | omega | (simp; done) | (simp; omega)) _)) hh) (by first | exact Nat.le_refl _ | omega | (simp; done) | (simp; omega))).mono ?_
    rintro e w1 ⟨rfl, hb1⟩
    rw [HVB.out]
    have hb2 : Below w.heap.size w w1 := Below.trans (by repeat (first | assumption | exact Below.refl _ _ | refine below_drewN ?_ _ | refine Below.al ?_ (by first | exact Nat.le_refl _ | omega | (simp; done) | (simp; omega)) _ | refine Below.setCell ?_ (by first | exact Nat.le_refl _ | omega | (simp; done) | (simp; omega)) _)) (hb1.mono (by first | exact Nat.le_refl _ | omega | (simp; done) | (simp; omega)))
    have HB := hid hb2; clear hb1 hb2
    go_wp2_with fail
    go_ret
    exact ⟨none, 0, 0, rfl, by rw [HF.out]; exact own_nil _ _, HB.out⟩
  | true =>
    have hgp : gn = pn := by have h1 := (validIt_out HVB.out).2.2.1; rw [HL.out.2.1, HL.out.2.2] at h1; exact h1
    have HG := hid hgp
    have hgp2 : pn ≤ gn := by omega
    clear hgp
    have HF := hid (pathF_yes HVB.out)
    go_enter Try.func11, Try.ntmps11
    go_wp2_with fail
    refine (implValidIt ar a n c rows la ln lc lw ga gn gc gh pa pn pc ps _ (beIter (B := w.heap.size) HI.out (by repeat (first | assumption | exact Below.refl _ _ | refine below_drewN ?_ _ | refine Below.al ?_ (by first | exact Nat.le_refl _ | omega | (simp; done) | (simp; omega)) _ | refine Below.setCell ?_ (by first | exact Nat.le_refl _ | omega | (simp; done) | (simp; omega)) _)) hh) (by first | exact Nat.le_refl _ | omega | (simp; done) | (simp; omega))).mono ?_
    rintro e w1 ⟨rfl, hb1⟩
    rw [HVB.out]
    have hb2 : Below w.heap.size w w1 := Below.trans (by repeat (first | assumption | exact Below.refl _ _ | refine below_drewN ?_ _ | refine Below.al ?_ (by first | exact Nat.le_refl _ | omega | (simp; done) | (simp; omega)) _ | refine Below.setCell ?_ (by first | exact Nat.le_refl _ | omega | (simp; done) | (simp; omega)) _)) (hb1.mono (by first | exact Nat.le_refl _ | omega | (simp; done) | (simp; omega)))
    have c0 : w1.cell? ⟨w.heap.size, 0, none⟩ = some (.int .i64 ar) := (by rw [(bcell hb1).1 _ _ (by first | (simp; done) | (simp; omega))]; first | (go_simp; done) | (simp [World.cell?]; done))
    have c1 : w1.cell? ⟨w.heap.size, 1, none⟩ = some (.slice a n c) := (by rw [(bcell hb1).1 _ _ (by first | (simp; done) | (simp; omega))]; first | (go_simp; done) | (simp [World.cell?]; done))
    have c2 : w1.cell? ⟨w.heap.size, 2, none⟩ = some (.slice la ln lc) := (by rw [(bcell hb1).1 _ _ (by first | (simp; done) | (simp; omega))]; first | (go_simp; done) | (simp [World.cell?]; done))
    have c3 : w1.cell? ⟨w.heap.size, 3, none⟩ = some (.slice ga gn gc) := (by rw [(bcell hb1).1 _ _ (by first | (simp; done) | (simp; omega))]; first | (go_simp; done) | (simp [World.cell?]; done))
    have c4 : w1.cell? ⟨w.heap.size, 4, none⟩ = some (.slice pa pn pc) := (by rw [(bcell hb1).1 _ _ (by first | (simp; done) | (simp; omega))]; first | (go_simp; done) | (simp [World.cell?]; done))
    have hz0 : w.heap.size < w1.heap.size := World.block_lt_of_cell? _ _ c0
    have HB := hid hb2; clear hb1 hb2
    have HI1 := hid (beIter HI.out HB.out hh)
    go_wp2_with fail
    go_loopw [3, 12] (fun v i wr => ∃ (k : Nat) (ao : Option Addr) (m co : Nat), i = .int .i64 k ∧ v = .slice ao m co ∧ k ≤ pn ∧ Own w1.heap.size wr ao m co (pathTo rows gh ps k) ∧ Below w1.heap.size w1 wr) (fun _ i _ => pn - (intOf i).toNat)
    case atStart => exact ⟨0, none, 0, 0, rfl, rfl, by omega, own_nil _ _, Below.refl _ _⟩
    case round =>
      obtain ⟨k, ao, m, co, rfl, rfl, hk, hown, hbel⟩ := hrel
      have hm : m ≤ k := by have g1 := hown.len; have g2 := pathTo_len rows gh ps k; omega
      have hk2 : k ≤ 1048576 := by omega
      have hzw := hbel.size
      have hbw : Below w.heap.size w wr := HB.out.trans (hbel.mono (by omega))
      have HI2 := hid (beIter HI1.out hbel (by omega))
      have HO1 := hid hown
      have HB1 := hid (And.intro hbel hbw)
      by_cases hlt : k < pn
      · replace c1 : wr.cell? ⟨w.heap.size, 1, none⟩ = some (.slice a n c) := by rw [(bcell hbel).1 _ _ hz0]; exact c1
        replace c3 : wr.cell? ⟨w.heap.size, 3, none⟩ = some (.slice ga gn gc) := by rw [(bcell hbel).1 _ _ hz0]; exact c3
        clear hown hbel hbw c0 c2 c4
        have hkg : k < gn := by omega
        obtain ⟨gb, go', rfl, d2, _⟩ := intsAt HI2.out.2.2.1 hkg
        obtain ⟨pb, po', rfl, d3, _⟩ := intsAt HI2.out.2.2.2 hlt
        by_cases hlt2 : ix ps k < ix gh k
        · obtain ⟨hp1, hp2, hp3⟩ := lev_row HVB.out (k := k) (by rw [HL.out.2.2]; exact hlt) hlt2
          have hput := pathTo_put (rows := rows) hlt2
          obtain ⟨p, hp⟩ : ∃ p, px ps k = p := ⟨_, rfl⟩
          rw [hp] at hp1 hp2 hp3 hput
          have hpn2 : p < n := by have := HL.out.1; omega
          obtain ⟨b, off, rfl⟩ := RowsA.some HI2.out.1.2 (show 0 < n by omega)
          obtain ⟨b2, off2, rn, rc, y0, y1, y2, y3, y4, y5⟩ := rowsKey (k := k) HI2.out.1.2 hpn2 hp3
          rw [hp1] at d3
          generalize hkk : kx rows p k = kk at *
          generalize hxg : ix gh k = xg at *
          have hlt3 : (p : Int) < xg := by omega
          have HP := hid (And.intro hput (And.intro hp1 (And.intro hkk (And.intro hxg (And.intro hp2 (And.intro hp3 (And.intro hp hlt2))))))); clear hput hp1 hkk hxg hp2 hp3 hp hlt2
          go_wp2_with (at_builtin; refine wpApp rfl (.tmp 24) (.tmp 34) rfl w1.heap.size ao m co _ rfl (HO1.out.alloc _) _ 1 1 _ rfl (one_ints _ _ _ y5) (by omega) (by simp; omega) ?_)
          intro a1 c1' w2 ho2 hg2
          have hb2 : Below w1.heap.size w1 w2 := ho0' HO1.out HB1.out.1 hzw hg2
          have HO2 := hid ho2; clear ho2
          have HB2 := hid hb2; clear hb2 hg2
          go_wp2
          go_roundw
          case rel => exact ⟨k + 1, a1, m + 1, c1', by go_num, rfl, by omega, by rw [HP.out.1]; exact HO2.out, HB2.out⟩
          case measure => simp [intOf]; omega
        · have hkeep := pathTo_keep (rows := rows) hlt2
          generalize hxg : ix gh k = xg at *
          generalize hxp : ix ps k = xp at *
          have HP := hid (And.intro hkeep (And.intro hxg hxp)); clear hkeep hxg hxp
          go_wp2_with fail
          go_roundw
          case rel => exact ⟨k + 1, ao, m, co, by go_num, rfl, by omega, by rw [HP.out.1]; exact HO1.out, HB1.out.1⟩
          case measure => simp [intOf]; omega
      · clear hown hbel hbw
        go_wp2_with fail
        go_ret
        have hky : k = pn := by omega
        exact ⟨_, _, _, rfl, by rw [HF.out, HL.out.2.2, ← hky]; exact HO1.out.low (by have := HB.out.size; omega), HB1.out.2⟩
end Go.Proofs.Ythebeimejhomjaa
