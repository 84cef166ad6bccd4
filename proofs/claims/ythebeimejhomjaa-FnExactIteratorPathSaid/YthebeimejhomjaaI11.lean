/- The keys on an iterator's way: the walk of the reference's version. -/
import Derived.Test.YthebeimejhomjaaI10
import Derived.Test.YthebeimejhomjaaLater
import Derived.Test.YthebeimejhomjaaVals
import Derived.Deep.RegionHeld3
namespace Go.Proofs.Ythebeimejhomjaa
open Go.RowKit
theorem own_empty1 (w : World) (base g : Nat) (hb : base ≤ g) (hg : w.heap[g]? = some (.cells #[] 3 (0, 0))) : Own base w (some ⟨g, 0, none⟩) 0 0 [] :=
  ⟨⟨rfl, .inr ⟨g, 0, #[], rfl, hb, hg, Nat.le_refl _, by simp [maxLen], rfl, rfl⟩⟩, fun _ h => nomatch h⟩
theorem al1' (W : World) (A B : Obj) : ((W.alloc A).alloc B).heap[W.heap.size + 1]? = some B := by
  have := heap_alloc_new (W.alloc A) B
  simpa using this
theorem hoS {B : Nat} {w wr w1 : World} {o : Obj} {a : Option Addr} {n c : Nat} {xs : List Int} (h : Own B wr a n c xs) (hb : Below B w wr) (hB : B ≤ wr.heap.size) (hg : (wr.drew.alloc o).grownBy w1 (Value.slice a n c).ownBlock) : Below B w w1 :=
  ((below_drew1 hb).alloc hB o).grown hg (by simp; omega) (fun k hk => by have := h.1.lt k hk; omega)
theorem Own.drew1 {base : Nat} {w : World} {a : Option Addr} {n c : Nat} {xs : List Int} (h : Own base w a n c xs) : Own base w.drew a n c xs := h
theorem ownToV {base : Nat} {w : World} {a : Option Addr} {n c : Nat} {xs : List Int} (h : Own base w a n c xs) : OwnV 3 base w a n c (xs.map (Value.int .i64)) :=
  ⟨h.1, fun u hu => by obtain ⟨x, _, rfl⟩ := List.mem_map.1 hu; rfl⟩
theorem vToOwn {base : Nat} {w : World} {a : Option Addr} {n c : Nat} {xs : List Int} {x : Int} (h : OwnV 3 base w a n c (xs.map (Value.int .i64) ++ [.int .i64 x])) (hx : ∀ y ∈ xs, I64 y) (h1 : I64 x) : Own base w a n c (xs ++ [x]) :=
  ⟨by simpa using h.1, fun y hy => (List.mem_append.1 hy).elim (hx y) (fun hy => by simp only [List.mem_singleton] at hy; subst hy; exact h1)⟩
set_option maxRecDepth 100000 in
set_option maxHeartbeats 6400000 in
theorem specPath {fz : Bool} {lo hi : Nat} (ar : Int) (a : Option Addr) (n c : Nat) (rows : List (List Int)) (la : Option Addr) (ln lc : Nat) (lw : List Int) (ga : Option Addr) (gn gc : Nat) (gh : List Int) (pa : Option Addr) (pn pc : Nat) (ps : List Int) (w : World)
    (hI : IterA fz lo hi w ar a n c rows la ln lc lw ga gn gc gh pa pn pc ps) (hh : hi ≤ w.heap.size) (hn : ps.length ≤ 1048576) :
    Calls Try.prog 9 #[iterV ar a n c la ln lc ga gn gc pa pn pc] w (GivesOwn w (pathF ar rows lw gh ps)) := by
  have hl1 := hI.1.2.len
  have hl3 := hI.2.2.1.len
  have hl4 := hI.2.2.2.len
  have hs1 := hI.1.2.small
  have hs3 := hI.2.2.1.small
  have hs4 := hI.2.2.2.small
  have hpn : pn ≤ 1048576 := by omega
  have HL := hid (And.intro hl1 (And.intro hl3 hl4)); clear hl1 hl3 hl4 hn
  obtain ⟨W, hW⟩ : ∃ W, W = (w.alloc (.cells #[.int .i64 ar, .slice a n c, .slice la ln lc, .slice ga gn gc, .slice pa pn pc] 32)).alloc (.cells #[] 3) := ⟨_, rfl⟩
  have hBW : Below w.heap.size w W := by rw [hW]; exact (by repeat (first | assumption | exact Below.refl _ _ | refine below_drewN ?_ _ | refine Below.al ?_ (by first | exact Nat.le_refl _ | omega | (simp; done) | (simp; omega)) _ | refine Below.setCell ?_ (by first | exact Nat.le_refl _ | omega | (simp; done) | (simp; omega)) _))
  have hIW := beIter hI hBW hh
  have c0 : W.cell? ⟨w.heap.size, 0, none⟩ = some (.int .i64 ar) := by rw [hW]; first | (go_simp; done) | (simp [World.cell?]; done)
  have c1 : W.cell? ⟨w.heap.size, 1, none⟩ = some (.slice a n c) := by rw [hW]; first | (go_simp; done) | (simp [World.cell?]; done)
  have c2 : W.cell? ⟨w.heap.size, 2, none⟩ = some (.slice la ln lc) := by rw [hW]; first | (go_simp; done) | (simp [World.cell?]; done)
  have c3 : W.cell? ⟨w.heap.size, 3, none⟩ = some (.slice ga gn gc) := by rw [hW]; first | (go_simp; done) | (simp [World.cell?]; done)
  have c4 : W.cell? ⟨w.heap.size, 4, none⟩ = some (.slice pa pn pc) := by rw [hW]; first | (go_simp; done) | (simp [World.cell?]; done)
  have ho : Own (w.heap.size + 1) W (some ⟨w.heap.size + 1, 0, none⟩) 0 0 [] := own_empty1 _ _ _ (Nat.le_refl _) (by rw [hW]; exact al1' _ _ _)
  have hz : w.heap.size + 1 < W.heap.size := by rw [hW]; simp
  obtain ⟨vb, hvb⟩ : ∃ vb, validIt ar rows lw gh ps = vb := ⟨_, rfl⟩
  have HVB := hid hvb; clear hvb
  have HW := hid (And.intro hW (And.intro hBW (And.intro hI (And.intro hIW ho)))); clear hW hBW hI hIW ho
  cases vb with
  | false =>
    have HF := hid (pathF_no HVB.out)
    by_cases hp0 : 0 < pn
    · go_enter Try.func9, Try.ntmps9
      go_upto_region 2 with fail
      rw [← HW.out.1]
      go_wp2_with fail
      go_loopw [3, 4] (fun v i wr => i = .int .i64 0 ∧ v = .slice (some ⟨w.heap.size + 1, 0, none⟩) 0 0 ∧ wr = W) (fun _ i _ => pn - (intOf i).toNat)
      case atStart => exact ⟨rfl, rfl, rfl⟩
      case round =>
        obtain ⟨rfl, rfl, rfl⟩ := hrel
        go_wp2_with fail
        refine (specValidIt ar a n c rows la ln lc lw ga gn gc gh pa pn pc ps _ HW.out.2.2.2.1 (by omega)).mono ?_
        rintro e w1 ⟨rfl, hb1⟩
        rw [HVB.out]
        have HB := hid hb1; clear hb1
        go_wp2_with fail
        go_ret
        exact ⟨_, _, _, rfl, by rw [HF.out]; exact (HW.out.2.2.2.2.keep (Keeps.of_below HB.out (Nat.le_refl _))).low (by omega), HW.out.2.1.trans (HB.out.mono (by omega))⟩
    · have hp1 : pn = 0 := by omega
      subst hp1
      go_enter Try.func9, Try.ntmps9
      go_upto_region 2 with fail
      rw [← HW.out.1]
      go_wp2_with fail
      go_loopw [3, 4] (fun v i wr => i = .int .i64 0 ∧ v = .slice (some ⟨w.heap.size + 1, 0, none⟩) 0 0 ∧ wr = W) (fun _ i _ => 1 - (intOf i).toNat)
      case atStart => exact ⟨rfl, rfl, rfl⟩
      case round =>
        obtain ⟨rfl, rfl, rfl⟩ := hrel
        go_wp2_with fail
        go_ret
        exact ⟨_, _, _, rfl, by rw [HF.out]; exact HW.out.2.2.2.2.low (by omega), HW.out.2.1⟩
  | true =>
    have hgp : gn = pn := by have h1 := (validIt_out HVB.out).2.2.1; rw [HL.out.2.1, HL.out.2.2] at h1; exact h1
    have HG := hid hgp
    have hgp2 : pn ≤ gn := by omega
    clear hgp
    have HF := hid (pathF_yes HVB.out)
    go_enter Try.func9, Try.ntmps9
    go_upto_region 2 with fail
    rw [← HW.out.1]
    go_wp2_with fail
    go_loopw [3, 4] (fun v i wr => ∃ (k : Nat) (ao : Option Addr) (m co : Nat), i = .int .i64 k ∧ v = .slice ao m co ∧ k ≤ pn ∧ Own (w.heap.size + 1) wr ao m co (pathTo rows gh ps k) ∧ Below (w.heap.size + 1) W wr) (fun _ i _ => pn - (intOf i).toNat)
    case atStart => exact ⟨0, _, 0, 0, rfl, rfl, by omega, HW.out.2.2.2.2, Below.refl _ _⟩
    case round =>
      obtain ⟨k, ao, m, co, rfl, rfl, hk, hown, hbel⟩ := hrel
      have hm : m ≤ k := by have g1 := hown.len; have g2 := pathTo_len rows gh ps k; omega
      have hk2 : k ≤ 1048576 := by omega
      have hzw := hbel.size
      have hbw : Below w.heap.size w wr := HW.out.2.1.trans (hbel.mono (by omega))
      have HIr := hid (beIter HW.out.2.2.1 hbw hh)
      have k0 : wr.cell? ⟨w.heap.size, 0, none⟩ = some (.int .i64 ar) := by rw [hbel.cell (p := ⟨w.heap.size, 0, none⟩) (by simp)]; exact c0
      have k1 : wr.cell? ⟨w.heap.size, 1, none⟩ = some (.slice a n c) := by rw [hbel.cell (p := ⟨w.heap.size, 1, none⟩) (by simp)]; exact c1
      have k2 : wr.cell? ⟨w.heap.size, 2, none⟩ = some (.slice la ln lc) := by rw [hbel.cell (p := ⟨w.heap.size, 2, none⟩) (by simp)]; exact c2
      have k3 : wr.cell? ⟨w.heap.size, 3, none⟩ = some (.slice ga gn gc) := by rw [hbel.cell (p := ⟨w.heap.size, 3, none⟩) (by simp)]; exact c3
      have k4 : wr.cell? ⟨w.heap.size, 4, none⟩ = some (.slice pa pn pc) := by rw [hbel.cell (p := ⟨w.heap.size, 4, none⟩) (by simp)]; exact c4
      have HO := hid hown
      have HB := hid (And.intro hbel hbw)
      clear hown hbel hbw
      by_cases hlt : k < pn
      · go_wp2_with fail
        refine (specValidIt ar a n c rows la ln lc lw ga gn gc gh pa pn pc ps _ HIr.out (by omega)).mono ?_
        rintro e w3 ⟨rfl, hb3⟩
        rw [HVB.out]
        have hzz : w.heap.size < wr.heap.size := by omega
        have hz3 := hb3.size
        replace k1 : w3.cell? ⟨w.heap.size, 1, none⟩ = some (.slice a n c) := by rw [(bcell hb3).1 _ _ hzz]; exact k1
        replace k3 : w3.cell? ⟨w.heap.size, 3, none⟩ = some (.slice ga gn gc) := by rw [(bcell hb3).1 _ _ hzz]; exact k3
        replace k4 : w3.cell? ⟨w.heap.size, 4, none⟩ = some (.slice pa pn pc) := by rw [(bcell hb3).1 _ _ hzz]; exact k4
        have HI2 := hid (beIter HIr.out hb3 (by omega))
        have HO3 := hid (HO.out.keep (Keeps.of_below hb3 (Nat.le_refl _)))
        have HB3 := hid (HB.out.1.trans (hb3.mono (by omega)))
        clear hb3 k0 k2
        have hkg : k < gn := by omega
        obtain ⟨gb, go', rfl, d2, _⟩ := intsAt HI2.out.2.2.1 hkg
        obtain ⟨pb, po', rfl, d3, _⟩ := intsAt HI2.out.2.2.2 hlt
        by_cases hlt2 : ix ps k < ix gh k
        · obtain ⟨hp1, hp2, hp3⟩ := lev_row HVB.out (k := k) (by rw [HL.out.2.2]; exact hlt) hlt2
          have hput := pathTo_put (rows := rows) hlt2
          obtain ⟨p, hp⟩ : ∃ p, px ps k = p := ⟨_, rfl⟩
          rw [hp] at hp1 hp2 hp3 hput
          have hpn2 : p < n := by have := HL.out.1; omega
          obtain ⟨b, off, rfl⟩ := RowsA.some HI2.out.1.2 (show 0 < n by omega)
          obtain ⟨b2, off2, rn, rc, y0, y1, y2, y3, y4, y5⟩ := rowsKey (k := k) HI2.out.1.2 hpn2 hp3
          have hb2lt : b2 < w.heap.size + 1 := by
            obtain ⟨_, _, ra, rn', rc', q0, q1, _⟩ := RowsA.at HI2.out.1.2 hpn2
            rw [y0] at q0
            simp only [Option.some.injEq, Value.slice.injEq] at q0
            obtain ⟨rfl, rfl, rfl⟩ := q0
            obtain ⟨b', o', e, _, h2, _⟩ := q1.open (by omega)
            simp only [Option.some.injEq, Addr.mk.injEq, and_true] at e
            omega
          rw [hp1] at d3
          generalize hkk : kx rows p k = kk at *
          generalize hxg : ix gh k = xg at *
          have hlt3 : (p : Int) < xg := by omega
          have HP := hid (And.intro hput (And.intro hp1 (And.intro hkk (And.intro hxg (And.intro hp2 (And.intro hp3 (And.intro hp hlt2))))))); clear hput hp1 hkk hxg hp2 hp3 hp hlt2
          go_wp2_with fail
          go_quiet (fail)
          go_wp2_with fail
          generalize hw4 : World.drewN w3 _ = w4
          replace k1 : w4.cell? ⟨w.heap.size, 1, none⟩ = some (.slice (some ⟨b, off, none⟩) n c) := by rw [← hw4]; exact k1
          replace k4 : w4.cell? ⟨w.heap.size, 4, none⟩ = some (.slice (some ⟨pb, po', none⟩) pn pc) := by rw [← hw4]; exact k4
          replace d3 : w4.cell? ⟨pb, po' + k, none⟩ = some (.int .i64 p) := by rw [← hw4]; exact d3
          replace y0 : w4.cell? ⟨b, off + p, none⟩ = some (.slice (some ⟨b2, off2, none⟩) rn rc) := by rw [← hw4]; exact y0
          replace y4 : w4.cell? ⟨b2, off2 + k, none⟩ = some (.int .i64 kk) := by rw [← hw4]; exact y4
          have HO4 : Hid (Own (w.heap.size + 1) w4 ao m co (pathTo rows gh ps k)) := hid (by rw [← hw4]; exact HO3.out.drewN _)
          have HB4 : Hid (Below (w.heap.size + 1) W w4) := hid (by rw [← hw4]; exact below_drewN HB3.out _)
          have hz4 : w.heap.size + 1 ≤ w4.heap.size := by rw [← hw4]; show _ ≤ w3.heap.size; omega
          clear hw4 d2 k3
          have hgb : b < w.heap.size + 1 := by have := HW.out.2.2.1.1.2.open (show 0 < n by omega); obtain ⟨b', o', e, _, h2, _⟩ := this; simp only [Option.some.injEq, Addr.mk.injEq, and_true] at e; omega
          have hgb2 : b2 < w.heap.size + 1 := hb2lt
          have hgp : pb < w.heap.size + 1 := by have := HW.out.2.2.1.2.2.2.open (show 0 < pn by omega); obtain ⟨b', o', e, _, h2, _⟩ := this; simp only [Option.some.injEq, Addr.mk.injEq, and_true] at e; omega
          have hgw : w.heap.size < w.heap.size + 1 := by omega
          go_region_held3 (fun w' => w'.cell? ⟨w.heap.size, 1, none⟩ = some (.slice (some ⟨b, off, none⟩) n c) ∧ w'.cell? ⟨w.heap.size, 4, none⟩ = some (.slice (some ⟨pb, po', none⟩) pn pc) ∧ w'.cell? ⟨pb, po' + k, none⟩ = some (.int .i64 p) ∧ w'.cell? ⟨b, off + p, none⟩ = some (.slice (some ⟨b2, off2, none⟩) rn rc) ∧ w'.cell? ⟨b2, off2 + k, none⟩ = some (.int .i64 kk)) (first | go_keep | (refine ⟨?_, ?_, ?_, ?_, ?_⟩ <;> assumption))
            ((refine stepAppV elemInt (by rfl) (.tmp 28) (.tmp 42) (by rfl) (w.heap.size + 1) ao m co _ (by rfl) (ownToV ((HO4.out.drew1).alloc _)) _ 1 1 _ (by rfl) (vals_one _ _ 3 _ rfl 0 _ (Nat.zero_le _) (Nat.lt_succ_self _) (heap_alloc_new _ _)) (by omega) (by simp; omega) ?_; intro a1 c1' w5 ho2 hg2; have hb5 : Below (w.heap.size + 1) W w5 := hoS HO4.out HB4.out hz4 hg2; have j1 : w5.cell? ⟨w.heap.size, 1, none⟩ = some (.slice (some ⟨b, off, none⟩) n c) := (by rw [hb5.cell (p := ⟨w.heap.size, 1, none⟩) hgw, ← HB4.out.cell (p := ⟨w.heap.size, 1, none⟩) hgw]; exact k1); have j2 : w5.cell? ⟨w.heap.size, 4, none⟩ = some (.slice (some ⟨pb, po', none⟩) pn pc) := (by rw [hb5.cell (p := ⟨w.heap.size, 4, none⟩) hgw, ← HB4.out.cell (p := ⟨w.heap.size, 4, none⟩) hgw]; exact k4); have j3 : w5.cell? ⟨pb, po' + k, none⟩ = some (.int .i64 p) := (by rw [hb5.cell (p := ⟨pb, po' + k, none⟩) hgp, ← HB4.out.cell (p := ⟨pb, po' + k, none⟩) hgp]; exact d3); have j4 : w5.cell? ⟨b, off + p, none⟩ = some (.slice (some ⟨b2, off2, none⟩) rn rc) := (by rw [hb5.cell (p := ⟨b, off + p, none⟩) hgb, ← HB4.out.cell (p := ⟨b, off + p, none⟩) hgb]; exact y0); have j5 : w5.cell? ⟨b2, off2 + k, none⟩ = some (.int .i64 kk) := (by rw [hb5.cell (p := ⟨b2, off2 + k, none⟩) hgb2, ← HB4.out.cell (p := ⟨b2, off2 + k, none⟩) hgb2]; exact y4); replace ho2 := hid (vToOwn ho2 HO4.out.2 y5); have HB5 := hid hb5; clear hb5 hg2))
          go_wp2
          go_roundw
          case rel => exact ⟨k + 1, a1, m + 1, c1', by go_num, rfl, by omega, by rw [HP.out.1]; exact ho2.out, HB5.out⟩
          case measure => simp [intOf]; omega
        · have hkeep := pathTo_keep (rows := rows) hlt2
          generalize hxg : ix gh k = xg at *
          generalize hxp : ix ps k = xp at *
          have HP := hid (And.intro hkeep (And.intro hxg hxp)); clear hkeep hxg hxp
          go_wp2_with fail
          go_quiet (fail)
          go_wp2_with fail
          go_roundw
          case rel => exact ⟨k + 1, ao, m, co, by go_num, rfl, by omega, by rw [HP.out.1]; exact HO3.out.drewN _, below_drewN HB3.out _⟩
          case measure => simp [intOf]; omega
      · go_wp2_with fail
        go_ret
        have hky : k = pn := by omega
        exact ⟨_, _, _, rfl, by rw [HF.out, HL.out.2.2, ← hky]; exact HO.out.low (by omega), HB.out.2⟩
end Go.Proofs.Ythebeimejhomjaa
