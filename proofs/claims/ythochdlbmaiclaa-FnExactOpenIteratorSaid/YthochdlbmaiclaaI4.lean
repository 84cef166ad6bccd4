/- The walk of the reference's test of an iterator. -/
import Derived.Test.YthochdlbmaiclaaI3
namespace Go.Proofs.Ythochdlbmaiclaa
set_option linter.unusedSimpArgs false
set_option linter.unusedVariables false
open Go.RowKit
theorem intsCell {fz : Bool} {lo hi : Nat} {w : World} {b off n c : Nat} {xs : List Int} (h : IntsA fz lo hi w (some ⟨b, off, none⟩) n c xs) {i : Nat} (hi' : i < n) : w.cell? ⟨b, off + i, none⟩ = some (.int .i64 (ix xs i)) := by
  obtain ⟨b', off', ha, _, _, hc, _⟩ := h.open (by omega)
  simp only [Option.some.injEq, Addr.mk.injEq, and_true] at ha
  obtain ⟨rfl, rfl⟩ := ha
  exact hc i hi'
set_option maxRecDepth 100000 in
set_option maxHeartbeats 6400000 in
theorem specValidIt {fz : Bool} {lo hi : Nat} (ar : Int) (a : Option Addr) (n c : Nat) (rows : List (List Int)) (la : Option Addr) (ln lc : Nat) (lw : List Int) (ga : Option Addr) (gn gc : Nat) (gh : List Int) (pa : Option Addr) (pn pc : Nat) (ps : List Int) (w : World)
    (hI : IterA fz lo hi w ar a n c rows la ln lc lw ga gn gc gh pa pn pc ps) (hh : hi ≤ w.heap.size) :
    Calls Try.prog 40 #[iterV ar a n c la ln lc ga gn gc pa pn pc] w (Leaves w (.bool (validIt ar rows lw gh ps))) := by
  have har := hI.1.1
  have hl1 := hI.1.2.len
  have hl2 := hI.2.1.len
  have hl3 := hI.2.2.1.len
  have hl4 := hI.2.2.2.len
  have hs1 := hI.1.2.small
  have hs2 := hI.2.1.small
  have hs3 := hI.2.2.1.small
  have hs4 := hI.2.2.2.small
  have HL := hid (And.intro hl1 (And.intro hl2 (And.intro hl3 hl4))); clear hl1 hl2 hl3 hl4
  have HI := hid hI; clear hI
  have HAR := hid har; clear har
  obtain ⟨vb, hvb⟩ : ∃ vb, validR ar rows = vb := ⟨_, rfl⟩
  have HVB := hid hvb; clear hvb
  cases vb with
  | false =>
    have HF := hid (validIt_no (ar := ar) (rows := rows) (low := lw) (high := gh) (pos := ps) (fun h => by rw [HVB.out] at h; cases h.1))
    go_enter Try.func40, Try.ntmps40
    go_wp2_with fail
    refine (specValidTrie ar a n c rows _ (HI.out.1.2.be intsOK (B := w.heap.size) (by repeat (first | with_reducible assumption | with_reducible exact Below.refl _ _ | with_reducible refine below_drewN ?_ _ | with_reducible refine Below.al ?_ (by first | with_reducible exact Nat.le_refl _ | omega | (simp; done) | (simp; omega) | exact Nat.le_refl _) _ | with_reducible refine Below.setCell ?_ (by first | with_reducible exact Nat.le_refl _ | omega | (simp; done) | (simp; omega) | exact Nat.le_refl _) _ | assumption | exact Below.refl _ _ | refine below_drewN ?_ _ | refine Below.al ?_ (by first | with_reducible exact Nat.le_refl _ | omega | (simp; done) | (simp; omega) | exact Nat.le_refl _) _ | refine Below.setCell ?_ (by first | with_reducible exact Nat.le_refl _ | omega | (simp; done) | (simp; omega) | exact Nat.le_refl _) _)) hh) (by first | with_reducible exact Nat.le_refl _ | omega | (simp; done) | (simp; omega) | exact Nat.le_refl _) HAR.out).mono ?_
    rintro e w1 ⟨rfl, hb1⟩
    rw [HVB.out]
    have hb2 : Below w.heap.size w w1 := Below.trans (by repeat (first | with_reducible assumption | with_reducible exact Below.refl _ _ | with_reducible refine below_drewN ?_ _ | with_reducible refine Below.al ?_ (by first | with_reducible exact Nat.le_refl _ | omega | (simp; done) | (simp; omega) | exact Nat.le_refl _) _ | with_reducible refine Below.setCell ?_ (by first | with_reducible exact Nat.le_refl _ | omega | (simp; done) | (simp; omega) | exact Nat.le_refl _) _ | assumption | exact Below.refl _ _ | refine below_drewN ?_ _ | refine Below.al ?_ (by first | with_reducible exact Nat.le_refl _ | omega | (simp; done) | (simp; omega) | exact Nat.le_refl _) _ | refine Below.setCell ?_ (by first | with_reducible exact Nat.le_refl _ | omega | (simp; done) | (simp; omega) | exact Nat.le_refl _) _)) (hb1.mono (by first | with_reducible exact Nat.le_refl _ | omega | (simp; done) | (simp; omega) | exact Nat.le_refl _))
    have HB := hid hb2; clear hb1 hb2
    go_wp2_with fail
    go_ret
    exact ⟨by rw [HF.out]; rfl, HB.out⟩
  | true =>
    have hno : ∀ P : Prop, (¬ (lw.length = ps.length ∧ gh.length = ps.length ∧ (ps.length : Int) ≤ ar)) → validIt ar rows lw gh ps = false := fun _ h => validIt_no (fun g => h g.2)
    have HNO := hid hno; clear hno
    go_enter Try.func40, Try.ntmps40
    go_wp2_with fail
    refine (specValidTrie ar a n c rows _ (HI.out.1.2.be intsOK (B := w.heap.size) (by repeat (first | with_reducible assumption | with_reducible exact Below.refl _ _ | with_reducible refine below_drewN ?_ _ | with_reducible refine Below.al ?_ (by first | with_reducible exact Nat.le_refl _ | omega | (simp; done) | (simp; omega) | exact Nat.le_refl _) _ | with_reducible refine Below.setCell ?_ (by first | with_reducible exact Nat.le_refl _ | omega | (simp; done) | (simp; omega) | exact Nat.le_refl _) _ | assumption | exact Below.refl _ _ | refine below_drewN ?_ _ | refine Below.al ?_ (by first | with_reducible exact Nat.le_refl _ | omega | (simp; done) | (simp; omega) | exact Nat.le_refl _) _ | refine Below.setCell ?_ (by first | with_reducible exact Nat.le_refl _ | omega | (simp; done) | (simp; omega) | exact Nat.le_refl _) _)) hh) (by first | with_reducible exact Nat.le_refl _ | omega | (simp; done) | (simp; omega) | exact Nat.le_refl _) HAR.out).mono ?_
    rintro e w1 ⟨rfl, hb1⟩
    rw [HVB.out]
    have hb2 : Below w.heap.size w w1 := Below.trans (by repeat (first | with_reducible assumption | with_reducible exact Below.refl _ _ | with_reducible refine below_drewN ?_ _ | with_reducible refine Below.al ?_ (by first | with_reducible exact Nat.le_refl _ | omega | (simp; done) | (simp; omega) | exact Nat.le_refl _) _ | with_reducible refine Below.setCell ?_ (by first | with_reducible exact Nat.le_refl _ | omega | (simp; done) | (simp; omega) | exact Nat.le_refl _) _ | assumption | exact Below.refl _ _ | refine below_drewN ?_ _ | refine Below.al ?_ (by first | with_reducible exact Nat.le_refl _ | omega | (simp; done) | (simp; omega) | exact Nat.le_refl _) _ | refine Below.setCell ?_ (by first | with_reducible exact Nat.le_refl _ | omega | (simp; done) | (simp; omega) | exact Nat.le_refl _) _)) (hb1.mono (by first | with_reducible exact Nat.le_refl _ | omega | (simp; done) | (simp; omega) | exact Nat.le_refl _))
    have c0 : w1.cell? ⟨w.heap.size, 0, none⟩ = some (.int .i64 ar) := (by rw [(bcell hb1).1 _ _ (by first | omega | (simp; done) | (simp; omega))]; first | with_reducible assumption | (go_simp; done) | assumption | (simp [World.cell?]; done))
    have c1 : w1.cell? ⟨w.heap.size, 1, none⟩ = some (.slice a n c) := (by rw [(bcell hb1).1 _ _ (by first | omega | (simp; done) | (simp; omega))]; first | with_reducible assumption | (go_simp; done) | assumption | (simp [World.cell?]; done))
    have c2 : w1.cell? ⟨w.heap.size, 2, none⟩ = some (.slice la ln lc) := (by rw [(bcell hb1).1 _ _ (by first | omega | (simp; done) | (simp; omega))]; first | with_reducible assumption | (go_simp; done) | assumption | (simp [World.cell?]; done))
    have c3 : w1.cell? ⟨w.heap.size, 3, none⟩ = some (.slice ga gn gc) := (by rw [(bcell hb1).1 _ _ (by first | omega | (simp; done) | (simp; omega))]; first | with_reducible assumption | (go_simp; done) | assumption | (simp [World.cell?]; done))
    have c4 : w1.cell? ⟨w.heap.size, 4, none⟩ = some (.slice pa pn pc) := (by rw [(bcell hb1).1 _ _ (by first | omega | (simp; done) | (simp; omega))]; first | with_reducible assumption | (go_simp; done) | assumption | (simp [World.cell?]; done))
    have hz1 : w.heap.size < w1.heap.size := World.block_lt_of_cell? _ _ c0
    have hI1 := beIter HI.out hb2 hh
    have HB := hid hb2; clear hb1 hb2
    have HI1 := hid hI1; clear hI1
    by_cases e3 : (pn : Int) ≤ ar
    · by_cases e1 : ln = pn
      · have hb1 : ((ln : Int) != (pn : Int)) = false := by simp [e1]
        by_cases e2 : gn = pn
        · have hb2 : ((gn : Int) != (pn : Int)) = false := by simp [e2]
          have HE := hid (And.intro e1 e2); clear e1 e2
          have hrl : ∀ i k, i < n → k < pn → k < (rx rows i).length := fun i k hi' hk => by
            have := ((validR_out HVB.out).2.2 i (by rw [HL.out.1]; exact hi')).1; omega
          have HRL := hid hrl; clear hrl
          have hyes : (∀ k, k < pn → LevOK rows lw gh ps ps.length k) → validIt ar rows lw gh ps = true := fun g => validIt_mk (low := lw) (high := gh) (pos := ps) HVB.out (by rw [HL.out.2.1, HL.out.2.2.2]; exact HE.out.1) (by rw [HL.out.2.2.1, HL.out.2.2.2]; exact HE.out.2) (by rw [HL.out.2.2.2]; exact e3) (by rw [HL.out.2.2.2]; rw [HL.out.2.2.2] at g; exact g)
          have HYES := hid hyes; clear hyes
          go_wp2_with fail
          go_loopw [4, 5, 6] (fun s5 s6 s7 wr => ∃ k l h : Nat, s7 = .int .i64 k ∧ s5 = .int .i64 l ∧ s6 = .int .i64 h ∧ k ≤ pn ∧ Hid (bnd rows ps k = (l, h)) ∧ Hid (∀ j, j < k → LevOK rows lw gh ps ps.length j) ∧ Hid (Below w1.heap.size w1 wr)) (fun _ _ s7 _ => pn - (intOf s7).toNat)
          case atStart => exact ⟨0, 0, n, rfl, rfl, rfl, by omega, hid (by simp [bnd, HL.out.1]), hid (fun j hj => by omega), hid (by repeat (first | with_reducible assumption | with_reducible exact Below.refl _ _ | with_reducible refine below_drewN ?_ _ | with_reducible refine Below.al ?_ (by first | with_reducible exact Nat.le_refl _ | omega | (simp; done) | (simp; omega) | exact Nat.le_refl _) _ | with_reducible refine Below.setCell ?_ (by first | with_reducible exact Nat.le_refl _ | omega | (simp; done) | (simp; omega) | exact Nat.le_refl _) _ | assumption | exact Below.refl _ _ | refine below_drewN ?_ _ | refine Below.al ?_ (by first | with_reducible exact Nat.le_refl _ | omega | (simp; done) | (simp; omega) | exact Nat.le_refl _) _ | refine Below.setCell ?_ (by first | with_reducible exact Nat.le_refl _ | omega | (simp; done) | (simp; omega) | exact Nat.le_refl _) _))⟩
          case round =>
            obtain ⟨k, l, h, rfl, rfl, rfl, hk, HBN, HT, HW⟩ := hrel
            have hzw := HW.out.size
            have HWW := hid (HB.out.trans (HW.out.mono (show w.heap.size ≤ w1.heap.size by omega)))
            by_cases hlt : k < pn
            · replace c0 : wr.cell? ⟨w.heap.size, 0, none⟩ = some (.int .i64 ar) := by rw [(bcell HW.out).1 _ _ hz1]; exact c0
              replace c1 : wr.cell? ⟨w.heap.size, 1, none⟩ = some (.slice a n c) := by rw [(bcell HW.out).1 _ _ hz1]; exact c1
              replace c2 : wr.cell? ⟨w.heap.size, 2, none⟩ = some (.slice la ln lc) := by rw [(bcell HW.out).1 _ _ hz1]; exact c2
              replace c3 : wr.cell? ⟨w.heap.size, 3, none⟩ = some (.slice ga gn gc) := by rw [(bcell HW.out).1 _ _ hz1]; exact c3
              replace c4 : wr.cell? ⟨w.heap.size, 4, none⟩ = some (.slice pa pn pc) := by rw [(bcell HW.out).1 _ _ hz1]; exact c4
              have hIr := beIter HI1.out HW.out (show hi ≤ w1.heap.size by omega)
              have hbo := bnd_ok (rows := rows) (low := lw) (high := gh) (pos := ps) (n := ps.length) (k := k) (by rw [HL.out.2.2.2]; exact hlt) HT.out
              rw [HBN.out] at hbo
              have hlh : l ≤ h := hbo.1
              have hhn : h ≤ n := by have := hbo.2; rw [HL.out.1] at this; exact this
              have HBO := hid hbo; clear hbo
              obtain ⟨lb, lo', rfl, d1, _⟩ := intsAt hIr.2.1 (show k < ln by have := HE.out; omega)
              obtain ⟨gb, go', rfl, d2, _⟩ := intsAt hIr.2.2.1 (show k < gn by have := HE.out; omega)
              obtain ⟨pb, po', rfl, d3, i3⟩ := intsAt hIr.2.2.2 hlt
              have hkln : k < ln := by have := HE.out; omega
              have hkgn : k < gn := by have := HE.out; omega
              have HIR := hid hIr; clear hIr
              have hfail : ¬ LevOK rows lw gh ps ps.length k → validIt ar rows lw gh ps = false := fun hn => validIt_lev (by rw [HL.out.2.2.2]; exact hlt) hn
              have HFA := hid hfail; clear hfail
              generalize hxl : ix lw k = xl at *
              generalize hxg : ix gh k = xg at *
              generalize hxp : ix ps k = xp at *
              have HX := hid (And.intro hxl (And.intro hxg hxp)); clear hxl hxg hxp
              have hlev : LevOK rows lw gh ps ps.length k ↔ (xl = l ∧ xg = h ∧ ((l : Int) ≤ xp ∧ xp ≤ h) ∧ (xp = h → k + 1 = pn) ∧ ((l : Int) < xp → xp < h → kx rows (px ps k - 1) k ≠ kx rows (px ps k) k)) := by
                unfold LevOK; rw [HBN.out, HX.out.1, HX.out.2.1, HX.out.2.2, HL.out.2.2.2]
              have HLEV := hid hlev; clear hlev
              by_cases f1 : xl = l
              · have hb3 : (xl != (l : Int)) = false := by simp [f1]
                by_cases f2 : xg = h
                · have hb4 : (xg != (h : Int)) = false := by simp [f2]
                  by_cases f3 : (l : Int) ≤ xp ∧ xp ≤ h
                  · have hd : decide ((l : Int) ≤ xp ∧ xp ≤ h) = true := by simpa using f3
                    obtain ⟨p, hp⟩ : ∃ p : Nat, xp = p := ⟨xp.toNat, by omega⟩
                    have hpx : px ps k = p := by unfold px; rw [HX.out.2.2, hp]; rfl
                    subst hp
                    have HP := hid hpx; clear hpx
                    have hpl : l ≤ p := by omega
                    have hph : p ≤ h := by omega
                    have hw1 : IntKind.i64.wrap ((pn : Int) - 1) = (pn : Int) - 1 := IntWalk.i64_in _ (by omega)
                    by_cases f4 : p = h ∧ ¬ k + 1 = pn
                    · have hb5 : ((p : Int) == (h : Int)) = true := by simp [f4.1]
                      have hb6 : decide ((k : Int) < (pn : Int) - 1) = true := by simp; omega
                      have hb7 : (k : Int) < (pn : Int) - 1 := by omega
                      have HF := hid (HFA.out (fun g => f4.2 ((HLEV.out.1 g).2.2.2.1 (by omega))))
                      have H4 := hid (And.intro f1 (And.intro f2 f4)); clear f1 f2 f4
                      go_wp2_with fail
                      refine (specIn (p : Int) l h _).mono ?_
                      rintro e w3 ⟨rfl, m3, rfl⟩
                      rw [hd]
                      go_wp2_with fail
                      go_ret
                      exact ⟨by rw [HF.out]; rfl, below_drewN HWW.out _⟩
                    · have hc5 : ((p : Int) == (h : Int)) = false ∨ (((p : Int) == (h : Int)) = true ∧ ¬ (k : Int) < (pn : Int) - 1) := by
                        by_cases g : p = h
                        · right; exact ⟨by simp [g], by omega⟩
                        · left; simp; omega
                      obtain ⟨fb, hfb⟩ : ∃ fb, firstF rows k p l h = fb := ⟨_, rfl⟩
                      have HFB := hid hfb; clear hfb
                      have hrow : ∀ i, i < n → k < (rx rows i).length := fun i hi' => HRL.out i k hi' hlt
                      have HROW := hid hrow; clear hrow
                      cases fb with
                      | false =>
                        have HF := hid (HFA.out (fun g => by
                          have g2 := (HLEV.out.1 g).2.2.2.2
                          rw [HP.out] at g2
                          have g3 := HFB.out
                          simp only [firstF, decide_eq_false_iff_not] at g3
                          have g4 : p ≠ l := fun e => g3 (.inl e)
                          have g5 : p ≠ h := fun e => g3 (.inr (.inl e))
                          exact g2 (by omega) (by omega) (by
                            by_cases g6 : kx rows p k = kx rows (p - 1) k
                            · exact g6.symm
                            · exact absurd (.inr (.inr g6)) g3)))
                        have H4 := hid (And.intro f1 (And.intro f2 f4)); clear f1 f2 f4
                        rcases hc5 with hc5 | ⟨hc5, hc6⟩
                        all_goals
                          go_wp2_with fail
                          refine (specIn (p : Int) l h _).mono ?_
                          rintro e w3 ⟨rfl, m3, rfl⟩
                          rw [hd]
                          go_wp2_with fail
                          refine (specFirst ar a n c rows _ ln lc lw _ gn gc gh _ pn pc ps k p l h _ (kpIter HIR.out (by repeat (first | assumption | exact Keeps.refl _ _ _ | exact HB.out.1 | refine Keeps.dr ?_ _ | refine Keeps.sc ?_ (by first | omega | (simp; done) | (simp; omega)) _ | refine Keeps.al ?_ (by first | with_reducible exact Nat.le_refl _ | omega | (simp; done) | (simp; omega) | exact Nat.le_refl _) _))) (by show hi ≤ wr.heap.size; omega) hkln hkgn hlt (by rw [HX.out.1]; exact H4.out.1) (by rw [HX.out.2.1]; exact H4.out.2.1) HX.out.2.2 hpl hph hhn HROW.out).mono ?_
                          rintro e w4 ⟨rfl, hb4'⟩
                          rw [HFB.out]
                          have HW4 : Hid (Below w.heap.size w w4) := hid (Below.trans (B := w.heap.size) (below_drewN HWW.out _) (hb4'.mono (by show w.heap.size ≤ wr.heap.size; omega)))
                          clear hb4'
                          go_wp2_with fail
                          go_ret
                          exact ⟨by rw [HF.out]; rfl, HW4.out⟩
                      | true =>
                        have hlk : LevOK rows lw gh ps ps.length k := HLEV.out.2 ⟨f1, f2, f3, fun g => by
                          by_cases g5 : k + 1 = pn
                          · exact g5
                          · exact absurd ⟨by omega, g5⟩ f4, fun g1 g2 => by
                            rw [HP.out]
                            have g3 := HFB.out
                            simp only [firstF, decide_eq_true_eq] at g3
                            rcases g3 with g3 | g3 | g3
                            · omega
                            · omega
                            · exact fun e => g3 e.symm⟩
                        have HT2 : Hid (∀ j, j < k + 1 → LevOK rows lw gh ps ps.length j) := hid (by
                          intro j hj
                          by_cases ej : j = k
                          · subst ej; exact hlk
                          · exact HT.out j (by omega))
                        have HBN2 : Hid (bnd rows ps (k + 1) = (p, grpEnd rows k p h)) := hid (by simp only [bnd]; rw [HP.out, HBN.out])
                        have H4 := hid (And.intro f1 (And.intro f2 (And.intro f4 hlk))); clear f1 f2 f4 hlk
                        rcases hc5 with hc5 | ⟨hc5, hc6⟩
                        all_goals
                          go_wp2_with fail
                          refine (specIn (p : Int) l h _).mono ?_
                          rintro e w3 ⟨rfl, m3, rfl⟩
                          rw [hd]
                          go_wp2_with fail
                          refine (specFirst ar a n c rows _ ln lc lw _ gn gc gh _ pn pc ps k p l h _ (kpIter HIR.out (by repeat (first | assumption | exact Keeps.refl _ _ _ | exact HB.out.1 | refine Keeps.dr ?_ _ | refine Keeps.sc ?_ (by first | omega | (simp; done) | (simp; omega)) _ | refine Keeps.al ?_ (by first | with_reducible exact Nat.le_refl _ | omega | (simp; done) | (simp; omega) | exact Nat.le_refl _) _))) (by show hi ≤ wr.heap.size; omega) hkln hkgn hlt (by rw [HX.out.1]; exact H4.out.1) (by rw [HX.out.2.1]; exact H4.out.2.1) HX.out.2.2 hpl hph hhn HROW.out).mono ?_
                          rintro e w4 ⟨rfl, hb4'⟩
                          rw [HFB.out]
                          have hzz : w.heap.size < wr.heap.size := by omega
                          replace c0 : w4.cell? ⟨w.heap.size, 0, none⟩ = some (.int .i64 ar) := by rw [(bcell hb4').1 _ _ hzz]; exact c0
                          replace c1 : w4.cell? ⟨w.heap.size, 1, none⟩ = some (.slice a n c) := by rw [(bcell hb4').1 _ _ hzz]; exact c1
                          replace c2 : w4.cell? ⟨w.heap.size, 2, none⟩ = some (.slice (some ⟨lb, lo', none⟩) ln lc) := by rw [(bcell hb4').1 _ _ hzz]; exact c2
                          replace c3 : w4.cell? ⟨w.heap.size, 3, none⟩ = some (.slice (some ⟨gb, go', none⟩) gn gc) := by rw [(bcell hb4').1 _ _ hzz]; exact c3
                          replace c4 : w4.cell? ⟨w.heap.size, 4, none⟩ = some (.slice (some ⟨pb, po', none⟩) pn pc) := by rw [(bcell hb4').1 _ _ hzz]; exact c4
                          have hI4 := beIter (kpIter (w' := wr.drewN m3) HIR.out (by repeat (first | assumption | exact Keeps.refl _ _ _ | exact HB.out.1 | refine Keeps.dr ?_ _ | refine Keeps.sc ?_ (by first | omega | (simp; done) | (simp; omega)) _ | refine Keeps.al ?_ (by first | with_reducible exact Nat.le_refl _ | omega | (simp; done) | (simp; omega) | exact Nat.le_refl _) _))) hb4' (by show hi ≤ wr.heap.size; omega)
                          replace d2 := intsCell hI4.2.2.1 hkgn
                          replace d3 := intsCell hI4.2.2.2 hlt
                          rw [HX.out.2.1, H4.out.2.1] at d2
                          rw [HX.out.2.2] at d3
                          clear d1
                          have HI4 := hid hI4; clear hI4
                          have HW4 : Hid (Below w1.heap.size w1 w4) := hid (Below.trans (B := w1.heap.size) (below_drewN HW.out _) (hb4'.mono (by show w1.heap.size ≤ wr.heap.size; omega)))
                          clear hb4'
                          go_wp2_with fail
                          go_loopw [5] (fun s5 wx => ∃ q : Nat, s5 = .int .i64 q ∧ p ≤ q ∧ q ≤ h ∧ Hid (∀ i, p ≤ i → i < q → kx rows i k = kx rows p k) ∧ Hid (∃ m, wx = w4.drewN m)) (fun s5 _ => h - (intOf s5).toNat)
                          case atStart => exact ⟨p, rfl, Nat.le_refl _, hph, hid (fun i g1 g2 => by omega), hid ⟨0, rfl⟩⟩
                          case round =>
                            obtain ⟨q, rfl, hq1, hq2, HTQ, HD⟩ := hrel
                            have c0' : wr.cell? ⟨w.heap.size, 0, none⟩ = some (.int .i64 ar) := by obtain ⟨m, rfl⟩ := HD.out; exact c0
                            have c1' : wr.cell? ⟨w.heap.size, 1, none⟩ = some (.slice a n c) := by obtain ⟨m, rfl⟩ := HD.out; exact c1
                            have c3' : wr.cell? ⟨w.heap.size, 3, none⟩ = some (.slice (some ⟨gb, go', none⟩) gn gc) := by obtain ⟨m, rfl⟩ := HD.out; exact c3
                            have d2' : wr.cell? ⟨gb, go' + k, none⟩ = some (.int .i64 h) := by obtain ⟨m, rfl⟩ := HD.out; exact d2
                            have hrx : RowsA fz lo hi wr a n c rows := SlA.keep intsOK HI4.out.1.2 (keeps_dr lo hi HD.out)
                            have HRX := hid hrx; clear hrx
                            have HWX : ∀ m, Hid (Below w1.heap.size w1 (wr.drewN m)) := fun m => hid (by obtain ⟨m', rfl⟩ := HD.out; exact below_drewN (below_drewN HW4.out _) _)
                            have HWXH := hid HWX; clear HWX
                            by_cases hqh : q < h
                            · have hdq : decide ((q : Int) < (h : Int)) = true := by simp; omega
                              have hpn : p < n := by omega
                              have hqn : q < n := by omega
                              obtain ⟨b, off, rfl⟩ := RowsA.some HRX.out (show 0 < n by omega)
                              obtain ⟨b2, off2, rn, rc, y0, y1, y2, y3, y4, _⟩ := rowsKey HRX.out hpn (HROW.out p hpn)
                              obtain ⟨b5, off5, rn4, rc4, z0, z1, z2, z3, z4, _⟩ := rowsKey HRX.out hqn (HROW.out q hqn)
                              generalize hk1 : kx rows p k = v1 at *
                              generalize hk2 : kx rows q k = v2 at *
                              have HKK := hid (And.intro hk1 hk2); clear hk1 hk2
                              by_cases f7 : v2 = v1
                              · have hb8 : (v2 == v1) = true := by simp [f7]
                                have HTQ2 : Hid (∀ i, p ≤ i → i < q + 1 → kx rows i k = v1) := hid (fun i g1 g2 => by
                                  by_cases e : i = q
                                  · subst e; rw [HKK.out.2]; exact f7
                                  · exact HTQ.out i g1 (by omega))
                                have H7 := hid f7; clear f7
                                go_wp2_with fail
                                go_quiet (fail)
                                go_wp2_with fail
                                go_roundw
                                case rel => exact ⟨q + 1, by go_num, by omega, by omega, HTQ2, hid (by first | exact HD.out | exact dr_more HD.out _ | (rw [dd]; exact dr_more HD.out _) | (rw [dd, dd]; exact dr_more HD.out _) | exact ⟨_, rfl⟩ | exact ⟨_, dd⟩)⟩
                                case measure => simp [intOf]; omega
                              · have hb8 : (v2 == v1) = false := by simp [f7]
                                have HG := hid (grpEnd_eq (rows := rows) (k := k) (p := p) (hi := h) hq2 hq1 (by rw [HKK.out.1]; exact HTQ.out) (fun _ => by rw [HKK.out.1, HKK.out.2]; exact f7))
                                have H7 := hid f7; clear f7
                                go_wp2_with fail
                                go_quiet (fail)
                                go_wp2_with fail
                                go_roundw
                                case rel => exact ⟨k + 1, p, q, by go_num, rfl, rfl, by omega, by rw [← HG.out]; exact HBN2, HT2, HWXH.out _⟩
                                case measure => simp [intOf]; omega
                            · have hdq : decide ((q : Int) < (h : Int)) = false := by simp; omega
                              have HG := hid (grpEnd_eq (rows := rows) (k := k) (p := p) (hi := h) hq2 hq1 HTQ.out (fun g => by omega))
                              go_wp2_with fail
                              go_quiet (fail)
                              go_wp2_with fail
                              go_roundw
                              case rel => exact ⟨k + 1, p, q, by go_num, rfl, rfl, by omega, by rw [← HG.out]; exact HBN2, HT2, HWXH.out _⟩
                              case measure => simp [intOf]; omega
                  · have hd : decide ((l : Int) ≤ xp ∧ xp ≤ h) = false := by simpa using f3
                    have HF := hid (HFA.out (fun g => f3 (HLEV.out.1 g).2.2.1))
                    have H1 := hid (And.intro f1 (And.intro f2 f3)); clear f1 f2 f3
                    go_wp2_with fail
                    refine (specIn xp l h _).mono ?_
                    rintro e w3 ⟨rfl, m3, rfl⟩
                    rw [hd]
                    go_wp2_with fail
                    go_ret
                    exact ⟨by rw [HF.out]; rfl, below_drewN HWW.out _⟩
                · have hb4 : (xg != (h : Int)) = true := by simp [f2]
                  have HF := hid (HFA.out (fun g => f2 (HLEV.out.1 g).2.1))
                  have H1 := hid (And.intro f1 f2); clear f1 f2
                  go_wp2_with fail
                  go_ret
                  exact ⟨by rw [HF.out]; rfl, HWW.out⟩
              · have hb3 : (xl != (l : Int)) = true := by simp [f1]
                have HF := hid (HFA.out (fun g => f1 (HLEV.out.1 g).1))
                have H1 := hid f1; clear f1
                go_wp2_with fail
                go_ret
                exact ⟨by rw [HF.out]; rfl, HWW.out⟩
            · have HF := hid (HYES.out (fun j hj => HT.out j (by omega)))
              go_wp2_with fail
              go_ret
              exact ⟨by rw [HF.out]; rfl, HWW.out⟩
        · have hb2 : ((gn : Int) != (pn : Int)) = true := by rw [bne_iff_ne]; omega
          have HF := hid (HNO.out True (fun h => e2 (by rw [← HL.out.2.2.1, ← HL.out.2.2.2]; exact h.2.1)))
          have HE := hid (And.intro e1 e2); clear e1 e2
          go_wp2_with fail
          go_ret
          exact ⟨by rw [HF.out]; rfl, HB.out⟩
      · have hb1 : ((ln : Int) != (pn : Int)) = true := by rw [bne_iff_ne]; omega
        have HF := hid (HNO.out True (fun h => e1 (by rw [← HL.out.2.1, ← HL.out.2.2.2]; exact h.1)))
        have HE := hid e1; clear e1
        go_wp2_with fail
        go_ret
        exact ⟨by rw [HF.out]; rfl, HB.out⟩
    · have HF := hid (HNO.out True (fun h => e3 (by rw [← HL.out.2.2.2]; exact h.2.2)))
      go_wp2_with fail
      go_ret
      exact ⟨by rw [HF.out]; rfl, HB.out⟩
end Go.Proofs.Ythochdlbmaiclaa
