/- The walk of the reference's test of a query. -/
import Derived.Test.YtalfldflnacpeaaB3
namespace Go.Proofs.Ytalfldflnacpeaa
set_option linter.unusedSimpArgs false
set_option linter.unusedVariables false
open Go.RowKit
set_option maxRecDepth 100000 in
set_option maxHeartbeats 6400000 in
theorem specValidQ {fz : Bool} {lo hi : Nat} (nv : Int) (a : Option Addr) (n c : Nat) (xs : List AtomD) (ua : Option Addr) (un uc : Nat) (us : List Int) (w : World) (hI : QueryA fz lo hi w nv a n c xs ua un uc us) (hh : hi ≤ w.heap.size) :
    Calls Try.prog 29 #[queryV nv a n c ua un uc] w (Leaves w (.bool (qOK nv xs us))) := by
  have hlx := hI.2.1.len
  have hsx := hI.2.1.small
  have hsu := hI.2.2.small
  have hlu := hI.2.2.len
  have huc := hI.2.2.2.1
  have hum := hI.2.2.2.2.1
  have HL := hid (And.intro hlx hlu); clear hlx hlu
  obtain ⟨W, hW⟩ : ∃ W, W = w.alloc (.cells #[.int .i64 nv, .slice a n c, .slice ua un uc] 27) := ⟨_, rfl⟩
  have hBW : Below w.heap.size w W := by rw [hW]; exact (by repeat (first | with_reducible assumption | with_reducible exact Below.refl _ _ | with_reducible refine below_drewN ?_ _ | with_reducible refine Below.al ?_ (by first | with_reducible exact Nat.le_refl _ | omega | (simp; done) | (simp; omega) | exact Nat.le_refl _) _ | with_reducible refine Below.setCell ?_ (by first | with_reducible exact Nat.le_refl _ | omega | (simp; done) | (simp; omega) | exact Nat.le_refl _) _ | assumption | exact Below.refl _ _ | refine below_drewN ?_ _ | refine Below.al ?_ (by first | with_reducible exact Nat.le_refl _ | omega | (simp; done) | (simp; omega) | exact Nat.le_refl _) _ | refine Below.setCell ?_ (by first | with_reducible exact Nat.le_refl _ | omega | (simp; done) | (simp; omega) | exact Nat.le_refl _) _))
  have hz : w.heap.size < W.heap.size := by rw [hW]; simp
  have c0 : W.cell? ⟨w.heap.size, 0, none⟩ = some (.int .i64 nv) := by rw [hW]; simp
  have c1 : W.cell? ⟨w.heap.size, 1, none⟩ = some (.slice a n c) := by rw [hW]; simp
  have c2 : W.cell? ⟨w.heap.size, 2, none⟩ = some (.slice ua un uc) := by rw [hW]; simp
  have HI := hid (beQuery hI hBW hh)
  have HW := hid (And.intro hW hBW); clear hW hBW hI
  by_cases h1 : 1 ≤ nv ∧ nv ≤ 5
  · have hd1 : decide (1 ≤ nv ∧ nv ≤ 5) = true := by simpa using h1
    obtain ⟨m, rfl⟩ := Int.eq_ofNat_of_zero_le (show 0 ≤ nv by omega)
    have hm1 : 1 ≤ m := by omega
    have hm5 : m ≤ 5 := by omega
    by_cases h2 : (1 : Int) ≤ n ∧ (n : Int) ≤ 4
    · have hd2 : decide ((1 : Int) ≤ n ∧ (n : Int) ≤ 4) = true := by simpa using h2
      by_cases h3 : un ≤ m
      · have HHD : Hid (HeadOK m xs.length) := hid ⟨h1, by have := HL.out.1; omega⟩
        have hn4 : n ≤ 4 := by omega
        have H12 := hid (And.intro h1 h2); clear h1 h2
        have hw1 : IntKind.i64.wrap ((m : Int) - 1) = (m : Int) - 1 := IntWalk.i64_in _ (by omega)
        go_enter Try.func29, Try.ntmps29
        go_upto_region 1 with fail
        rw [← HW.out.1]
        go_wp2_with fail
        refine (specIn (m : Int) 1 5 _).mono ?_
        rintro e w1 ⟨rfl, m1, rfl⟩
        rw [hd1]
        go_wp2_with fail
        refine (specIn (n : Int) 1 4 _).mono ?_
        rintro e w2 ⟨rfl, m2, rfl⟩
        rw [hd2]
        go_wp2_with fail
        simp only [show ∀ (inst : Decidable (m < un)), @decide (m < un) inst = false from fun inst => decide_eq_false (by omega)]
        go_loopw [3] (fun s wr => ∃ i : Nat, s = .int .i64 i ∧ i ≤ n ∧ Hid (∀ j, j < i → AtomOK m (ax xs j)) ∧ Hid (Below W.heap.size W wr)) (fun s _ => n - (intOf s).toNat)
        case atStart => exact ⟨0, rfl, by omega, hid (fun j hj => by omega), hid (by repeat (first | with_reducible assumption | with_reducible exact Below.refl _ _ | with_reducible refine below_drewN ?_ _ | with_reducible refine Below.al ?_ (by first | with_reducible exact Nat.le_refl _ | omega | (simp; done) | (simp; omega) | exact Nat.le_refl _) _ | with_reducible refine Below.setCell ?_ (by first | with_reducible exact Nat.le_refl _ | omega | (simp; done) | (simp; omega) | exact Nat.le_refl _) _ | assumption | exact Below.refl _ _ | refine below_drewN ?_ _ | refine Below.al ?_ (by first | with_reducible exact Nat.le_refl _ | omega | (simp; done) | (simp; omega) | exact Nat.le_refl _) _ | refine Below.setCell ?_ (by first | with_reducible exact Nat.le_refl _ | omega | (simp; done) | (simp; omega) | exact Nat.le_refl _) _))⟩
        case round =>
          obtain ⟨i, rfl, hin, HAO, HB⟩ := hrel
          have hzr := HB.out.size
          have d0 : wr.cell? ⟨w.heap.size, 0, none⟩ = some (.int .i64 m) := by rw [(bcell HB.out).1 _ _ hz]; exact c0
          have d1 : wr.cell? ⟨w.heap.size, 1, none⟩ = some (.slice a n c) := by rw [(bcell HB.out).1 _ _ hz]; exact c1
          by_cases hlt : i < n
          · have hAr := beAtoms HI.out.2.1 HB.out (by omega)
            obtain ⟨b, off, rfl⟩ := atomsSome hAr (by omega)
            obtain ⟨_, _, hsz, ra, rn, rc, y0, y1, hr, _⟩ := atomsAt hAr hlt
            have hrl := hr.len
            have hrs := hr.small
            have HR := hid (And.intro hAr hr); clear hAr hr
            have HRL := hid hrl; clear hrl
            obtain ⟨nb, hnb⟩ : ∃ nb, nameOK (ax xs i).nm = nb := ⟨_, rfl⟩
            have HNB := hid hnb; clear hnb
            obtain ⟨nm, hnm⟩ : ∃ nm, nm = (ax xs i).nm := ⟨_, rfl⟩
            rw [← hnm] at y0 hsz
            have HNM := hid hnm; clear hnm
            have HFA := hid (fun (hn : ¬ AtomOK m (ax xs i)) => qOK_atom (us := us) (by rw [HL.out.1]; exact hlt) hn)
            have HNC := hid (fun w' => by have := specName nm w' hsz; rwa [show nameOK nm = nb by rw [HNM.out]; exact HNB.out] at this)
            cases nb with
            | false =>
              have HF := hid (HFA.out (fun g => by have := g.1; rw [HNB.out] at this; cases this))
              go_wp2_with fail
              refine (HNC.out _).mono ?_
              rintro e w5 ⟨rfl, hb5⟩
              have HB5 := hid (Below.calm HB.out hb5); clear hb5
              go_wp2_with fail
              go_ret
              exact ⟨by rw [HF.out]; rfl, HW.out.2.trans (HB5.out.mono (by omega))⟩
            | true =>
              go_wp2_with fail
              refine (HNC.out _).mono ?_
              rintro e w5 ⟨rfl, hb5⟩
              have hzz : w.heap.size < wr.heap.size := by omega
              have hbw : b < wr.heap.size := World.block_lt_of_cell? _ _ y0
              replace d0 : w5.cell? ⟨w.heap.size, 0, none⟩ = some (.int .i64 m) := by rw [(bcell hb5).1 _ _ hzz]; exact d0
              replace d1 : w5.cell? ⟨w.heap.size, 1, none⟩ = some (.slice (some ⟨b, off, none⟩) n c) := by rw [(bcell hb5).1 _ _ hzz]; exact d1
              replace y1 : w5.cell? ⟨b, off + i * 2 + 1, none⟩ = some (.slice ra rn rc) := by rw [(bcell hb5).1 _ _ hbw]; exact y1
              have HB5 := hid (Below.calm HB.out hb5)
              have HR5 := hid (beInts HR.out.2 hb5 (by omega))
              clear hb5 y0
              by_cases h5 : (1 : Int) ≤ rn ∧ (rn : Int) ≤ 5
              · have hd5 : decide ((1 : Int) ≤ rn ∧ (rn : Int) ≤ 5) = true := by simpa using h5
                have H5 := hid h5; clear h5
                go_wp2_with fail
                refine (specIn (rn : Int) 1 5 _).mono ?_
                rintro e w6 ⟨rfl, m6, rfl⟩
                rw [hd5]
                go_wp2_with fail
                go_loopw [4] (fun s wr => ∃ j : Nat, s = .int .i64 j ∧ j ≤ rn ∧ Hid (∀ q, q < j → 0 ≤ ix (ax xs i).vs q ∧ ix (ax xs i).vs q ≤ (m : Int) - 1) ∧ Hid (∃ q, wr = w5.drewN q)) (fun s _ => rn - (intOf s).toNat)
                case atStart => exact ⟨0, rfl, by omega, hid (fun q hq => by omega), hid ⟨_, rfl⟩⟩
                case round =>
                  obtain ⟨j, rfl, hj, HVV, HD⟩ := hrel
                  have d0' : wr.cell? ⟨w.heap.size, 0, none⟩ = some (.int .i64 m) := by obtain ⟨q, rfl⟩ := HD.out; exact d0
                  have d1' : wr.cell? ⟨w.heap.size, 1, none⟩ = some (.slice (some ⟨b, off, none⟩) n c) := by obtain ⟨q, rfl⟩ := HD.out; exact d1
                  have y1' : wr.cell? ⟨b, off + i * 2 + 1, none⟩ = some (.slice ra rn rc) := by obtain ⟨q, rfl⟩ := HD.out; exact y1
                  have hbx : ∀ q, Below W.heap.size W (wr.drewN q) := by obtain ⟨q, rfl⟩ := HD.out; exact fun q' => below_drewN (below_drewN HB5.out _) _
                  have HBX := hid hbx; clear hbx
                  by_cases hltj : j < rn
                  · obtain ⟨vb, vo, rfl, x0, _⟩ := intsAtB (kpInts HR5.out (keeps_dr _ _ HD.out)) hltj
                    obtain ⟨x, hx⟩ : ∃ x, ix (ax xs i).vs j = x := ⟨_, rfl⟩
                    rw [hx] at x0
                    have hcI := hid (fun w' => specIn x 0 ((m : Int) - 1) w')
                    by_cases h6 : 0 ≤ x ∧ x ≤ (m : Int) - 1
                    · have HC : Hid (∀ w', Calls Try.prog 54 #[.int .i64 x, .int .i64 0, .int .i64 ((m : Int) - 1)] w' (Gives w' (.bool true))) := hid (fun w' => by have := hcI.out w'; rwa [show decide (0 ≤ x ∧ x ≤ (m : Int) - 1) = true by simpa using h6] at this)
                      have HVV2 : Hid (∀ q, q < j + 1 → 0 ≤ ix (ax xs i).vs q ∧ ix (ax xs i).vs q ≤ (m : Int) - 1) := hid (fun q' hq' => by
                        by_cases e : q' = j
                        · subst e; rw [hx]; exact h6
                        · exact HVV.out q' (by omega))
                      have H6 := hid (And.intro h6 hx); clear h6 hx
                      go_wp2_with fail
                      go_quiet ((go_at_call 54; exact (Calls.quiet_of (HC.out _))))
                      go_wp2_with fail
                      go_roundw
                      case rel => exact ⟨j + 1, by go_num, by omega, HVV2, hid (by first | exact HD.out | exact dr_more HD.out _ | (rw [dd]; exact dr_more HD.out _) | (rw [dd, dd]; exact dr_more HD.out _) | exact ⟨_, rfl⟩ | exact ⟨_, dd⟩)⟩
                      case measure => simp [intOf]; omega
                    · have HC : Hid (∀ w', Calls Try.prog 54 #[.int .i64 x, .int .i64 0, .int .i64 ((m : Int) - 1)] w' (Gives w' (.bool false))) := hid (fun w' => by have := hcI.out w'; rwa [show decide (0 ≤ x ∧ x ≤ (m : Int) - 1) = false by simpa using h6] at this)
                      have HF := hid (HFA.out (fun g => h6 (by have := g.2.2 j (by rw [HRL.out]; exact hltj); rwa [hx] at this)))
                      have H6 := hid (And.intro h6 hx); clear h6 hx
                      go_wp2_with fail
                      go_quiet ((go_at_call 54; exact (Calls.quiet_of (HC.out _))))
                      go_wp2_with fail
                      go_ret
                      exact ⟨by rw [HF.out]; rfl, HW.out.2.trans ((HBX.out _).mono (by omega))⟩
                  · have HAO2 : Hid (∀ q, q < i + 1 → AtomOK m (ax xs q)) := hid (fun q hq => by
                      by_cases e : q = i
                      · subst e; exact ⟨HNB.out, by have := HRL.out; have := H5.out; omega, fun t ht => HVV.out t (by have := HRL.out; omega)⟩
                      · exact HAO.out q (by omega))
                    go_wp2_with fail
                    go_roundw
                    case rel => exact ⟨i + 1, by go_num, by omega, HAO2, hid (HBX.out 0)⟩
                    case measure => simp [intOf]; omega
              · have hd5 : decide ((1 : Int) ≤ rn ∧ (rn : Int) ≤ 5) = false := by simpa using h5
                have HF := hid (HFA.out (fun g => h5 (by have g2 := g.2.1; have := HRL.out; omega)))
                have H5 := hid h5; clear h5
                go_wp2_with fail
                refine (specIn (rn : Int) 1 5 _).mono ?_
                rintro e w6 ⟨rfl, m6, rfl⟩
                rw [hd5]
                go_wp2_with fail
                go_ret
                exact ⟨by rw [HF.out]; rfl, HW.out.2.trans ((below_drewN HB5.out _).mono (by omega))⟩
          · have HAE : Hid (∀ j, j < xs.length → AtomOK m (ax xs j)) := hid (fun j hj => HAO.out j (by have := HL.out.1; omega))
            have HBA := hid (HW.out.2.trans (HB.out.mono (show w.heap.size ≤ W.heap.size by omega)))
            have HIA := hid (beQuery HI.out HB.out (by omega))
            obtain ⟨wz, hwz⟩ : ∃ wz, wz = wr.heap.size := ⟨_, rfl⟩
            have hzz : w.heap.size < wz := by omega
            go_wp2_with fail
            go_loopw [5] (fun s w2 => ∃ v : Nat, s = .int .i64 v ∧ v ≤ m ∧ Hid (∀ u, u < v → ∃ i, i < xs.length ∧ occ (ax xs i).vs u = true) ∧ Hid (Below W.heap.size W w2)) (fun s _ => m - (intOf s).toNat)
            case atStart => exact ⟨0, rfl, by omega, hid (fun j hj => by omega), HB⟩
            case round =>
              obtain ⟨v, rfl, hv, HCV, HB2⟩ := hrel
              have hz2 := HB2.out.size
              have e0 : wr.cell? ⟨w.heap.size, 0, none⟩ = some (.int .i64 m) := by rw [(bcell HB2.out).1 _ _ hz]; exact c0
              have e2 : wr.cell? ⟨w.heap.size, 2, none⟩ = some (.slice ua un uc) := by rw [(bcell HB2.out).1 _ _ hz]; exact c2
              by_cases hlt2 : v < m
              · go_wp2_with fail
                go_loopw [6, 7] (fun s6 s7 w3 => ∃ (b : Bool) (k : Nat), s6 = .bool b ∧ s7 = .int .i64 k ∧ k ≤ n ∧ Hid (b = true ↔ ∃ i', i' < k ∧ occ (ax xs i').vs v = true) ∧ Hid (Below W.heap.size W w3)) (fun _ s _ => n - (intOf s).toNat)
                case atStart => exact ⟨false, 0, rfl, rfl, by omega, hid (by simp), HB2⟩
                case round =>
                  obtain ⟨b, k, rfl, rfl, hk, HBK, HB3⟩ := hrel
                  have hz3 := HB3.out.size
                  have f0 : wr.cell? ⟨w.heap.size, 0, none⟩ = some (.int .i64 m) := by rw [(bcell HB3.out).1 _ _ hz]; exact c0
                  have f1 : wr.cell? ⟨w.heap.size, 1, none⟩ = some (.slice a n c) := by rw [(bcell HB3.out).1 _ _ hz]; exact c1
                  by_cases hlt3 : k < n
                  · cases b with
                    | true =>
                      have HBK2 : Hid (true = true ↔ ∃ i', i' < k + 1 ∧ occ (ax xs i').vs v = true) := hid ⟨fun _ => by obtain ⟨i', h1, h2⟩ := HBK.out.1 rfl; exact ⟨i', by omega, h2⟩, fun _ => rfl⟩
                      go_wp2_with fail
                      go_roundw
                      case rel => exact ⟨true, k + 1, rfl, by go_num, by omega, HBK2, HB3⟩
                      case measure => simp [intOf]; omega
                    | false =>
                      have hAr := beAtoms HI.out.2.1 HB3.out (by omega)
                      obtain ⟨b, off, rfl⟩ := atomsSome hAr (by omega)
                      obtain ⟨_, _, hsz, ra, rn, rc, y0, y1, hr, _⟩ := atomsAt hAr hlt3
                      have HR := hid hr; clear hr hAr
                      obtain ⟨nm, hnm⟩ : ∃ nm, nm = (ax xs k).nm := ⟨_, rfl⟩
                      rw [← hnm] at y0 hsz
                      have HNM := hid hnm; clear hnm
                      obtain ⟨ob, hob⟩ : ∃ ob, occ (ax xs k).vs v = ob := ⟨_, rfl⟩
                      have HBK2 : Hid (ob = true ↔ ∃ i', i' < k + 1 ∧ occ (ax xs i').vs v = true) := hid ⟨fun h => ⟨k, by omega, by rw [hob]; exact h⟩, fun ⟨i', h1, h2⟩ => by
                        by_cases e : i' = k
                        · subst e; rw [← hob]; exact h2
                        · exact absurd (HBK.out.2 ⟨i', by omega, h2⟩) (by simp)⟩
                      have HOB := hid hob; clear hob
                      go_wp2_with fail
                      refine (specHasVar nm ra rn rc (ax xs k).vs (v : Int) _ HR.out (by omega)).mono ?_
                      rintro e w5 ⟨rfl, hb5⟩
                      rw [HOB.out]
                      have HB5 := hid (Below.calm HB3.out hb5); clear hb5
                      go_wp2_with fail
                      go_roundw
                      case rel => exact ⟨ob, k + 1, rfl, by go_num, by omega, HBK2, HB5⟩
                      case measure => simp [intOf]; omega
                  · cases b with
                    | true =>
                      have HCV2 : Hid (∀ u, u < v + 1 → ∃ i, i < xs.length ∧ occ (ax xs i).vs u = true) := hid (fun u hu => by
                        by_cases e : u = v
                        · subst e; obtain ⟨i', h1, h2⟩ := HBK.out.1 rfl; exact ⟨i', by have := HL.out.1; omega, h2⟩
                        · exact HCV.out u (by omega))
                      go_wp2_with fail
                      go_roundw
                      case rel => exact ⟨v + 1, by go_num, by omega, HCV2, HB3⟩
                      case measure => simp [intOf]; omega
                    | false =>
                      have HF := hid (qOK_cov (us := us) (show ¬ CovOK (m : Int) xs from fun g => by obtain ⟨i, hi, ho⟩ := g v (by omega); exact absurd (HBK.out.2 ⟨i, by have := HL.out.1; omega, ho⟩) (by simp)))
                      go_wp2_with fail
                      go_ret
                      exact ⟨by rw [HF.out]; rfl, HW.out.2.trans (HB3.out.mono (by omega))⟩
              · have HCO : Hid (CovOK m xs) := hid (fun u hu => HCV.out u (by omega))
                have HO := hid (beInts HI.out.2.2 HB2.out (by omega))
                go_wp2_with fail
                go_loopw [8] (fun s w4 => ∃ j : Nat, s = .int .i64 j ∧ j ≤ un ∧ Hid (SetTo us m j) ∧ Hid (∃ q, w4 = wr.drewN q)) (fun s _ => un - (intOf s).toNat)
                case atStart => exact ⟨0, rfl, by omega, hid (fun q hq => by omega), hid ⟨0, rfl⟩⟩
                case round =>
                  obtain ⟨j, rfl, hj, HST, HD⟩ := hrel
                  have g0 : wr.cell? ⟨w.heap.size, 0, none⟩ = some (.int .i64 m) := by obtain ⟨q, rfl⟩ := HD.out; exact e0
                  have g2 : wr.cell? ⟨w.heap.size, 2, none⟩ = some (.slice ua un uc) := by obtain ⟨q, rfl⟩ := HD.out; exact e2
                  have hbx : ∀ q, Below W.heap.size W (wr.drewN q) := by obtain ⟨q, rfl⟩ := HD.out; exact fun q' => below_drewN (below_drewN HB2.out _) _
                  have HBX := hid hbx; clear hbx
                  by_cases hltj : j < un
                  · have HOj := hid (kpInts HO.out (keeps_dr _ _ HD.out))
                    have HJ := hid (HOj.out.take (j := j) (by omega))
                    obtain ⟨vb, vo, rfl, x0, hx6⟩ := intsAtB HOj.out hltj
                    obtain ⟨x, hx⟩ : ∃ x, ix us j = x := ⟨_, rfl⟩
                    rw [hx] at x0 hx6
                    have HX := hid hx; clear hx
                    have hcI := hid (fun w' => specIn x 0 ((m : Int) - 1) w')
                    by_cases h6 : 0 ≤ x ∧ x ≤ (m : Int) - 1
                    · have HC : Hid (∀ w', Calls Try.prog 54 #[.int .i64 x, .int .i64 0, .int .i64 ((m : Int) - 1)] w' (Gives w' (.bool true))) := hid (fun w' => by have := hcI.out w'; rwa [show decide (0 ≤ x ∧ x ≤ (m : Int) - 1) = true by simpa using h6] at this)
                      obtain ⟨f, hfe⟩ : ∃ f, findF (us.take j) x = f := ⟨_, rfl⟩
                      have HCF : Hid (∀ w', IntsA fz lo hi w' (some ⟨vb, vo, none⟩) j uc (us.take j) → Calls Try.prog 50 #[.slice (some ⟨vb, vo, none⟩) j uc, .int .i64 x] w' (Gives w' (.int .i64 f))) := hid (fun w' h => by have := specFind _ j uc (us.take j) x w' h; rwa [hfe] at this)
                      by_cases hf : 0 ≤ f
                      · have HF := hid (qOK_set (nv := (m : Int)) (xs := xs) (us := us) (fun g => (g j (by rw [HL.out.2]; exact hltj)).2 (by rw [HX.out, hfe]; exact hf)))
                        have H6 := hid h6; clear h6 hfe
                        go_wp2_with fail
                        go_quiet (first
                          | (go_at_call 54; exact (Calls.quiet_of (HC.out _)))
                          | (go_at_call 50; exact (Calls.quiet_of (HCF.out _ (HJ.out.drewN _)))))
                        go_wp2_with fail
                        go_ret
                        exact ⟨by rw [HF.out]; rfl, HW.out.2.trans ((HBX.out _).mono (by omega))⟩
                      · have HST2 := hid (HST.out.succ (by rw [HX.out, hfe]; exact ⟨h6, hf⟩))
                        have H6 := hid h6; clear h6 hfe
                        go_wp2_with fail
                        go_quiet (first
                          | (go_at_call 54; exact (Calls.quiet_of (HC.out _)))
                          | (go_at_call 50; exact (Calls.quiet_of (HCF.out _ (HJ.out.drewN _)))))
                        go_wp2_with fail
                        go_roundw
                        case rel => exact ⟨j + 1, by go_num, by omega, HST2, hid (by first | exact HD.out | exact dr_more HD.out _ | (rw [dd]; exact dr_more HD.out _) | (rw [dd, dd]; exact dr_more HD.out _) | exact ⟨_, rfl⟩ | exact ⟨_, dd⟩)⟩
                        case measure => simp [intOf]; omega
                    · have HC : Hid (∀ w', Calls Try.prog 54 #[.int .i64 x, .int .i64 0, .int .i64 ((m : Int) - 1)] w' (Gives w' (.bool false))) := hid (fun w' => by have := hcI.out w'; rwa [show decide (0 ≤ x ∧ x ≤ (m : Int) - 1) = false by simpa using h6] at this)
                      have HF := hid (qOK_set (nv := (m : Int)) (xs := xs) (us := us) (fun g => h6 (by have := (g j (by rw [HL.out.2]; exact hltj)).1; rwa [HX.out] at this)))
                      have H6 := hid h6; clear h6
                      go_wp2_with fail
                      go_quiet ((go_at_call 54; exact (Calls.quiet_of (HC.out _))))
                      go_wp2_with fail
                      go_ret
                      exact ⟨by rw [HF.out]; rfl, HW.out.2.trans ((HBX.out _).mono (by omega))⟩
                  · have HF := hid (qOK_yes HHD.out (show SetTo us (m : Int) us.length by have := HST.out; rwa [show j = us.length by have := HL.out.2; omega] at this) HAE.out HCO.out)
                    go_wp2_with fail
                    go_ret
                    exact ⟨by rw [HF.out]; rfl, HW.out.2.trans ((HBX.out 0).mono (by omega))⟩
      · have HF := hid (qOK_long (nv := (m : Int)) (xs := xs) (us := us) (by omega) (by have := HL.out.2; omega))
        have H12 := hid (And.intro h1 h2); clear h1 h2
        go_enter Try.func29, Try.ntmps29
        go_upto_region 1 with fail
        rw [← HW.out.1]
        go_wp2_with fail
        refine (specIn (m : Int) 1 5 _).mono ?_
        rintro e w1 ⟨rfl, m1, rfl⟩
        rw [hd1]
        go_wp2_with fail
        refine (specIn (n : Int) 1 4 _).mono ?_
        rintro e w2 ⟨rfl, m2, rfl⟩
        rw [hd2]
        go_wp2_with fail
        go_ret
        first | exact ⟨by rw [HF.out]; rfl, below_drewN HW.out.2 _⟩ | exact ⟨by rw [HF.out]; rfl, below_drewN (below_drewN HW.out.2 _) _⟩
    · have hd2 : decide ((1 : Int) ≤ n ∧ (n : Int) ≤ 4) = false := by simpa using h2
      have HF := hid (qOK_head (nv := (m : Int)) (xs := xs) (us := us) (fun g => h2 (by have := g.2; have := HL.out.1; omega)))
      have H12 := hid (And.intro h1 h2); clear h1 h2
      go_enter Try.func29, Try.ntmps29
      go_upto_region 1 with fail
      rw [← HW.out.1]
      go_wp2_with fail
      refine (specIn (m : Int) 1 5 _).mono ?_
      rintro e w1 ⟨rfl, m1, rfl⟩
      rw [hd1]
      go_wp2_with fail
      refine (specIn (n : Int) 1 4 _).mono ?_
      rintro e w2 ⟨rfl, m2, rfl⟩
      rw [hd2]
      go_wp2_with fail
      go_ret
      first | exact ⟨by rw [HF.out]; rfl, below_drewN HW.out.2 _⟩ | exact ⟨by rw [HF.out]; rfl, below_drewN (below_drewN HW.out.2 _) _⟩
  · have hd1 : decide (1 ≤ nv ∧ nv ≤ 5) = false := by simpa using h1
    have HF := hid (qOK_head (xs := xs) (us := us) (fun g => h1 g.1))
    go_enter Try.func29, Try.ntmps29
    go_upto_region 1 with fail
    rw [← HW.out.1]
    go_wp2_with fail
    refine (specIn nv 1 5 _).mono ?_
    rintro e w1 ⟨rfl, m1, rfl⟩
    rw [hd1]
    go_wp2_with fail
    go_ret
    exact ⟨by rw [HF.out]; rfl, below_drewN HW.out.2 _⟩
end Go.Proofs.Ytalfldflnacpeaa
