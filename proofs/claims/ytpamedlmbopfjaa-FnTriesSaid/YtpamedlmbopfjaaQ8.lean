/- Walks: the reference's valid relations and tries. -/
import Derived.Test.YtpamedlmbopfjaaQ7
namespace Go.Proofs.Ytpamedlmbopfjaa
set_option linter.unusedSimpArgs false
set_option linter.unusedVariables false
open Go.RowKit
set_option maxHeartbeats 3200000 in
theorem specValidRel {fz : Bool} {lo hi : Nat} (ar : Int) (a : Option Addr) (n c : Nat) (rows : List (List Int)) (w : World) (hI : RowsA fz lo hi w a n c rows) (hh : hi ≤ w.heap.size) (har : I64 ar) :
    Calls Try.prog 40 #[trieV ar a n c] w (Leaves w (.bool (validR ar rows))) := by
  have HAR := hid har; clear har
  have hl := hI.len
  have hs := hI.small
  have HL := hid hl; clear hl
  by_cases hw : 0 ≤ ar ∧ ar ≤ 5
  · have hd : decide (0 ≤ ar ∧ ar ≤ 5) = true := by simpa using hw
    by_cases hn : n ≤ 4000
    · go_enter Try.func40, Try.ntmps40
      go_wp2_with fail
      refine (specIn ar 0 5 _).mono ?_
      rintro e w1 ⟨rfl, m1, hw1⟩
      rw [hd]
      have hc0 : w1.cell? ⟨w.heap.size, 0, none⟩ = some (.int .i64 ar) := by rw [hw1]; simp
      have hc1 : w1.cell? ⟨w.heap.size, 1, none⟩ = some (.slice a n c) := by rw [hw1]; simp
      have hb1 : Below w.heap.size w w1 := by rw [hw1]; exact (by repeat (first | with_reducible assumption | with_reducible exact Below.refl _ _ | with_reducible refine below_drewN ?_ _ | with_reducible refine Below.al ?_ (by first | with_reducible exact Nat.le_refl _ | omega | (simp; done) | (simp; omega) | exact Nat.le_refl _) _ | with_reducible refine Below.setCell ?_ (by first | with_reducible exact Nat.le_refl _ | omega | (simp; done) | (simp; omega) | exact Nat.le_refl _) _ | assumption | exact Below.refl _ _ | refine below_drewN ?_ _ | refine Below.al ?_ (by first | with_reducible exact Nat.le_refl _ | omega | (simp; done) | (simp; omega) | exact Nat.le_refl _) _ | refine Below.setCell ?_ (by first | with_reducible exact Nat.le_refl _ | omega | (simp; done) | (simp; omega) | exact Nat.le_refl _) _))
      have hI1 := hI.be intsOK hb1 hh
      have HB := hid (And.intro hb1 hI1); clear hw1 hI1 hb1
      go_wp2_with fail
      go_loopw [3] (fun i wr => ∃ k : Nat, i = .int .i64 k ∧ k ≤ n ∧ Hid (∀ i, i < k → RowOK ar rows i) ∧ Hid (∃ m, wr = w1.drewN m)) (fun i _ => n - (intOf i).toNat)
      case atStart => exact ⟨0, rfl, by omega, hid (fun i hi => by omega), hid ⟨0, rfl⟩⟩
      case round =>
        obtain ⟨k, rfl, hk, HT, HD⟩ := hrel
        have hc0r : wr.cell? ⟨w.heap.size, 0, none⟩ = some (.int .i64 ar) := by obtain ⟨m, rfl⟩ := HD.out; exact hc0
        have hc1r : wr.cell? ⟨w.heap.size, 1, none⟩ = some (.slice a n c) := by obtain ⟨m, rfl⟩ := HD.out; exact hc1
        have hbr : ∀ q, Below w.heap.size w (wr.drewN q) := by obtain ⟨m, rfl⟩ := HD.out; intro q; exact below_drewN (below_drewN HB.out.1 m) q
        have HBR := hid hbr; clear hbr
        by_cases hlt : k < n
        · have hIr : RowsA fz lo hi wr a n c rows := HB.out.2.keep intsOK (keeps_dr lo hi HD.out)
          obtain ⟨b, off, rfl⟩ := hI.some (by omega)
          obtain ⟨_, _, ra, rn, rc, hc, hr, _⟩ := hIr.at hlt
          have hrl := hr.len
          have hrs := hr.small
          have HRL := hid hrl; clear hrl
          have HR := hid hr; clear hr
          have HI := hid hI; clear hI
          by_cases he : (rn : Int) = ar
          · have hb : ((rn : Int) != ar) = false := by simp [he]
            have HE := hid he; clear he
            obtain ⟨vb, hvb⟩ : ∃ vb, valB (rx rows k) = vb := ⟨_, rfl⟩
            have HVB := hid hvb; clear hvb
            have hcV : ∀ w', IntsA fz lo hi w' ra rn rc (rx rows k) → Calls Try.prog 55 #[.slice ra rn rc] w' (Gives w' (.bool vb)) := fun w' h => by have := specVals ra rn rc _ w' h; rwa [HVB.out] at this
            have HCV := hid hcV; clear hcV
            cases vb with
            | false =>
              have HF := hid (validR_row (ar := ar) (rows := rows) (i := k) (by rw [HL.out]; exact hlt) (by rintro ⟨_, h2, _⟩; rw [HVB.out] at h2; cases h2))
              have HIR := hid hIr; clear hIr
              go_wp2_with fail
              go_quiet ((go_at_call 55; exact (Calls.quiet_of (HCV.out _ (HR.out.drewN _)))))
              go_wp2_with fail
              go_ret
              exact ⟨by rw [HF.out]; rfl, HBR.out _⟩
            | true =>
              by_cases h0 : k = 0
              · have HT2 : Hid (∀ i, i < k + 1 → RowOK ar rows i) := hid (fun i hi => by
                  obtain rfl : i = k := by omega
                  exact ⟨by rw [HRL.out]; exact HE.out, HVB.out, fun h => by omega⟩)
                have HIR := hid hIr; clear hIr
                have h0' : decide ((0 : Int) < k) = false := by simp; omega
                have h0'' : ¬ 0 < k := by omega
                have H0 := hid h0; clear h0
                go_wp2_with fail
                go_quiet ((go_at_call 55; exact (Calls.quiet_of (HCV.out _ (HR.out.drewN _)))))
                go_wp2_with fail
                go_roundw
                case rel => exact ⟨k + 1, by go_num, by omega, HT2, hid (by first | exact HD.out | exact dr_more HD.out _ | (rw [dd]; exact dr_more HD.out _) | (rw [dd, dd]; exact dr_more HD.out _) | exact ⟨_, rfl⟩ | exact ⟨_, dd⟩)⟩
                case measure => simp [intOf]; omega
              · obtain ⟨j, rfl⟩ : ∃ j, k = j + 1 := ⟨k - 1, by omega⟩
                obtain ⟨_, _, qa, qn, qc, hcq, hq, _⟩ := hIr.at (show j < n by omega)
                have HQ := hid hq; clear hq
                have HIR := hid hIr; clear hIr
                clear h0
                obtain ⟨d, hde⟩ : ∃ d, cmpR (rx rows j) (rx rows (j + 1)) = d := ⟨_, rfl⟩
                have HDE := hid hde; clear hde
                have hcC : ∀ w', IntsA fz lo hi w' qa qn qc (rx rows j) → IntsA fz lo hi w' ra rn rc (rx rows (j + 1)) → Calls Try.prog 25 #[.slice qa qn qc, .slice ra rn rc] w' (Gives w' (.int .i64 d)) := fun w' h h' => by have := specCmpR qa ra qn qc rn rc _ _ w' h h'; rwa [HDE.out] at this
                have HCC := hid hcC; clear hcC
                have h0' : decide ((0 : Int) < (j : Int) + 1) = true := by simp
                have h0'' : IntKind.i64.wrap ((j : Int) + 1 - 1) = j := by rw [show (j : Int) + 1 - 1 = j by omega]; exact IntWalk.i64_in _ (by omega)
                by_cases hd0 : d < 0
                · have HT2 : Hid (∀ i, i < j + 1 + 1 → RowOK ar rows i) := hid (fun i hi => by
                    by_cases e : i = j + 1
                    · subst e; exact ⟨by rw [HRL.out]; exact HE.out, HVB.out, fun _ => by show cmpR (rx rows j) _ < 0; rw [HDE.out]; exact hd0⟩
                    · exact HT.out i (by omega))
                  go_wp2_with fail
                  go_quiet (first
                    | (go_at_call 55; exact (Calls.quiet_of (HCV.out _ (HR.out.drewN _))))
                    | (go_at_call 25; exact (Calls.quiet_of (HCC.out _ (HQ.out.drewN _) (HR.out.drewN _)))))
                  go_wp2_with fail
                  go_roundw
                  case rel => exact ⟨j + 1 + 1, by go_num, by omega, HT2, hid (by first | exact HD.out | exact dr_more HD.out _ | (rw [dd]; exact dr_more HD.out _) | (rw [dd, dd]; exact dr_more HD.out _) | exact ⟨_, rfl⟩ | exact ⟨_, dd⟩)⟩
                  case measure => simp [intOf]; omega
                · have HF := hid (validR_row (ar := ar) (rows := rows) (i := j + 1) (by rw [HL.out]; exact hlt) (by rintro ⟨_, _, h2⟩; have := h2 (by omega); simp only [Nat.add_sub_cancel] at this; rw [HDE.out] at this; exact hd0 this))
                  go_wp2_with fail
                  go_quiet (first
                    | (go_at_call 55; exact (Calls.quiet_of (HCV.out _ (HR.out.drewN _))))
                    | (go_at_call 25; exact (Calls.quiet_of (HCC.out _ (HQ.out.drewN _) (HR.out.drewN _)))))
                  go_wp2_with fail
                  go_ret
                  exact ⟨by rw [HF.out]; rfl, HBR.out _⟩
          · have hb : ((rn : Int) != ar) = true := by simp [he]
            have HF := hid (validR_row (ar := ar) (rows := rows) (i := k) (by rw [HL.out]; exact hlt) (by rintro ⟨h2, _⟩; rw [HRL.out] at h2; exact he h2))
            have HE := hid he; clear he
            have HIR := hid hIr; clear hIr
            go_wp2_with fail
            go_quiet (fail)
            go_wp2_with fail
            go_ret
            exact ⟨by rw [HF.out]; rfl, HBR.out _⟩
        · have HF := hid (validR_true (ar := ar) (rows := rows) hw (by rw [HL.out]; exact hn) (by rw [HL.out]; intro i hi; exact HT.out i (by omega)))
          go_wp2_with fail
          go_ret
          exact ⟨by rw [HF.out]; rfl, HBR.out 0⟩
    · have HF := hid (validR_big (ar := ar) (rows := rows) (by rw [HL.out]; exact hn))
      go_enter Try.func40, Try.ntmps40
      go_wp2_with fail
      refine (specIn ar 0 5 _).mono ?_
      rintro e w1 ⟨rfl, m1, rfl⟩
      rw [hd]
      go_wp2_with fail
      go_ret
      exact ⟨by rw [HF.out]; rfl, (by repeat (first | with_reducible assumption | with_reducible exact Below.refl _ _ | with_reducible refine below_drewN ?_ _ | with_reducible refine Below.al ?_ (by first | with_reducible exact Nat.le_refl _ | omega | (simp; done) | (simp; omega) | exact Nat.le_refl _) _ | with_reducible refine Below.setCell ?_ (by first | with_reducible exact Nat.le_refl _ | omega | (simp; done) | (simp; omega) | exact Nat.le_refl _) _ | assumption | exact Below.refl _ _ | refine below_drewN ?_ _ | refine Below.al ?_ (by first | with_reducible exact Nat.le_refl _ | omega | (simp; done) | (simp; omega) | exact Nat.le_refl _) _ | refine Below.setCell ?_ (by first | with_reducible exact Nat.le_refl _ | omega | (simp; done) | (simp; omega) | exact Nat.le_refl _) _))⟩
  · have hd : decide (0 ≤ ar ∧ ar ≤ 5) = false := by simpa using hw
    have HF := hid (validR_ar (rows := rows) hw)
    go_enter Try.func40, Try.ntmps40
    go_wp2_with fail
    refine (specIn ar 0 5 _).mono ?_
    rintro e w1 ⟨rfl, m1, rfl⟩
    rw [hd]
    go_wp2_with fail
    go_ret
    exact ⟨by rw [HF.out]; rfl, (by repeat (first | with_reducible assumption | with_reducible exact Below.refl _ _ | with_reducible refine below_drewN ?_ _ | with_reducible refine Below.al ?_ (by first | with_reducible exact Nat.le_refl _ | omega | (simp; done) | (simp; omega) | exact Nat.le_refl _) _ | with_reducible refine Below.setCell ?_ (by first | with_reducible exact Nat.le_refl _ | omega | (simp; done) | (simp; omega) | exact Nat.le_refl _) _ | assumption | exact Below.refl _ _ | refine below_drewN ?_ _ | refine Below.al ?_ (by first | with_reducible exact Nat.le_refl _ | omega | (simp; done) | (simp; omega) | exact Nat.le_refl _) _ | refine Below.setCell ?_ (by first | with_reducible exact Nat.le_refl _ | omega | (simp; done) | (simp; omega) | exact Nat.le_refl _) _))⟩
set_option maxHeartbeats 400000 in
theorem specValidTrie {fz : Bool} {lo hi : Nat} (ar : Int) (a : Option Addr) (n c : Nat) (rows : List (List Int)) (w : World) (hI : RowsA fz lo hi w a n c rows) (hh : hi ≤ w.heap.size) (har : I64 ar) :
    Calls Try.prog 24 #[trieV ar a n c] w (Leaves w (.bool (validR ar rows))) := by
  have HAR := hid har; clear har
  go_enter Try.func24, Try.ntmps24
  go_wp2_with fail
  refine (specAsRel ar a n c _).mono ?_
  rintro e w1 ⟨rfl, hb1⟩
  have hb2 : Below w.heap.size w w1 := Below.trans (by repeat (first | with_reducible assumption | with_reducible exact Below.refl _ _ | with_reducible refine below_drewN ?_ _ | with_reducible refine Below.al ?_ (by first | with_reducible exact Nat.le_refl _ | omega | (simp; done) | (simp; omega) | exact Nat.le_refl _) _ | with_reducible refine Below.setCell ?_ (by first | with_reducible exact Nat.le_refl _ | omega | (simp; done) | (simp; omega) | exact Nat.le_refl _) _ | assumption | exact Below.refl _ _ | refine below_drewN ?_ _ | refine Below.al ?_ (by first | with_reducible exact Nat.le_refl _ | omega | (simp; done) | (simp; omega) | exact Nat.le_refl _) _ | refine Below.setCell ?_ (by first | with_reducible exact Nat.le_refl _ | omega | (simp; done) | (simp; omega) | exact Nat.le_refl _) _)) (hb1.mono (by first | with_reducible exact Nat.le_refl _ | omega | (simp; done) | (simp; omega) | exact Nat.le_refl _))
  have hz := hb2.size
  go_wp2_with fail
  refine (specValidRel ar a n c rows _ (hI.be intsOK hb2 hh) (by omega) HAR.out).mono ?_
  rintro e w2 ⟨rfl, hb3⟩
  go_wp2_with fail
  go_ret
  exact ⟨rfl, Below.calm hb2 hb3⟩
end Go.Proofs.Ytpamedlmbopfjaa
