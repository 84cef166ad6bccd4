/- Walks: valid relations and tries. -/
import Derived.Test.YtpamedlmbopfjaaQ4
import Derived.Test.YtpamedlmbopfjaaW4
namespace Go.Proofs.Ytpamedlmbopfjaa
set_option linter.unusedSimpArgs false
set_option linter.unusedVariables false
open Go.RowKit
/-- row i of a valid relation of that arity -/
def RowOK (ar : Int) (rows : List (List Int)) (i : Nat) : Prop := ((rx rows i).length : Int) = ar ∧ valB (rx rows i) = true ∧ (0 < i → cmpR (rx rows (i - 1)) (rx rows i) < 0)
open Classical in
/-- what IsValidRelation returns -/
noncomputable def validR (ar : Int) (rows : List (List Int)) : Bool := decide ((0 ≤ ar ∧ ar ≤ 5) ∧ rows.length ≤ 4000 ∧ ∀ i, i < rows.length → RowOK ar rows i)
theorem validR_true {ar : Int} {rows : List (List Int)} (h1 : 0 ≤ ar ∧ ar ≤ 5) (h2 : rows.length ≤ 4000) (h3 : ∀ i, i < rows.length → RowOK ar rows i) : validR ar rows = true := by
  simp only [validR, decide_eq_true_eq]; exact ⟨h1, h2, h3⟩
theorem validR_ar {ar : Int} {rows : List (List Int)} (h1 : ¬ (0 ≤ ar ∧ ar ≤ 5)) : validR ar rows = false := by
  simp only [validR, decide_eq_false_iff_not]; exact fun h => h1 h.1
theorem validR_big {ar : Int} {rows : List (List Int)} (h1 : ¬ rows.length ≤ 4000) : validR ar rows = false := by
  simp only [validR, decide_eq_false_iff_not]; exact fun h => h1 h.2.1
theorem validR_row {ar : Int} {rows : List (List Int)} {i : Nat} (hi : i < rows.length) (h1 : ¬ RowOK ar rows i) : validR ar rows = false := by
  simp only [validR, decide_eq_false_iff_not]; exact fun h => h1 (h.2.2 i hi)
theorem validR_out {ar : Int} {rows : List (List Int)} (h : validR ar rows = true) : (0 ≤ ar ∧ ar ≤ 5) ∧ rows.length ≤ 4000 ∧ ∀ i, i < rows.length → RowOK ar rows i := by
  simpa only [validR, decide_eq_true_eq] using h
set_option maxHeartbeats 1600000 in
theorem implRowsValid {fz : Bool} {lo hi : Nat} (ar : Int) (a : Option Addr) (n c : Nat) (rows : List (List Int)) (w : World) (hI : RowsA fz lo hi w a n c rows) (har : I64 ar) :
    Calls Try.prog 53 #[.int .i64 ar, .slice a n c] w (Gives w (.bool (validR ar rows))) := by
  have hl := hI.len
  have hs := hI.small
  have HL := hid hl; clear hl
  have HAR := hid har; clear har
  by_cases hw : 0 ≤ ar ∧ ar ≤ 5
  · have hd : decide (0 ≤ ar ∧ ar ≤ 5) = true := by simpa using hw
    by_cases hn : n ≤ 4000
    · go_enter Try.func53, Try.ntmps53
      go_wp2_with fail
      refine (implWithin ar 0 5 _).mono ?_
      rintro e w1 ⟨rfl, m1, hw1⟩
      rw [hd]
      have HD1 : Hid (∃ m, w1 = w.drewN m) := hid ⟨m1, hw1⟩
      clear hw1
      go_wp2_with fail
      go_loopw [17] (fun i wr => ∃ k : Nat, i = .int .i64 k ∧ k ≤ n ∧ Hid (∀ i, i < k → RowOK ar rows i) ∧ Hid (∃ m, wr = w.drewN m)) (fun i _ => n - (intOf i).toNat)
      case atStart => exact ⟨0, rfl, by omega, hid (fun i hi => by omega), HD1⟩
      case round =>
        obtain ⟨k, rfl, hk, HT, HD⟩ := hrel
        by_cases hlt : k < n
        · have hIr : RowsA fz lo hi wr a n c rows := hI.keep intsOK (keeps_dr lo hi HD.out)
          obtain ⟨b, off, rfl⟩ := hI.some (by omega)
          obtain ⟨_, _, ra, rn, rc, hc, hr, _⟩ := hIr.at hlt
          have hrl := hr.len
          have hrs := hr.small
          have HRL := hid hrl; clear hrl
          have HR := hid hr; clear hr
          have HI := hid hI; clear hI
          by_cases he : (rn : Int) = ar
          · have hb : ((rn : Int) != ar) = false := by simp [he]
            have HE := hid he; clear he
            obtain ⟨vb, hvb⟩ : ∃ vb, valB (rx rows k) = vb := ⟨_, rfl⟩
            have HVB := hid hvb; clear hvb
            cases vb with
            | false =>
              have HF := hid (validR_row (ar := ar) (rows := rows) (i := k) (by rw [HL.out]; exact hlt) (by rintro ⟨_, h2, _⟩; rw [HVB.out] at h2; cases h2))
              have HIR := hid hIr; clear hIr
              go_wp2_with fail
              refine (implVals ra rn rc _ _ HR.out).mono ?_
              rintro e w2 ⟨rfl, m2, rfl⟩
              rw [HVB.out]
              go_wp2_with fail
              go_ret
              exact ⟨by rw [HF.out]; rfl, dr_more HD.out _⟩
            | true =>
              by_cases h0 : k = 0
              · have HT2 : Hid (∀ i, i < k + 1 → RowOK ar rows i) := hid (fun i hi => by
                  obtain rfl : i = k := by omega
                  exact ⟨by rw [HRL.out]; exact HE.out, HVB.out, fun h => by omega⟩)
                have HIR := hid hIr; clear hIr
                have h0' : ¬ 0 < k := by omega
                have H0 := hid h0; clear h0
                go_wp2_with fail
                refine (implVals ra rn rc _ _ HR.out).mono ?_
                rintro e w2 ⟨rfl, m2, rfl⟩
                rw [HVB.out]
                go_wp2_with fail
                go_roundw
                case rel => exact ⟨k + 1, by go_num, by omega, HT2, hid (dr_more HD.out _)⟩
                case measure => simp [intOf]; omega
              · obtain ⟨j, rfl⟩ : ∃ j, k = j + 1 := ⟨k - 1, by omega⟩
                obtain ⟨_, _, qa, qn, qc, hcq, hq, _⟩ := hIr.at (show j < n by omega)
                have HQ := hid hq; clear hq
                have HIR := hid hIr; clear hIr
                clear h0
                obtain ⟨d, hde⟩ : ∃ d, cmpR (rx rows j) (rx rows (j + 1)) = d := ⟨_, rfl⟩
                have HDE := hid hde; clear hde
                by_cases hd0 : d < 0
                · have HT2 : Hid (∀ i, i < j + 1 + 1 → RowOK ar rows i) := hid (fun i hi => by
                    by_cases e : i = j + 1
                    · subst e; exact ⟨by rw [HRL.out]; exact HE.out, HVB.out, fun _ => by show cmpR (rx rows j) _ < 0; rw [HDE.out]; exact hd0⟩
                    · exact HT.out i (by omega))
                  go_wp2_with fail
                  refine (implVals ra rn rc _ _ HR.out).mono ?_
                  rintro e w2 ⟨rfl, m2, rfl⟩
                  rw [HVB.out]
                  go_wp2_with fail
                  refine (implCmpR qa ra qn qc rn rc _ _ _ (HQ.out.drewN _) (HR.out.drewN _)).mono ?_
                  rintro e w3 ⟨rfl, m3, rfl⟩
                  rw [HDE.out]
                  go_wp2_with fail
                  go_roundw
                  case rel => exact ⟨j + 1 + 1, by go_num, by omega, HT2, hid (by first | exact dr_more HD.out _ | (rw [dd]; exact dr_more HD.out _))⟩
                  case measure => simp [intOf]; omega
                · have HF := hid (validR_row (ar := ar) (rows := rows) (i := j + 1) (by rw [HL.out]; exact hlt) (by rintro ⟨_, _, h2⟩; have := h2 (by omega); simp only [Nat.add_sub_cancel] at this; rw [HDE.out] at this; exact hd0 this))
                  go_wp2_with fail
                  refine (implVals ra rn rc _ _ HR.out).mono ?_
                  rintro e w2 ⟨rfl, m2, rfl⟩
                  rw [HVB.out]
                  go_wp2_with fail
                  refine (implCmpR qa ra qn qc rn rc _ _ _ (HQ.out.drewN _) (HR.out.drewN _)).mono ?_
                  rintro e w3 ⟨rfl, m3, rfl⟩
                  rw [HDE.out]
                  go_wp2_with fail
                  go_ret
                  exact ⟨by rw [HF.out]; rfl, by first | exact dr_more HD.out _ | (rw [dd]; exact dr_more HD.out _)⟩
          · have hb : ((rn : Int) != ar) = true := by simp [he]
            have HF := hid (validR_row (ar := ar) (rows := rows) (i := k) (by rw [HL.out]; exact hlt) (by rintro ⟨h2, _⟩; rw [HRL.out] at h2; exact he h2))
            have HE := hid he; clear he
            have HIR := hid hIr; clear hIr
            go_wp2_with fail
            go_ret
            exact ⟨by rw [HF.out]; rfl, HD.out⟩
        · have HF := hid (validR_true (ar := ar) (rows := rows) hw (by rw [HL.out]; exact hn) (by rw [HL.out]; intro i hi; exact HT.out i (by omega)))
          go_wp2_with fail
          go_ret
          exact ⟨by rw [HF.out]; rfl, HD.out⟩
    · have HF := hid (validR_big (ar := ar) (rows := rows) (by rw [HL.out]; exact hn))
      go_enter Try.func53, Try.ntmps53
      go_wp2_with fail
      refine (implWithin ar 0 5 _).mono ?_
      rintro e w1 ⟨rfl, m1, rfl⟩
      rw [hd]
      go_wp2_with fail
      go_ret
      exact ⟨by rw [HF.out]; rfl, _, rfl⟩
  · have hd : decide (0 ≤ ar ∧ ar ≤ 5) = false := by simpa using hw
    have HF := hid (validR_ar (rows := rows) hw)
    go_enter Try.func53, Try.ntmps53
    go_wp2_with fail
    refine (implWithin ar 0 5 _).mono ?_
    rintro e w1 ⟨rfl, m1, rfl⟩
    rw [hd]
    go_wp2_with fail
    go_ret
    exact ⟨by rw [HF.out]; rfl, _, rfl⟩
end Go.Proofs.Ytpamedlmbopfjaa
