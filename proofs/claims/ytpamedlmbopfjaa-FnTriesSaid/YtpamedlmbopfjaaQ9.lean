/- The range of rows behind a prefix: the plain law, and the walks of both versions. -/
import Derived.Test.YtpamedlmbopfjaaQ8
import Derived.Deep.CutBlock
import Derived.Deep.DeepCutAuto
namespace Go.Proofs.Ytpamedlmbopfjaa
set_option linter.unusedSimpArgs false
set_option linter.unusedVariables false
open Go.RowKit
/-- row i up to the prefix's length against the prefix -/
def cmpP (rows : List (List Int)) (p : List Int) (i : Nat) : Int := cmpR ((rx rows i).take p.length) p
noncomputable def preLo (rows : List (List Int)) (p : List Int) : Nat := firstIx (fun i => ¬ cmpP rows p i < 0) rows.length
noncomputable def preHi (rows : List (List Int)) (p : List Int) : Nat := firstIx (fun i => preLo rows p ≤ i ∧ cmpP rows p i ≠ 0) rows.length
noncomputable def preOK (ar : Int) (rows : List (List Int)) (p : List Int) : Bool := validR ar rows && decide ((p.length : Int) ≤ ar)
noncomputable def rangeLo (ar : Int) (rows : List (List Int)) (p : List Int) : Nat := if preOK ar rows p = true then preLo rows p else 0
noncomputable def rangeHi (ar : Int) (rows : List (List Int)) (p : List Int) : Nat := if preOK ar rows p = true then preHi rows p else 0
theorem preLo_le (rows : List (List Int)) (p : List Int) : preLo rows p ≤ rows.length := firstIx_le _ _
theorem preLo_eq {rows : List (List Int)} {p : List Int} {k : Nat} (h : ∀ i, i < k → cmpP rows p i < 0) (hk : k ≤ rows.length) (he : k < rows.length → ¬ cmpP rows p k < 0) : preLo rows p = k := by
  unfold preLo
  by_cases g : k < rows.length
  · exact firstIx_eq (p := fun i => ¬ cmpP rows p i < 0) g (he g) fun j hj hn => hn (h j hj)
  · obtain rfl : k = rows.length := by omega
    exact firstIx_none fun i hi hn => hn (h i hi)
theorem preHi_eq {rows : List (List Int)} {p : List Int} {k : Nat} (hlo : preLo rows p ≤ k) (h : ∀ i, preLo rows p ≤ i → i < k → cmpP rows p i = 0) (hk : k ≤ rows.length) (he : k < rows.length → ¬ cmpP rows p k = 0) : preHi rows p = k := by
  unfold preHi
  by_cases g : k < rows.length
  · exact firstIx_eq (p := fun i => preLo rows p ≤ i ∧ cmpP rows p i ≠ 0) g ⟨hlo, he g⟩ fun j hj hn => hn.2 (h j hn.1 hj)
  · obtain rfl : k = rows.length := by omega
    exact firstIx_none fun i hi hn => hn.2 (h i hn.1 hi)
theorem range_no {ar : Int} {rows : List (List Int)} {p : List Int} (h : preOK ar rows p = false) : rangeLo ar rows p = 0 ∧ rangeHi ar rows p = 0 := by
  unfold rangeLo rangeHi; rw [h]; simp
theorem range_yes {ar : Int} {rows : List (List Int)} {p : List Int} (h : preOK ar rows p = true) : rangeLo ar rows p = preLo rows p ∧ rangeHi ar rows p = preHi rows p := by
  unfold rangeLo rangeHi; rw [h]; simp
theorem preOK_mk {ar : Int} {rows : List (List Int)} {p : List Int} (h1 : validR ar rows = true) (h2 : (p.length : Int) ≤ ar) : preOK ar rows p = true := by simp [preOK, h1, h2]
theorem preOK_len {ar : Int} {rows : List (List Int)} {p : List Int} (h2 : ¬ (p.length : Int) ≤ ar) : preOK ar rows p = false := by
  simp only [preOK, Bool.and_eq_false_iff, decide_eq_false_iff_not]; exact .inr h2
theorem preOK_val {ar : Int} {rows : List (List Int)} {p : List Int} (h1 : validR ar rows = false) : preOK ar rows p = false := by simp [preOK, h1]
/-- two numbers -/
abbrev twoV (x y : Int) : Value := .tuple #[.int .i64 x, .int .i64 y]
set_option maxHeartbeats 3200000 in
theorem implRange {fz fz' : Bool} {lo hi lo' hi' : Nat} (ar : Int) (a : Option Addr) (n c : Nat) (rows : List (List Int)) (pa : Option Addr) (pn pc : Nat) (p : List Int) (w : World) (hI : RowsA fz lo hi w a n c rows) (hh : hi ≤ w.heap.size) (har : I64 ar)
    (hP : IntsA fz' lo' hi' w pa pn pc p) (hh' : hi' ≤ w.heap.size) :
    Calls Try.prog 8 #[trieV ar a n c, .slice pa pn pc] w (Leaves w (twoV (rangeLo ar rows p) (rangeHi ar rows p))) := by
  have HAR := hid har; clear har
  have hl := hI.len
  have hs := hI.small
  have hlp := hP.len
  have hsp := hP.small
  have HL := hid (And.intro hl hlp); clear hl hlp
  by_cases hle : (pn : Int) ≤ ar
  · obtain ⟨vb, hvb⟩ : ∃ vb, validR ar rows = vb := ⟨_, rfl⟩
    have HVB := hid hvb; clear hvb
    cases vb with
    | false =>
      have HF := hid (range_no (p := p) (preOK_val HVB.out))
      go_enter Try.func8, Try.ntmps8
      go_wp2_with fail
      refine (implValidTrie ar a n c rows _ (hI.al intsOK hh _) (by first | with_reducible exact Nat.le_refl _ | omega | (simp; done) | (simp; omega) | exact Nat.le_refl _) HAR.out).mono ?_
      rintro e w1 ⟨rfl, hb1⟩
      rw [HVB.out]
      go_wp2_with fail
      go_ret2
      exact ⟨by rw [HF.out.1, HF.out.2]; rfl, (Below.al (Below.refl _ _) (Nat.le_refl _) _).trans (hb1.mono (by first | with_reducible exact Nat.le_refl _ | omega | (simp; done) | (simp; omega) | exact Nat.le_refl _))⟩
    | true =>
      have HV := hid (validR_out HVB.out)
      have HF := hid (range_yes (p := p) (preOK_mk HVB.out (by rw [HL.out.2]; exact hle)))
      go_enter Try.func8, Try.ntmps8
      go_wp2_with fail
      refine (implValidTrie ar a n c rows _ (hI.al intsOK hh _) (by first | with_reducible exact Nat.le_refl _ | omega | (simp; done) | (simp; omega) | exact Nat.le_refl _) HAR.out).mono ?_
      rintro e w1 ⟨rfl, hb1⟩
      rw [HVB.out]
      have hc0 : w1.cell? ⟨w.heap.size, 0, none⟩ = some (.int .i64 ar) := by rw [(bcell hb1).1 _ _ (by simp)]; simp
      have hc1 : w1.cell? ⟨w.heap.size, 1, none⟩ = some (.slice a n c) := by rw [(bcell hb1).1 _ _ (by simp)]; simp
      have hb2 : Below w.heap.size w w1 := (Below.al (Below.refl _ _) (Nat.le_refl _) _).trans (hb1.mono (by first | with_reducible exact Nat.le_refl _ | omega | (simp; done) | (simp; omega) | exact Nat.le_refl _))
      have hI1 := hI.be intsOK hb2 hh
      have hP1 := hP.be hb2 hh'
      have HB := hid (And.intro hb2 (And.intro hI1 hP1)); clear hb1 hI1 hP1 hb2
      go_upto_block 0 with fail
      go_cut [7] from 20 to 38 (fun s7 wx => ∃ k : Nat, s7 = .int .i64 k ∧ k ≤ n ∧ Hid (preLo rows p = k) ∧ Hid (∃ m, wx = w1.drewN m))
      case first =>
        go_wp2_with fail
        go_loopw [7] (fun i wr => ∃ k : Nat, i = .int .i64 k ∧ k ≤ n ∧ Hid (∀ i, i < k → cmpP rows p i < 0) ∧ Hid (∃ m, wr = w1.drewN m)) (fun i _ => n - (intOf i).toNat)
        case atStart => exact ⟨0, rfl, by omega, hid (fun i hi => by omega), hid ⟨0, rfl⟩⟩
        case round =>
          obtain ⟨k, rfl, hk, HT, HD⟩ := hrel
          have hc1r : wr.cell? ⟨w.heap.size, 1, none⟩ = some (.slice a n c) := by obtain ⟨m, rfl⟩ := HD.out; exact hc1
          by_cases hlt : k < n
          · have hIr : RowsA fz lo hi wr a n c rows := HB.out.2.1.keep intsOK (keeps_dr lo hi HD.out)
            have hPr : IntsA fz' lo' hi' wr pa pn pc p := HB.out.2.2.keep (keeps_dr lo' hi' HD.out)
            obtain ⟨b, off, rfl⟩ := hI.some (by omega)
            obtain ⟨_, _, ra, rn, rc, hc, hr, _⟩ := hIr.at hlt
            have hrs := hr.small
            have hrc := hr.2.1
            have hrm := hr.2.2.1
            have hrp : pn ≤ rn := by have h1 := (HV.out.2.2 k (by rw [HL.out.1]; exact hlt)).1; have h2 := hr.len; omega
            have HR := hid (hr.take hrp); clear hr
            have HPR := hid hPr; clear hPr
            have HIR := hid hIr; clear hIr
            obtain ⟨d, hde⟩ : ∃ d, cmpP rows p k = d := ⟨_, rfl⟩
            have hde2 := hde
            unfold cmpP at hde2
            rw [HL.out.2] at hde2
            have HDE := hid (And.intro hde hde2); clear hde hde2
            have HI := hid hI; clear hI
            by_cases hd0 : d < 0
            · go_wp2_with fail
              refine (implCmpR ra pa pn rc pn pc _ _ _ HR.out HPR.out).mono ?_
              rintro e w3 ⟨rfl, m3, rfl⟩
              rw [HDE.out.2]
              have HT2 : Hid (∀ i, i < k + 1 → cmpP rows p i < 0) := hid (fun i hi => by
                by_cases e : i = k
                · subst e; rw [HDE.out.1]; exact hd0
                · exact HT.out i (by omega))
              go_wp2_with fail
              go_roundw
              case rel => exact ⟨k + 1, by go_num, by omega, HT2, hid (by first | exact HD.out | exact dr_more HD.out _ | (rw [dd]; exact dr_more HD.out _) | (rw [dd, dd]; exact dr_more HD.out _) | exact ⟨_, rfl⟩ | exact ⟨_, dd⟩)⟩
              case measure => simp [intOf]; omega
            · go_wp2_with fail
              refine (implCmpR ra pa pn rc pn pc _ _ _ HR.out HPR.out).mono ?_
              rintro e w3 ⟨rfl, m3, rfl⟩
              rw [HDE.out.2]
              have HK := hid (preLo_eq (k := k) HT.out (by rw [HL.out.1]; exact hk) (fun _ => by rw [HDE.out.1]; omega))
              go_wp2_with fail
              go_meet
              exact ⟨k, rfl, hk, HK, hid (by first | exact HD.out | exact dr_more HD.out _ | (rw [dd]; exact dr_more HD.out _) | (rw [dd, dd]; exact dr_more HD.out _) | exact ⟨_, rfl⟩ | exact ⟨_, dd⟩)⟩
          · have HK := hid (preLo_eq (k := k) HT.out (by rw [HL.out.1]; exact hk) (fun h => by rw [HL.out.1] at h; omega))
            go_wp2_with fail
            go_meet
            exact ⟨k, rfl, hk, HK, hid (by first | exact HD.out | exact dr_more HD.out _ | (rw [dd]; exact dr_more HD.out _) | (rw [dd, dd]; exact dr_more HD.out _) | exact ⟨_, rfl⟩ | exact ⟨_, dd⟩)⟩
      case rest =>
        obtain ⟨k0, rfl, hk0, HK0, HD0⟩ := hcut
        have hc1' : wc.cell? ⟨w.heap.size, 1, none⟩ = some (.slice a n c) := by obtain ⟨m, rfl⟩ := HD0.out; exact hc1
        go_wp2_with fail
        go_loopw [8] (fun i wr => ∃ k : Nat, i = .int .i64 k ∧ k ≤ n ∧ k0 ≤ k ∧ Hid (∀ i, k0 ≤ i → i < k → cmpP rows p i = 0) ∧ Hid (∃ m, wr = w1.drewN m)) (fun i _ => n - (intOf i).toNat)
        case atStart => exact ⟨k0, rfl, by omega, by omega, hid (fun i hi hi' => by omega), HD0⟩
        case round =>
          obtain ⟨k, rfl, hk, hkk, HT, HD⟩ := hrel
          have hc1r : wr.cell? ⟨w.heap.size, 1, none⟩ = some (.slice a n c) := by obtain ⟨m, rfl⟩ := HD.out; exact hc1
          have hbr : ∀ q, Below w.heap.size w (wr.drewN q) := by obtain ⟨m, rfl⟩ := HD.out; intro q; exact below_drewN (below_drewN HB.out.1 m) q
          have HBR := hid hbr; clear hbr
          by_cases hlt : k < n
          · have hIr : RowsA fz lo hi wr a n c rows := HB.out.2.1.keep intsOK (keeps_dr lo hi HD.out)
            have hPr : IntsA fz' lo' hi' wr pa pn pc p := HB.out.2.2.keep (keeps_dr lo' hi' HD.out)
            obtain ⟨b, off, rfl⟩ := hI.some (by omega)
            obtain ⟨_, _, ra, rn, rc, hc, hr, _⟩ := hIr.at hlt
            have hrs := hr.small
            have hrc := hr.2.1
            have hrm := hr.2.2.1
            have hrp : pn ≤ rn := by have h1 := (HV.out.2.2 k (by rw [HL.out.1]; exact hlt)).1; have h2 := hr.len; omega
            have HR := hid (hr.take hrp); clear hr
            have HPR := hid hPr; clear hPr
            have HIR := hid hIr; clear hIr
            obtain ⟨d, hde⟩ : ∃ d, cmpP rows p k = d := ⟨_, rfl⟩
            have hde2 := hde
            unfold cmpP at hde2
            rw [HL.out.2] at hde2
            have HDE := hid (And.intro hde hde2); clear hde hde2
            have HI := hid hI; clear hI
            by_cases hd0 : d = 0
            · have hb : (d == 0) = true := by simp [hd0]
              have HD0' := hid hd0; clear hd0
              go_wp2_with fail
              refine (implCmpR ra pa pn rc pn pc _ _ _ HR.out HPR.out).mono ?_
              rintro e w3 ⟨rfl, m3, rfl⟩
              rw [HDE.out.2]
              have HT2 : Hid (∀ i, k0 ≤ i → i < k + 1 → cmpP rows p i = 0) := hid (fun i hi0 hi => by
                by_cases e : i = k
                · subst e; rw [HDE.out.1]; exact HD0'.out
                · exact HT.out i hi0 (by omega))
              go_wp2_with fail
              go_roundw
              case rel => exact ⟨k + 1, by go_num, by omega, by omega, HT2, hid (by first | exact HD.out | exact dr_more HD.out _ | (rw [dd]; exact dr_more HD.out _) | (rw [dd, dd]; exact dr_more HD.out _) | exact ⟨_, rfl⟩ | exact ⟨_, dd⟩)⟩
              case measure => simp [intOf]; omega
            · have hb : (d == 0) = false := by simp [hd0]
              have HK := hid (preHi_eq (k := k) (by rw [HK0.out]; exact hkk) (by rw [HK0.out]; exact HT.out) (by rw [HL.out.1]; exact hk) (fun _ => by rw [HDE.out.1]; omega))
              have HD0' := hid hd0; clear hd0
              go_wp2_with fail
              refine (implCmpR ra pa pn rc pn pc _ _ _ HR.out HPR.out).mono ?_
              rintro e w3 ⟨rfl, m3, rfl⟩
              rw [HDE.out.2]
              go_wp2_with fail
              go_ret2
              exact ⟨by rw [HF.out.1, HF.out.2, HK.out, HK0.out]; rfl, HBR.out _⟩
          · have HK := hid (preHi_eq (k := k) (by rw [HK0.out]; exact hkk) (by rw [HK0.out]; exact HT.out) (by rw [HL.out.1]; exact hk) (fun h => by rw [HL.out.1] at h; omega))
            go_wp2_with fail
            go_ret2
            exact ⟨by rw [HF.out.1, HF.out.2, HK.out, HK0.out]; rfl, HBR.out 0⟩
  · have HF := hid (range_no (rows := rows) (preOK_len (ar := ar) (p := p) (by rw [HL.out.2]; exact hle)))
    go_enter Try.func8, Try.ntmps8
    go_wp2_with fail
    go_ret2
    exact ⟨by rw [HF.out.1, HF.out.2]; rfl, (by repeat (first | with_reducible assumption | with_reducible exact Below.refl _ _ | with_reducible refine below_drewN ?_ _ | with_reducible refine Below.al ?_ (by first | with_reducible exact Nat.le_refl _ | omega | (simp; done) | (simp; omega) | exact Nat.le_refl _) _ | with_reducible refine Below.setCell ?_ (by first | with_reducible exact Nat.le_refl _ | omega | (simp; done) | (simp; omega) | exact Nat.le_refl _) _ | assumption | exact Below.refl _ _ | refine below_drewN ?_ _ | refine Below.al ?_ (by first | with_reducible exact Nat.le_refl _ | omega | (simp; done) | (simp; omega) | exact Nat.le_refl _) _ | refine Below.setCell ?_ (by first | with_reducible exact Nat.le_refl _ | omega | (simp; done) | (simp; omega) | exact Nat.le_refl _) _))⟩
end Go.Proofs.Ytpamedlmbopfjaa
