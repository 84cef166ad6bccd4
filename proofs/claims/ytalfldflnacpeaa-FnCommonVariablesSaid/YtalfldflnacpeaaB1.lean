/- Walks: valid names. -/
import Derived.Test.YtalfldflnacpeaaCell
namespace Go.Proofs.Ytalfldflnacpeaa
set_option linter.unusedSimpArgs false
set_option linter.unusedVariables false
open Go.RowKit
/-- byte i of a string as a number -/
def sx (s : ByteArray) (i : Nat) : Int := if h : i < s.size then (s[i].toNat : Int) else 0
theorem sx_lt {s : ByteArray} {i : Nat} (h : i < s.size) : sx s i = (s[i].toNat : Int) := by simp [sx, h]
def LetTo (s : ByteArray) (k : Nat) : Prop := ∀ i, i < k → 97 ≤ sx s i ∧ sx s i ≤ 122
open Classical in
/-- whether a name is valid -/
noncomputable def nameOK (s : ByteArray) : Bool := decide ((1 ≤ s.size ∧ s.size ≤ 4) ∧ LetTo s s.size)
theorem nameOK_size {s : ByteArray} (h : ¬ (1 ≤ s.size ∧ s.size ≤ 4)) : nameOK s = false := by simp only [nameOK, decide_eq_false_iff_not]; exact fun g => h g.1
theorem nameOK_let {s : ByteArray} {i : Nat} (hi : i < s.size) (h : ¬ (97 ≤ sx s i ∧ sx s i ≤ 122)) : nameOK s = false := by simp only [nameOK, decide_eq_false_iff_not]; exact fun g => h (g.2 i hi)
theorem nameOK_yes {s : ByteArray} (h : 1 ≤ s.size ∧ s.size ≤ 4) (h2 : LetTo s s.size) : nameOK s = true := by simp only [nameOK, decide_eq_true_eq]; exact ⟨h, h2⟩
set_option maxHeartbeats 800000 in
theorem implLetters (s : ByteArray) (w : World) (hs : s.size ≤ 9223372036854775807) : Calls Try.prog 76 #[.string s, .int .i64 4] w (Leaves w (.bool (nameOK s))) := by
  by_cases h1 : 1 ≤ s.size ∧ s.size ≤ 4
  · obtain ⟨h1a, h1b⟩ := h1
    go_enter Try.func76, Try.ntmps76
    go_wp2_with fail
    go_loop [5] (fun i => ∃ k : Nat, i = .int .i64 k ∧ k ≤ s.size ∧ Hid (LetTo s k)) (fun i => s.size - (intOf i).toNat)
    case atStart => exact ⟨0, rfl, Nat.zero_le _, hid (fun i hi => by omega)⟩
    case round =>
      obtain ⟨k, rfl, hk, HT⟩ := hrel
      by_cases hlt : k < s.size
      · have HX := hid (sx_lt hlt)
        by_cases g1 : (s[k].toNat : Int) < 97
        · have HF := hid (nameOK_let hlt (fun g => by rw [HX.out] at g; omega))
          go_wp2_with fail
          go_ret
          exact ⟨by rw [HF.out]; rfl, (by repeat (first | with_reducible assumption | with_reducible exact Below.refl _ _ | with_reducible refine below_drewN ?_ _ | with_reducible refine Below.al ?_ (by first | with_reducible exact Nat.le_refl _ | omega | (simp; done) | (simp; omega) | exact Nat.le_refl _) _ | with_reducible refine Below.setCell ?_ (by first | with_reducible exact Nat.le_refl _ | omega | (simp; done) | (simp; omega) | exact Nat.le_refl _) _ | assumption | exact Below.refl _ _ | refine below_drewN ?_ _ | refine Below.al ?_ (by first | with_reducible exact Nat.le_refl _ | omega | (simp; done) | (simp; omega) | exact Nat.le_refl _) _ | refine Below.setCell ?_ (by first | with_reducible exact Nat.le_refl _ | omega | (simp; done) | (simp; omega) | exact Nat.le_refl _) _))⟩
        · by_cases g2 : 122 < (s[k].toNat : Int)
          · have HF := hid (nameOK_let hlt (fun g => by rw [HX.out] at g; omega))
            go_wp2_with fail
            go_ret
            exact ⟨by rw [HF.out]; rfl, (by repeat (first | with_reducible assumption | with_reducible exact Below.refl _ _ | with_reducible refine below_drewN ?_ _ | with_reducible refine Below.al ?_ (by first | with_reducible exact Nat.le_refl _ | omega | (simp; done) | (simp; omega) | exact Nat.le_refl _) _ | with_reducible refine Below.setCell ?_ (by first | with_reducible exact Nat.le_refl _ | omega | (simp; done) | (simp; omega) | exact Nat.le_refl _) _ | assumption | exact Below.refl _ _ | refine below_drewN ?_ _ | refine Below.al ?_ (by first | with_reducible exact Nat.le_refl _ | omega | (simp; done) | (simp; omega) | exact Nat.le_refl _) _ | refine Below.setCell ?_ (by first | with_reducible exact Nat.le_refl _ | omega | (simp; done) | (simp; omega) | exact Nat.le_refl _) _))⟩
          · have HT2 : Hid (LetTo s (k + 1)) := hid (fun i hi => by
              by_cases e : i = k
              · subst e; rw [HX.out]; omega
              · exact HT.out i (by omega))
            go_wp2_with fail
            go_round
            case rel => exact ⟨k + 1, by go_num, by omega, HT2⟩
            case measure => simp [intOf]; omega
      · have HF := hid (nameOK_yes ⟨h1a, h1b⟩ (by intro i hi; exact HT.out i (by omega)))
        go_wp2_with fail
        go_ret
        exact ⟨by rw [HF.out]; rfl, (by repeat (first | with_reducible assumption | with_reducible exact Below.refl _ _ | with_reducible refine below_drewN ?_ _ | with_reducible refine Below.al ?_ (by first | with_reducible exact Nat.le_refl _ | omega | (simp; done) | (simp; omega) | exact Nat.le_refl _) _ | with_reducible refine Below.setCell ?_ (by first | with_reducible exact Nat.le_refl _ | omega | (simp; done) | (simp; omega) | exact Nat.le_refl _) _ | assumption | exact Below.refl _ _ | refine below_drewN ?_ _ | refine Below.al ?_ (by first | with_reducible exact Nat.le_refl _ | omega | (simp; done) | (simp; omega) | exact Nat.le_refl _) _ | refine Below.setCell ?_ (by first | with_reducible exact Nat.le_refl _ | omega | (simp; done) | (simp; omega) | exact Nat.le_refl _) _))⟩
  · have HF := hid (nameOK_size h1)
    by_cases h2 : s.size < 1
    · go_enter Try.func76, Try.ntmps76
      go_wp2_with fail
      go_ret
      exact ⟨by rw [HF.out]; rfl, (by repeat (first | with_reducible assumption | with_reducible exact Below.refl _ _ | with_reducible refine below_drewN ?_ _ | with_reducible refine Below.al ?_ (by first | with_reducible exact Nat.le_refl _ | omega | (simp; done) | (simp; omega) | exact Nat.le_refl _) _ | with_reducible refine Below.setCell ?_ (by first | with_reducible exact Nat.le_refl _ | omega | (simp; done) | (simp; omega) | exact Nat.le_refl _) _ | assumption | exact Below.refl _ _ | refine below_drewN ?_ _ | refine Below.al ?_ (by first | with_reducible exact Nat.le_refl _ | omega | (simp; done) | (simp; omega) | exact Nat.le_refl _) _ | refine Below.setCell ?_ (by first | with_reducible exact Nat.le_refl _ | omega | (simp; done) | (simp; omega) | exact Nat.le_refl _) _))⟩
    · have h3 : 4 < s.size := by omega
      clear h1
      go_enter Try.func76, Try.ntmps76
      go_wp2_with fail
      go_ret
      exact ⟨by rw [HF.out]; rfl, (by repeat (first | with_reducible assumption | with_reducible exact Below.refl _ _ | with_reducible refine below_drewN ?_ _ | with_reducible refine Below.al ?_ (by first | with_reducible exact Nat.le_refl _ | omega | (simp; done) | (simp; omega) | exact Nat.le_refl _) _ | with_reducible refine Below.setCell ?_ (by first | with_reducible exact Nat.le_refl _ | omega | (simp; done) | (simp; omega) | exact Nat.le_refl _) _ | assumption | exact Below.refl _ _ | refine below_drewN ?_ _ | refine Below.al ?_ (by first | with_reducible exact Nat.le_refl _ | omega | (simp; done) | (simp; omega) | exact Nat.le_refl _) _ | refine Below.setCell ?_ (by first | with_reducible exact Nat.le_refl _ | omega | (simp; done) | (simp; omega) | exact Nat.le_refl _) _))⟩
theorem implName (s : ByteArray) (w : World) (hs : s.size ≤ 9223372036854775807) : Calls Try.prog 68 #[.string s] w (Leaves w (.bool (nameOK s))) := by
  go_enter Try.func68, Try.ntmps68
  go_wp2_with fail
  refine (implLetters s _ hs).mono ?_
  rintro e w1 ⟨rfl, hb1⟩
  go_wp2_with fail
  go_ret
  exact ⟨rfl, hb1⟩
set_option maxHeartbeats 800000 in
theorem specName (s : ByteArray) (w : World) (hs : s.size ≤ 9223372036854775807) : Calls Try.prog 58 #[.string s] w (Leaves w (.bool (nameOK s))) := by
  go_enter Try.func58, Try.ntmps58
  go_wp2_with fail
  go_loop [3] (fun i => ∃ k : Nat, i = .int .i64 k ∧ k ≤ s.size ∧ Hid (LetTo s k)) (fun i => s.size - (intOf i).toNat)
  case atStart => exact ⟨0, rfl, Nat.zero_le _, hid (fun i hi => by omega)⟩
  case round =>
    obtain ⟨k, rfl, hk, HT⟩ := hrel
    by_cases hlt : k < s.size
    · have HX := hid (sx_lt hlt)
      by_cases g1 : (s[k].toNat : Int) < 97
      · have HF := hid (nameOK_let hlt (fun g => by rw [HX.out] at g; omega))
        go_wp2_with fail
        go_ret
        exact ⟨by rw [HF.out]; rfl, (by repeat (first | with_reducible assumption | with_reducible exact Below.refl _ _ | with_reducible refine below_drewN ?_ _ | with_reducible refine Below.al ?_ (by first | with_reducible exact Nat.le_refl _ | omega | (simp; done) | (simp; omega) | exact Nat.le_refl _) _ | with_reducible refine Below.setCell ?_ (by first | with_reducible exact Nat.le_refl _ | omega | (simp; done) | (simp; omega) | exact Nat.le_refl _) _ | assumption | exact Below.refl _ _ | refine below_drewN ?_ _ | refine Below.al ?_ (by first | with_reducible exact Nat.le_refl _ | omega | (simp; done) | (simp; omega) | exact Nat.le_refl _) _ | refine Below.setCell ?_ (by first | with_reducible exact Nat.le_refl _ | omega | (simp; done) | (simp; omega) | exact Nat.le_refl _) _))⟩
      · by_cases g2 : 122 < (s[k].toNat : Int)
        · have HF := hid (nameOK_let hlt (fun g => by rw [HX.out] at g; omega))
          go_wp2_with fail
          go_ret
          exact ⟨by rw [HF.out]; rfl, (by repeat (first | with_reducible assumption | with_reducible exact Below.refl _ _ | with_reducible refine below_drewN ?_ _ | with_reducible refine Below.al ?_ (by first | with_reducible exact Nat.le_refl _ | omega | (simp; done) | (simp; omega) | exact Nat.le_refl _) _ | with_reducible refine Below.setCell ?_ (by first | with_reducible exact Nat.le_refl _ | omega | (simp; done) | (simp; omega) | exact Nat.le_refl _) _ | assumption | exact Below.refl _ _ | refine below_drewN ?_ _ | refine Below.al ?_ (by first | with_reducible exact Nat.le_refl _ | omega | (simp; done) | (simp; omega) | exact Nat.le_refl _) _ | refine Below.setCell ?_ (by first | with_reducible exact Nat.le_refl _ | omega | (simp; done) | (simp; omega) | exact Nat.le_refl _) _))⟩
        · have HT2 : Hid (LetTo s (k + 1)) := hid (fun i hi => by
            by_cases e : i = k
            · subst e; rw [HX.out]; omega
            · exact HT.out i (by omega))
          go_wp2_with fail
          go_round
          case rel => exact ⟨k + 1, by go_num, by omega, HT2⟩
          case measure => simp [intOf]; omega
    · have hT : LetTo s s.size := fun i hi => HT.out i (by omega)
      have HTT := hid hT; clear hT
      obtain ⟨d, hd⟩ : ∃ d, decide ((1 : Int) ≤ s.size ∧ (s.size : Int) ≤ 4) = d := ⟨_, rfl⟩
      have HD := hid hd; clear hd
      have HF : Hid (nameOK s = d) := hid (by
        rw [← HD.out]
        by_cases h : 1 ≤ s.size ∧ s.size ≤ 4
        · rw [nameOK_yes h HTT.out]; symm; simp; omega
        · rw [nameOK_size h]; symm; simp; omega)
      go_wp2_with fail
      refine (specIn s.size 1 4 _).mono ?_
      rintro e w1 ⟨rfl, m1, rfl⟩
      rw [HD.out]
      go_wp2_with fail
      go_ret
      exact ⟨by rw [HF.out]; rfl, (by repeat (first | with_reducible assumption | with_reducible exact Below.refl _ _ | with_reducible refine below_drewN ?_ _ | with_reducible refine Below.al ?_ (by first | with_reducible exact Nat.le_refl _ | omega | (simp; done) | (simp; omega) | exact Nat.le_refl _) _ | with_reducible refine Below.setCell ?_ (by first | with_reducible exact Nat.le_refl _ | omega | (simp; done) | (simp; omega) | exact Nat.le_refl _) _ | assumption | exact Below.refl _ _ | refine below_drewN ?_ _ | refine Below.al ?_ (by first | with_reducible exact Nat.le_refl _ | omega | (simp; done) | (simp; omega) | exact Nat.le_refl _) _ | refine Below.setCell ?_ (by first | with_reducible exact Nat.le_refl _ | omega | (simp; done) | (simp; omega) | exact Nat.le_refl _) _))⟩
end Go.Proofs.Ytalfldflnacpeaa
