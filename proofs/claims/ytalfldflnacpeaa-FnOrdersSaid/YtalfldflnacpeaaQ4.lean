/- Walks: comparing rows. -/
import Derived.Test.YtalfldflnacpeaaQ2
namespace Go.Proofs.Ytalfldflnacpeaa
set_option linter.unusedSimpArgs false
set_option linter.unusedVariables false
open Go.RowKit
set_option maxHeartbeats 1600000 in
theorem implCmpR {fz fz' : Bool} {lo hi lo' hi' : Nat} (a a' : Option Addr) (n c n' c' : Nat) (xs ys : List Int) (w : World) (hI : IntsA fz lo hi w a n c xs) (hJ : IntsA fz' lo' hi' w a' n' c' ys) :
    Calls Try.prog 37 #[.slice a n c, .slice a' n' c'] w (Gives w (.int .i64 (cmpR xs ys))) := by
  have hl := hI.len
  have hs := hI.small
  have hl' := hJ.len
  have hs' := hJ.small
  have HL := hid (And.intro hl hl'); clear hl hl'
  go_enter Try.func37, Try.ntmps37
  go_wp2
  go_loopw [5] (fun i wr => ∃ k : Nat, i = .int .i64 k ∧ k ≤ n ∧ k ≤ n' ∧ Hid (∀ i, i < k → ix xs i = ix ys i) ∧ ∃ m, wr = w.drewN m) (fun i _ => n - (intOf i).toNat)
  case atStart => exact ⟨0, rfl, by omega, by omega, hid (fun i hi => by omega), 0, rfl⟩
  case round =>
    obtain ⟨k, rfl, hk, hk', HT, m, rfl⟩ := hrel
    by_cases hlt : k < n
    · by_cases hlt' : k < n'
      · obtain ⟨b, off, rfl, _, _, hc, _⟩ := hI.open (by omega)
        obtain ⟨b', off', rfl, _, _, hc', _⟩ := hJ.open (by omega)
        have c0 := hc k hlt
        have c0' := hc' k hlt'
        clear hc hc'
        generalize hxe : ix xs k = x at *
        generalize hye : ix ys k = y at *
        have HX := hid (And.intro hxe hye); clear hxe hye
        by_cases he : x = y
        · have hb : (x != y) = false := by simp [he]
          have HT2 : Hid (∀ i, i < k + 1 → ix xs i = ix ys i) := hid (fun i hi => by
            by_cases e : i = k
            · subst e; rw [HX.out.1, HX.out.2]; exact he
            · exact HT.out i (by omega))
          have HE := hid he; clear he
          obtain ⟨wo, hwo⟩ : ∃ wo : World, wo = w.drewN m := ⟨_, rfl⟩
          have d0 : wo.cell? ⟨b, off + k, none⟩ = some (.int .i64 x) := by rw [hwo]; exact c0
          have d0' : wo.cell? ⟨b', off' + k, none⟩ = some (.int .i64 y) := by rw [hwo]; exact c0'
          rw [← hwo]
          have HD := hid hwo; clear hwo
          go_wp2
          go_quiet (fail)
          go_wp2
          go_roundw
          case rel => exact ⟨k + 1, by go_num, by omega, by omega, HT2, by rw [HD.out]; first | exact ⟨_, rfl⟩ | exact ⟨_, dd⟩⟩
          case measure => simp [intOf]; omega
        · have hb : (x != y) = true := by simp [he]
          have HC := hid (cmpR_at HT.out (by rw [HL.out.1]; exact hlt) (by rw [HL.out.2]; exact hlt') (by rw [HX.out.1, HX.out.2]; exact he))
          have HE := hid he; clear he
          obtain ⟨wo, hwo⟩ : ∃ wo : World, wo = w.drewN m := ⟨_, rfl⟩
          have d0 : wo.cell? ⟨b, off + k, none⟩ = some (.int .i64 x) := by rw [hwo]; exact c0
          have d0' : wo.cell? ⟨b', off' + k, none⟩ = some (.int .i64 y) := by rw [hwo]; exact c0'
          rw [← hwo]
          have HD := hid hwo; clear hwo
          go_wp2
          go_quiet (fail)
          go_wp2
          generalize hwp : World.drewN wo _ = wp
          have e0 : wp.cell? ⟨b, off + k, none⟩ = some (.int .i64 x) := by rw [← hwp]; exact d0
          have e0' : wp.cell? ⟨b', off' + k, none⟩ = some (.int .i64 y) := by rw [← hwp]; exact d0'
          have HP : Hid (∃ q, wp = w.drewN q) := hid (by rw [← hwp, HD.out]; first | exact ⟨_, rfl⟩ | exact ⟨_, dd⟩)
          clear hwp d0 d0'
          go_quiet ((go_at_call 62; exact (Calls.quiet_of (implCmp x y _))))
          go_wp2
          go_ret
          exact ⟨by rw [HC.out, HX.out.1, HX.out.2]; rfl, dr_more HP.out _⟩
      · obtain rfl : k = n' := by omega
        have HC := hid (cmpR_end HT.out (by rw [HL.out.1]; omega) (by rw [HL.out.2]; omega) (.inr HL.out.2.symm))
        go_wp2_with fail
        refine (implCmp _ _ _).mono ?_
        rintro e w1 ⟨rfl, m1, rfl⟩
        go_wp2_with fail
        go_ret
        exact ⟨by rw [HC.out, HL.out.1, HL.out.2]; rfl, by first | exact ⟨_, rfl⟩ | exact ⟨_, dd⟩⟩
    · obtain rfl : k = n := by omega
      have HC := hid (cmpR_end HT.out (by rw [HL.out.1]; omega) (by rw [HL.out.2]; omega) (.inl HL.out.1.symm))
      go_wp2_with fail
      refine (implCmp _ _ _).mono ?_
      rintro e w1 ⟨rfl, m1, rfl⟩
      go_wp2_with fail
      go_ret
      exact ⟨by rw [HC.out, HL.out.1, HL.out.2]; rfl, by first | exact ⟨_, rfl⟩ | exact ⟨_, dd⟩⟩
/- Walks: the reference's comparing of rows and its valid values. -/
end Go.Proofs.Ytalfldflnacpeaa
