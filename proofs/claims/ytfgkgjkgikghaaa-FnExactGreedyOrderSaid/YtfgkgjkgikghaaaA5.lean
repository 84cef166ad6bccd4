/- Walks: measuring and comparing slices of atoms. -/
import Derived.Test.YtfgkgjkgikghaaaA4
import Derived.Test.YtfgkgjkgikghaaaLater
namespace Go.Proofs.Ytfgkgjkgikghaaa
set_option linter.unusedSimpArgs false
set_option linter.unusedVariables false
open Go.RowKit
theorem AtomsA.be {fz : Bool} {lo hi B : Nat} {w w' : World} {a : Option Addr} {n c : Nat} {xs : List AtomD} (h : AtomsA fz lo hi w a n c xs) (hb : Below B w w') (hh : hi ≤ B) : AtomsA fz lo hi w' a n c xs := SlA.be atomOK h hb hh
set_option maxHeartbeats 1600000 in
theorem szAtoms {fz : Bool} {lo hi : Nat} (a : Option Addr) (n c : Nat) (xs : List AtomD) (left : Int) (w : World) (hI : AtomsA fz lo hi w a n c xs) (hh : hi ≤ w.heap.size) (h0 : 0 ≤ left) (h1 : left ≤ 1048576) :
    Calls Try.prog 14 #[.slice a n c, .int .i64 left] w (Leaves w (.int .i64 (szI (atomsSz xs) left))) := by
  have hl := hI.len
  have hs := hI.small
  have HL := hid hl; clear hl
  by_cases hle : (n : Int) ≤ left
  · go_enter Try.func14, Try.ntmps14
    go_wp2_with fail
    go_loopw [1, 5] (fun l i wr => ∃ (k : Nat) (t : Int), i = .int .i64 k ∧ l = .int .i64 t ∧ k ≤ n ∧ Hid (t = left - n - atomLens xs k) ∧ 0 ≤ t ∧ t ≤ 1048576 ∧ Hid (Below w.heap.size w wr)) (fun _ i _ => n - (intOf i).toNat)
    case atStart => exact ⟨0, _, rfl, rfl, by omega, hid (by simp [atomLens]), by omega, by omega, hid (Below.refl _ _)⟩
    case round =>
      obtain ⟨k, t, rfl, rfl, hk2, HA, ht0, ht1, HB⟩ := hrel
      by_cases hlt : k < n
      · have hIr := hI.be HB.out hh
        have hzr := HB.out.size
        obtain ⟨b, off, rfl⟩ := atomsSome hIr (by omega)
        obtain ⟨_, _, hsz, ra, rn, rc, d0, d1, hr, _⟩ := atomsAt hIr hlt
        have HI := hid (And.intro hI hIr); clear hI hIr
        generalize hnm : (ax xs k).nm = nm at *
        generalize hvs : (ax xs k).vs = vs at *
        by_cases hle2 : ((szAtomD nm vs : Nat) : Int) ≤ t
        · obtain ⟨u, hu⟩ : ∃ u, u = t - (szAtomD nm vs : Nat) := ⟨_, rfl⟩
          have hu0 : 0 ≤ u := by omega
          have hu1 : u ≤ 1048576 := by omega
          have HS : Hid (szI (szAtomD nm vs) t = u) := hid (by rw [szI_yes hle2, hu])
          have HU : Hid (u = left - n - atomLens xs (k + 1)) := hid (by have g := HA.out; simp only [atomLens]; rw [hnm, hvs, hu]; unfold szAtomD; omega)
          have HN := hid (And.intro hnm (And.intro hvs (And.intro hle2 hu))); clear hnm hvs hle2 hu
          go_wp2_with fail
          refine (szK_Atom nm ra rn rc vs t _ ⟨hsz, hr⟩ (by omega) ht0 ht1).mono ?_
          rintro e w3 ⟨rfl, hb3⟩
          rw [HS.out]
          have HB3 := hid (Below.calm HB.out hb3); clear hb3
          go_wp2_with fail
          go_roundw
          case rel => exact ⟨k + 1, _, by go_num, rfl, by omega, HU, hu0, hu1, HB3⟩
          case measure => simp [intOf]; omega
        · have HS := hid (szI_no hle2)
          have HF : Hid (szI (atomsSz xs) left = -1) := hid (by
            have g := HA.out
            have g2 := atomLens_mono (xs := xs) (i := k + 1) (k := xs.length) (by rw [HL.out]; omega)
            simp only [atomLens] at g2; rw [hnm, hvs] at g2
            unfold szAtomD at hle2
            have g3 := HL.out
            rw [szI_no (by unfold atomsSz; omega)])
          have HN := hid (And.intro hnm (And.intro hvs hle2)); clear hnm hvs hle2
          go_wp2_with fail
          refine (szK_Atom nm ra rn rc vs t _ ⟨hsz, hr⟩ (by omega) ht0 ht1).mono ?_
          rintro e w3 ⟨rfl, hb3⟩
          rw [HS.out]
          have HB3 := hid (Below.calm HB.out hb3); clear hb3
          go_wp2_with fail
          go_ret
          exact ⟨by rw [HF.out]; rfl, HB3.out⟩
      · have HF : Hid (szI (atomsSz xs) left = t) := hid (by
          have g := HA.out; have g3 := HL.out
          obtain rfl : k = n := by omega
          rw [szI_yes (by unfold atomsSz; rw [g3]; omega)]; unfold atomsSz; rw [g3]; omega)
        go_wp2_with fail
        go_ret
        exact ⟨by rw [HF.out]; rfl, HB.out⟩
  · have HF : Hid (szI (atomsSz xs) left = -1) := hid (by have g3 := HL.out; rw [szI_no (by unfold atomsSz; omega)])
    go_enter Try.func14, Try.ntmps14
    go_wp2_with fail
    go_ret
    exact ⟨by rw [HF.out]; rfl, (by repeat (first | with_reducible assumption | with_reducible exact Below.refl _ _ | with_reducible refine below_drewN ?_ _ | with_reducible refine Below.al ?_ (by first | with_reducible exact Nat.le_refl _ | omega | (simp; done) | (simp; omega) | exact Nat.le_refl _) _ | with_reducible refine Below.setCell ?_ (by first | with_reducible exact Nat.le_refl _ | omega | (simp; done) | (simp; omega) | exact Nat.le_refl _) _ | assumption | exact Below.refl _ _ | refine below_drewN ?_ _ | refine Below.al ?_ (by first | with_reducible exact Nat.le_refl _ | omega | (simp; done) | (simp; omega) | exact Nat.le_refl _) _ | refine Below.setCell ?_ (by first | with_reducible exact Nat.le_refl _ | omega | (simp; done) | (simp; omega) | exact Nat.le_refl _) _))⟩
set_option maxHeartbeats 1600000 in
theorem eqAtoms {fz fz' : Bool} {lo hi lo' hi' : Nat} (a a' : Option Addr) (n c n' c' : Nat) (xs : List AtomD) (w : World) (hI : AtomsA fz lo hi w a n c xs) (hh : hi ≤ w.heap.size) (hJ : AtomsA fz' lo' hi' w a' n' c' xs) (hh' : hi' ≤ w.heap.size) :
    Calls Try.prog 30 #[.slice a n c, .slice a' n' c'] w (Leaves w (.bool true)) := by
  have hl := hI.len
  have hl' := hJ.len
  have hs := hI.small
  obtain rfl : n = n' := by omega
  clear hl hl'
  have hb : ((n : Int) != (n : Int)) = false := by simp
  go_enter Try.func30, Try.ntmps30
  go_wp2_with fail
  go_loopw [5] (fun i wr => ∃ k : Nat, i = .int .i64 k ∧ k ≤ n ∧ Hid (Below w.heap.size w wr)) (fun i _ => n - (intOf i).toNat)
  case atStart => exact ⟨0, rfl, by omega, hid (Below.refl _ _)⟩
  case round =>
    obtain ⟨k, rfl, hk, HB⟩ := hrel
    by_cases hlt : k < n
    · have hzr := HB.out.size
      have hIr := hI.be HB.out hh
      have hJr := hJ.be HB.out hh'
      obtain ⟨b, off, rfl⟩ := atomsSome hIr (by omega)
      obtain ⟨g1, g2, _, ra, rn, rc, d0, d1, hr, _⟩ := atomsAt hIr hlt
      obtain ⟨b', off', rfl⟩ := atomsSome hJr (by omega)
      obtain ⟨g1', g2', _, ra', rn', rc', d0', d1', hr', _⟩ := atomsAt hJr hlt
      have e0 : ∀ x : Later wr.heap.size wr, x.w.cell? ⟨b, off + k * 2, none⟩ = some (.string (ax xs k).nm) := fun x => x.cell d0 (by omega)
      have e1 : ∀ x : Later wr.heap.size wr, x.w.cell? ⟨b, off + k * 2 + 1, none⟩ = some (.slice ra rn rc) := fun x => x.cell d1 (by omega)
      have e0' : ∀ x : Later wr.heap.size wr, x.w.cell? ⟨b', off' + k * 2, none⟩ = some (.string (ax xs k).nm) := fun x => x.cell d0' (by omega)
      have e1' : ∀ x : Later wr.heap.size wr, x.w.cell? ⟨b', off' + k * 2 + 1, none⟩ = some (.slice ra' rn' rc') := fun x => x.cell d1' (by omega)
      have HC := hid (fun x : Later wr.heap.size wr => later_of x (Nat.le_refl _) (eqAtom1 (ax xs k).nm ra ra' rn rc rn' rc' (ax xs k).vs x.w (beInts hr x.be (by omega)) (by have := x.size; omega) (beInts hr' x.be (by omega)) (by have := x.size; omega)))
      have HI := hid (And.intro (And.intro hI hIr) (And.intro (And.intro hJ hJr) (And.intro (And.intro hr hr') (And.intro (And.intro d0 d1) (And.intro d0' d1'))))); clear hI hIr hJ hJr hr hr' d0 d1 d0' d1'
      go_wp2_with fail
      refine wp_region_later (B := wr.heap.size) (w0 := wr) (by kernel_rfl) (by kernel_rfl) (Below.refl _ _) ?_
      repeat (any_goals (first | go_big_quiet_step (((go_at_call 47; exact HC.out _))) | quiet_step (((go_at_call 47; exact HC.out _)))))
      refine wpQuiet_nil ?_
      intro _ hw'
      obtain ⟨nq, hw''⟩ := hw'
      subst hw''
      have HQ := hid nq.be
      generalize nq.w = wq at *
      have HB2 := hid (Below.calm HB.out HQ.out)
      go_wp2_with fail
      go_roundw
      case rel => exact ⟨k + 1, by go_num, by omega, HB2⟩
      case measure => simp [intOf]; omega
    · go_wp2_with fail
      go_ret
      exact ⟨rfl, HB.out⟩
end Go.Proofs.Ytfgkgjkgikghaaa
