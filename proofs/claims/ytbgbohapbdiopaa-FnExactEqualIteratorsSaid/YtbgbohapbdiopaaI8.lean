/- Walks: comparing iterators. -/
import Derived.Test.YtbgbohapbdiopaaI7
import Derived.Test.YtbgbohapbdiopaaIt
import Derived.Test.YtbgbohapbdiopaaQ5
import Derived.Deep.CutBlock
import Derived.Deep.DeepCutAuto
namespace Go.Proofs.Ytbgbohapbdiopaa
open Go.RowKit
set_option maxHeartbeats 1600000 in
theorem specEqRel {fz fz' : Bool} {lo hi lo' hi' : Nat} (ar ar' : Int) (a a' : Option Addr) (n c n' c' : Nat) (rows rows' : List (List Int)) (w : World) (hI : RowsA fz lo hi w a n c rows) (hh : hi ≤ w.heap.size) (hJ : RowsA fz' lo' hi' w a' n' c' rows') (hh' : hi' ≤ w.heap.size) :
    Calls Try.prog 28 #[trieV ar a n c, trieV ar' a' n' c'] w (Leaves w (.bool (eqT ar ar' rows rows'))) := by
  have hl := hI.len
  have hs := hI.small
  have hl' := hJ.len
  have hs' := hJ.small
  have HL := hid (And.intro hl hl'); clear hl hl'
  by_cases he : ar = ar'
  · have hb : (ar != ar') = false := by simp [he]
    have hE : eqT ar ar' rows rows' = eqLL rows rows' := by unfold eqT eqLL; simp [he]
    rw [hE]
    have HE := hid (And.intro he hE); clear he hE
    by_cases hn : n = n'
    · subst hn
      have hbn : ((n : Int) != (n : Int)) = false := by simp
      obtain ⟨W, hW⟩ : ∃ W, W = (w.alloc (.cells #[.int .i64 ar, .slice a n c] 49)).alloc (.cells #[.int .i64 ar', .slice a' n c'] 49) := ⟨_, rfl⟩
      have hBW : Below w.heap.size w W := by rw [hW]; exact (by repeat (first | assumption | exact Below.refl _ _ | refine below_drewN ?_ _ | refine Below.al ?_ (by first | exact Nat.le_refl _ | omega | (simp; done) | (simp; omega)) _ | refine Below.setCell ?_ (by first | exact Nat.le_refl _ | omega | (simp; done) | (simp; omega)) _))
      have c0 : W.cell? ⟨w.heap.size, 0, none⟩ = some (.int .i64 ar) := by rw [hW]; first | (go_simp; done) | (simp [World.cell?]; done)
      have c1 : W.cell? ⟨w.heap.size, 1, none⟩ = some (.slice a n c) := by rw [hW]; first | (go_simp; done) | (simp [World.cell?]; done)
      have d0 : W.cell? ⟨w.heap.size + 1, 0, none⟩ = some (.int .i64 ar') := by rw [hW]; first | (go_simp; done) | (simp [World.cell?]; done)
      have d1 : W.cell? ⟨w.heap.size + 1, 1, none⟩ = some (.slice a' n c') := by rw [hW]; first | (go_simp; done) | (simp [World.cell?]; done)
      have hIW := hI.be intsOK hBW hh
      have hJW := hJ.be intsOK hBW hh'
      have HW := hid (And.intro hW (And.intro hBW (And.intro (And.intro hI hJ) (And.intro hIW hJW)))); clear hW hBW hI hJ hIW hJW
      go_enter Try.func28, Try.ntmps28
      go_upto_region 1 with fail
      rw [← HW.out.1]
      go_wp2_with fail
      go_loopw [5] (fun i wr => ∃ k : Nat, i = .int .i64 k ∧ k ≤ n ∧ Hid (∀ j, j < k → rx rows j = rx rows' j) ∧ Hid (∃ m, wr = W.drewN m)) (fun i _ => n - (intOf i).toNat)
      case atStart => exact ⟨0, rfl, by omega, hid (fun i hi => by omega), hid ⟨0, rfl⟩⟩
      case round =>
        obtain ⟨k, rfl, hk, HT, HD⟩ := hrel
        have hbr : ∀ q, Below w.heap.size w (wr.drewN q) := by obtain ⟨m, rfl⟩ := HD.out; intro q; exact below_drewN (below_drewN HW.out.2.1 m) q
        have HBR := hid hbr; clear hbr
        have c1r : wr.cell? ⟨w.heap.size, 1, none⟩ = some (.slice a n c) := by obtain ⟨m, rfl⟩ := HD.out; exact c1
        have d1r : wr.cell? ⟨w.heap.size + 1, 1, none⟩ = some (.slice a' n c') := by obtain ⟨m, rfl⟩ := HD.out; exact d1
        by_cases hlt : k < n
        · have hIr : RowsA fz lo hi wr a n c rows := SlA.keep intsOK HW.out.2.2.2.1 (keeps_dr lo hi HD.out)
          have hJr : RowsA fz' lo' hi' wr a' n c' rows' := SlA.keep intsOK HW.out.2.2.2.2 (keeps_dr lo' hi' HD.out)
          obtain ⟨b, off, rfl⟩ := RowsA.some hIr (by omega)
          obtain ⟨_, _, ra, rn, rc, hc, hr, _⟩ := RowsA.at hIr hlt
          obtain ⟨b', off', rfl⟩ := RowsA.some hJr (by omega)
          obtain ⟨_, _, ra', rn', rc', hc', hr', _⟩ := RowsA.at hJr hlt
          obtain ⟨d, hd⟩ : ∃ d, cmpR (rx rows k) (rx rows' k) = d := ⟨_, rfl⟩
          have HC := hid (fun m => by have := specCmpR ra ra' rn rc rn' rc' _ _ (wr.drewN m) (hr.drewN m) (hr'.drewN m); rwa [hd] at this)
          have HI := hid (And.intro hd (And.intro hIr hJr)); clear hIr hJr hr hr' hd
          by_cases hd0 : d = 0
          · have hbd : (d != 0) = false := by simp [hd0]
            have HT2 : Hid (∀ j, j < k + 1 → rx rows j = rx rows' j) := hid (fun i hi => by
              by_cases e : i = k
              · subst e; exact cmpR_zero (by rw [HI.out.1]; exact hd0)
              · exact HT.out i (by omega))
            have H0 := hid hd0; clear hd0
            go_wp2_with fail
            go_quiet ((go_at_call 30; exact (Calls.quiet_of (HC.out _))))
            go_wp2_with fail
            go_roundw
            case rel => exact ⟨k + 1, by go_num, by omega, HT2, hid (by first | exact HD.out | exact dr_more HD.out _ | (rw [dd]; exact dr_more HD.out _) | (rw [dd, dd]; exact dr_more HD.out _) | exact ⟨_, rfl⟩ | exact ⟨_, dd⟩)⟩
            case measure => simp [intOf]; omega
          · have hbd : (d != 0) = true := by simp [hd0]
            have HF := hid (eqLL_ne (xs := rows) (ys := rows') (i := k) (fun e => hd0 (by rw [← HI.out.1, e]; exact cmpR_self _)))
            have H0 := hid hd0; clear hd0
            go_wp2_with fail
            go_quiet ((go_at_call 30; exact (Calls.quiet_of (HC.out _))))
            go_wp2_with fail
            go_ret
            exact ⟨by rw [HF.out]; rfl, HBR.out _⟩
        · have HF := hid (eqLL_true (xs := rows) (ys := rows') (by rw [HL.out.1, HL.out.2]) (by rw [HL.out.1]; intro i hi; exact HT.out i (by omega)))
          go_wp2_with fail
          go_ret
          exact ⟨by rw [HF.out]; rfl, HBR.out 0⟩
    · have hbn : ((n : Int) != (n' : Int)) = true := by rw [bne_iff_ne]; omega
      have HF := hid (eqLL_len (xs := rows) (ys := rows') (by rw [HL.out.1, HL.out.2]; exact hn))
      have HN := hid hn; clear hn
      go_enter Try.func28, Try.ntmps28
      go_wp2_with fail
      go_ret
      exact ⟨by rw [HF.out]; rfl, (by repeat (first | assumption | exact Below.refl _ _ | refine below_drewN ?_ _ | refine Below.al ?_ (by first | exact Nat.le_refl _ | omega | (simp; done) | (simp; omega)) _ | refine Below.setCell ?_ (by first | exact Nat.le_refl _ | omega | (simp; done) | (simp; omega)) _))⟩
  · have hb : (ar != ar') = true := by simp [he]
    have hE : eqT ar ar' rows rows' = false := by unfold eqT; simp [he]
    rw [hE]
    have HE := hid (And.intro he hE); clear he hE
    go_enter Try.func28, Try.ntmps28
    go_wp2_with fail
    go_ret
    exact ⟨rfl, (by repeat (first | assumption | exact Below.refl _ _ | refine below_drewN ?_ _ | refine Below.al ?_ (by first | exact Nat.le_refl _ | omega | (simp; done) | (simp; omega)) _ | refine Below.setCell ?_ (by first | exact Nat.le_refl _ | omega | (simp; done) | (simp; omega)) _))⟩
end Go.Proofs.Ytbgbohapbdiopaa
