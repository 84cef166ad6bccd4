/- Walks: seeking in a list, comparing two lists, measuring and copying a list. -/
import Derived.Test.YteccheoejmmjeaaW1
namespace Go.Proofs.Yteccheoejmmjeaa
set_option linter.unusedSimpArgs false
set_option linter.unusedVariables false
open Go.RowKit

theorem seekF_ge {xs : List Int} {f v : Int} (h : (xs.length : Int) ≤ f) : seekF xs f v = xs.length := seekF_none fun i hi hf => by omega

set_option maxHeartbeats 400000 in
theorem eqInts {fz fz' : Bool} {lo hi lo' hi' : Nat} (a a' : Option Addr) (n c n' c' : Nat) (xs ys : List Int) (w : World) (hI : IntsA fz lo hi w a n c xs) (hJ : IntsA fz' lo' hi' w a' n' c' ys) :
    Calls Try.prog 12 #[.slice a n c, .slice a' n' c'] w (Gives w (.bool (eqL xs ys))) := by
  have hl := hI.len
  have hs := hI.small
  have hl' := hJ.len
  have hs' := hJ.small
  have HL := hid hl; clear hl
  have HL' := hid hl'; clear hl'
  by_cases hn : n = n'
  · subst hn
    go_enter Try.func12, Try.ntmps12
    go_wp2
    go_loopw [5] (fun i wr => ∃ k : Nat, i = .int .i64 k ∧ k ≤ n ∧ (∀ j, j < k → ix xs j = ix ys j) ∧ ∃ m, wr = w.drewN m) (fun i _ => n - (intOf i).toNat)
    case atStart => exact ⟨0, rfl, by omega, fun i hi => by omega, 0, rfl⟩
    case round =>
      obtain ⟨k, rfl, hk2, hA, m, rfl⟩ := hrel
      have HA := hid hA; clear hA
      by_cases hlt : k < n
      · obtain ⟨b, off, rfl, _, _, hc, _⟩ := hI.open (by omega)
        obtain ⟨b', off', rfl, _, _, hc', _⟩ := hJ.open (by omega)
        have c0 := hc k (by omega)
        have c1 := hc' k (by omega)
        clear hc hc'
        by_cases he : ix xs k = ix ys k
        · have hb : (ix xs k != ix ys k) = false := by simp [he]
          have He := hid he; clear he
          go_wp2
          go_quiet (fail)
          go_wp2
          go_roundw
          case rel => exact ⟨k + 1, by go_num, by omega, fun i hi => by
            by_cases e : i = k
            · subst e; exact He.out
            · exact HA.out i (by omega), by first | exact ⟨_, rfl⟩ | exact ⟨_, dd⟩⟩
          case measure => simp [intOf]; omega
        · have hb : (ix xs k != ix ys k) = true := by simp [he]
          have He := hid he; clear he
          go_wp2
          go_quiet (fail)
          go_wp2
          go_ret
          exact ⟨ret_bool (eqL_ne He.out).symm, by first | exact ⟨_, rfl⟩ | exact ⟨_, dd⟩⟩
      · go_wp2
        go_ret
        exact ⟨ret_bool (eqL_true (by rw [HL.out, HL'.out]) (by rw [HL.out]; intro i hi; exact HA.out i (by omega))).symm, by first | exact ⟨_, rfl⟩ | exact ⟨_, dd⟩⟩
  · have hb : ((n : Int) != (n' : Int)) = true := by rw [bne_iff_ne]; omega
    have Hn := hid hn; clear hn
    go_enter Try.func12, Try.ntmps12
    go_wp2
    go_ret
    exact ⟨ret_bool (eqL_len (by rw [HL.out, HL'.out]; exact Hn.out)).symm, 0, rfl⟩

set_option maxHeartbeats 400000 in
theorem toInts {lo hi : Nat} (a : Option Addr) (n c : Nat) (xs : List Int) (w : World) (hI : IntsA false lo hi w a n c xs) (hh : hi ≤ w.heap.size) (hn : n ≤ 1048576) :
    Calls Try.prog 8 #[.slice a n c] w (GivesOwn w xs) := by
  have hl := hI.len
  have HL := hid hl; clear hl
  obtain ⟨i0, hi0, hz0, hz1, hz2⟩ := info_parts infoInt
  go_enter Try.func8, Try.ntmps8
  go_wp2_with (at_make; refine wpList_make_full _ rfl _ _ 25 rfl w.heap.size 3 i0 (.int .i64 0) 1 Try.underlying25 hi0 hz0 hz1 _ _ _ _ n rfl rfl rfl rfl ?b1 ?b2 ?b3 ?_)
  case b1 => rw [hz2]; omega
  case b2 => unfold maxLen; omega
  case b3 => exact Nat.le_refl _
  intro w1 hown hgrow
  have hb : Below w.heap.size w w1 := (Below.refl _ _).grown hgrow (Nat.le_refl _) (fun k h => by cases h)
  have hIw : IntsA false lo hi w1 a n c xs := hI.keep (Keeps.of_below hb hh)
  obtain ⟨g, hg⟩ : ∃ g, g = w.heap.size := ⟨_, rfl⟩
  rw [← hg] at hown ⊢
  have hgw : g < w1.heap.size := by
    have := hown.lt g rfl; exact this.2
  have HG := hid hg; clear hg
  have HH := hid (And.intro hh hgrow); clear hh hgrow
  go_wp2
  go_loopw [4] (fun i wr => ∃ k : Nat, i = .int .i64 k ∧ k ≤ n ∧ (∃ vs, wr.ownsRow g 3 1 (.slice (some ⟨g, 0, none⟩) n n) n vs ∧ vs.take k = (xs.take k).map (Value.int .i64)) ∧ Below g w1 wr) (fun i _ => n - (intOf i).toNat)
  case atStart => exact ⟨0, rfl, by omega, ⟨_, hown, by simp⟩, Below.refl _ _⟩
  case round =>
    obtain ⟨k, rfl, hk2, hvs, hbr⟩ := hrel
    obtain ⟨vs, hvs, htk⟩ := hvs
    have HV := hid hvs; clear hvs
    have HT := hid htk; clear htk
    have HB := hid hbr; clear hbr
    by_cases hlt : k < n
    · have hIr : IntsA false lo hi wr a n c xs := hIw.keep (Keeps.of_below HB.out (by rw [HG.out]; exact HH.out.1))
      obtain ⟨b, off, rfl, _, _, hc, _⟩ := hIr.open (by omega)
      have c0 := hc k (by omega)
      have hlen : vs.length = n := by have := HV.out.1; omega
      obtain ⟨v0, c1⟩ : ∃ v0, wr.cell? ⟨g, k, none⟩ = some v0 := by
        have := HV.out.cells (g := g) rfl k vs[k] (by simp [hlen, hlt])
        rw [Addr.add_lit] at this; exact ⟨_, by simpa using this⟩
      have c2 := HV.out.frozenAt k
      have hst := HV.out.stored k (.int .i64 (ix xs k))
      have HS := hid hst; clear hst
      have HLN := hid hlen; clear hlen
      clear hc hIr
      go_wp2
      go_roundw
      case rel => exact ⟨k + 1, by go_num, by omega, ⟨_, HS.out.1, by
          have h1 := HLN.out
          have h2 := HL.out
          rw [List.take_succ_eq_append_getElem (by simp; omega), List.take_set_of_le (by omega), HT.out, List.take_succ_eq_append_getElem (by omega), List.map_append, ← ix_lt (by omega)]
          simp⟩, HB.out.grown HS.out.2 (by have := HB.out.size; omega) (fun j hj => by cases hj; omega)⟩
      case measure => simp [intOf]; omega
    · go_wp2
      go_ret
      refine ⟨_, n, n, rfl, ⟨?_, hI.2.2.2.1⟩, ?_⟩
      · have h1 := HV.out
        have h2 := HT.out
        have h3 : vs.length = n := by have := h1.1; omega
        rw [List.take_of_length_le (by omega), List.take_of_length_le (by rw [HL.out]; omega)] at h2
        rw [← h2, ← HG.out]; exact h1
      · exact (hb.trans (HB.out.mono (by rw [HG.out]; exact Nat.le_refl _)))
end Go.Proofs.Yteccheoejmmjeaa
