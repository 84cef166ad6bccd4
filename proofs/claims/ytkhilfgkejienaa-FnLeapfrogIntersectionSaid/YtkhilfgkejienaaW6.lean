/- Walks: copying a list by append, the common elements of two lists. -/
import Derived.Test.YtkhilfgkejienaaW5
namespace Go.Proofs.Ytkhilfgkejienaa
set_option linter.unusedSimpArgs false
set_option linter.unusedVariables false
open Go.RowKit

set_option maxHeartbeats 400000 in
theorem copyInts {fz : Bool} {lo hi : Nat} (a : Option Addr) (n c : Nat) (xs : List Int) (w : World) (hI : IntsA fz lo hi w a n c xs) (hh : hi ≤ w.heap.size) (hn : n ≤ 1048576) :
    Calls Try.prog 23 #[.slice a n c] w (GivesOwn w xs) := by
  go_enter Try.func23, Try.ntmps23
  go_wp2_with (at_builtin; refine wpApp rfl (.tmp 3) (.tmp 4) rfl w.heap.size _ 0 0 [] rfl ?c1 a n c xs rfl (hI.keep (Keeps.of_below ((Below.refl w.heap.size w).alloc (Nat.le_refl _) _) hh)) (by omega) ?c2 ?_)
  case c1 => exact ⟨World.ownsRow_made w #[] 0 (Nat.le_refl _) (by simp [maxLen]) rfl, fun _ h => nomatch h⟩
  case c2 => simp
  intro a' c' w' ho hg
  go_wp2
  go_ret
  refine ⟨_, _, _, rfl, by simpa using ho, ?_⟩
  exact ((Below.refl w.heap.size w).alloc (Nat.le_refl _) _).grown hg (by simp) (fun k hk => by simp [Value.ownBlock] at hk; omega)

/-- the numbers of xs that occur in ys -/
noncomputable def commonF (xs ys : List Int) : List Int := xs.filter fun x => decide (0 ≤ findF ys x)
theorem commonF_yes {xs ys : List Int} {k : Nat} (hk : k < xs.length) (h : decide (0 ≤ findF ys (ix xs k)) = true) : commonF (xs.take (k + 1)) ys = commonF (xs.take k) ys ++ [ix xs k] := by
  simp only [commonF]
  rw [List.take_succ_eq_append_getElem hk, List.filter_append, ← ix_lt hk]
  simp [h]
theorem commonF_no {xs ys : List Int} {k : Nat} (hk : k < xs.length) (h : decide (0 ≤ findF ys (ix xs k)) = false) : commonF (xs.take (k + 1)) ys = commonF (xs.take k) ys := by
  simp only [commonF]
  rw [List.take_succ_eq_append_getElem hk, List.filter_append, ← ix_lt hk]
  simp [h]
theorem commonF_len (xs ys : List Int) (k : Nat) : (commonF (xs.take k) ys).length ≤ k := by
  have := List.length_filter_le (fun x => decide (0 ≤ findF ys x)) (xs.take k)
  have h2 := List.length_take_le k xs
  unfold commonF; omega

set_option maxHeartbeats 800000 in
theorem implCommon {fz fz' : Bool} {lo hi lo' hi' : Nat} (a a' : Option Addr) (n c n' c' : Nat) (xs ys : List Int) (w : World) (hI : IntsA fz lo hi w a n c xs) (hJ : IntsA fz' lo' hi' w a' n' c' ys) (hh : hi ≤ w.heap.size) (hh' : hi' ≤ w.heap.size) (hn : n ≤ 1048576) :
    Calls Try.prog 24 #[.slice a n c, .slice a' n' c'] w (GivesOwn w (commonF xs ys)) := by
  have hl := hI.len
  have hs := hI.small
  have HL := hid hl; clear hl
  go_enter Try.func24, Try.ntmps24
  go_wp2
  go_loopw [5, 10] (fun v i wr => ∃ (k : Nat) (ao : Option Addr) (m co : Nat), i = .int .i64 k ∧ v = .slice ao m co ∧ k ≤ n ∧ Own w.heap.size wr ao m co (commonF (xs.take k) ys) ∧ Below w.heap.size w wr) (fun _ i _ => n - (intOf i).toNat)
  case atStart => exact ⟨0, none, 0, 0, rfl, rfl, by omega, own_nil _ _, Below.refl _ _⟩
  case round =>
    obtain ⟨k, ao, m, co, rfl, rfl, hk, hown, hbel⟩ := hrel
    have hm : m ≤ k := by have h1 := hown.len; have h2 := commonF_len xs ys k; omega
    have hsz := hbel.size
    have hIr : IntsA fz lo hi wr a n c xs := hI.keep (Keeps.of_below hbel hh)
    have hJr : IntsA fz' lo' hi' wr a' n' c' ys := hJ.keep (Keeps.of_below hbel hh')
    have HO := hid hown; clear hown
    have HB := hid hbel; clear hbel
    by_cases hlt : k < n
    · obtain ⟨b, off, rfl, _, _, hc, _⟩ := hIr.open (by omega)
      have c0 := hc k (by omega)
      have hat := hIr.at hlt
      clear hc
      obtain ⟨e, he⟩ : ∃ e, decide (0 ≤ findF ys (ix xs k)) = e := ⟨_, rfl⟩
      have HE := hid he; clear he
      have HJ := hid hJr; clear hJr hIr
      cases e with
      | true =>
        go_wp2_with fail
        refine (implHasInt a' n' c' ys _ wr HJ.out).mono ?_
        rintro e w1 ⟨rfl, m1, rfl⟩
        rw [HE.out]
        go_wp2_with (at_builtin; refine wpApp rfl (.tmp 17) (.tmp 19) rfl w.heap.size ao m co _ rfl (HO.out.alloc _) _ 1 1 _ rfl (one_ints _ _ _ hat) (by omega) (by simp; omega) ?_)
        intro a1 c1 w1 ho1 hg1
        have hb1 : Below w.heap.size w w1 := ho1' HO.out HB.out hsz hg1
        have HO1 := hid ho1; clear ho1
        have HB1 := hid hb1; clear hb1
        clear hg1
        go_wp2
        go_roundw
        case rel => exact ⟨k + 1, a1, m + 1, c1, by go_num, rfl, by omega, by rw [commonF_yes (by rw [HL.out]; exact hlt) HE.out]; exact HO1.out, HB1.out⟩
        case measure => simp [intOf]; omega
      | false =>
        go_wp2_with fail
        refine (implHasInt a' n' c' ys _ wr HJ.out).mono ?_
        rintro e w1 ⟨rfl, m1, rfl⟩
        rw [HE.out]
        go_wp2
        go_roundw
        case rel => exact ⟨k + 1, ao, m, co, by go_num, rfl, by omega, by rw [commonF_no (by rw [HL.out]; exact hlt) HE.out]; exact HO.out, below_drewN HB.out m1⟩
        case measure => simp [intOf]; omega
    · go_wp2
      go_ret
      refine ⟨_, _, _, rfl, ?_, HB.out⟩
      have := HO.out
      rwa [List.take_of_length_le (by rw [HL.out]; omega)] at this
end Go.Proofs.Ytkhilfgkejienaa
