/- The walk of the law FnExactShortestLength: it returns true and changes nothing that was there. -/
import Derived.Test.YtniecclococcfaaW5
namespace Go.Proofs.Ytniecclococcfaa
open Go.RowKit

theorem szF_ok {xss : List (List Int)} (h : (xss.length + lens xss xss.length : Nat) ≤ (1048576 : Int)) : szF xss 1048576 = 1048576 - (xss.length + lens xss xss.length : Nat) := by unfold szF; rw [if_pos h]
theorem szF_no {xss : List (List Int)} (h : ¬ (xss.length + lens xss xss.length : Nat) ≤ (1048576 : Int)) : szF xss 1048576 = -1 := by unfold szF; rw [if_neg h]
theorem row_small {xss : List (List Int)} {B : Nat} (h : xss.length + lens xss xss.length ≤ B) (i : Nat) : (rx xss i).length ≤ B := by
  by_cases hi : i < xss.length
  · have := lens_row (xss := xss) hi; omega
  · have : rx xss i = [] := by simp [rx, List.getElem?_eq_none (by omega : xss.length ≤ i)]
    rw [this]; simp

set_option maxHeartbeats 800000 in
theorem lawShort (a : Option Addr) (n c : Nat) (xss : List (List Int)) (w : World) (hI : RowsA false 0 w.heap.size w a n c xss) :
    Calls Try.prog 5 #[.slice a n c] w (Leaves w (.bool true)) := by
  have hlen := hI.len
  have HL := hid hlen; clear hlen
  by_cases hsz : (xss.length + lens xss xss.length : Nat) ≤ (1048576 : Int)
  · have h0 := szF_ok hsz
    obtain ⟨left, hleft⟩ : ∃ l, l = szF xss 1048576 := ⟨_, rfl⟩
    have hl0 : 0 ≤ left := by omega
    have H0 := hid h0; clear h0
    have HLF := hid hleft; clear hleft
    have hn : n ≤ 1048576 := by have := HL.out; omega
    have hr := row_small (xss := xss) (B := 1048576) (by omega)
    have HR := hid hr; clear hr
    have HS := hid hsz; clear hsz
    go_enter Try.func5, Try.ntmps5
    go_wp2_with fail
    refine (szRows a n c xss w hI).mono ?_
    rintro e w0 ⟨rfl, m0, rfl⟩
    rw [← HLF.out]
    go_wp2_with fail
    refine (toRows a n c xss _ (SlA.drewN intsOK hI _) (Nat.le_refl _) hn HR.out).mono ?_
    rintro e w1 ⟨a1, n1, c1, rfl, ho1, hb1⟩
    have hb1' : Below w.heap.size w w1 := Below.calm (below_drewN (Below.refl _ _) m0) hb1
    have hI1 : RowsA false 0 w.heap.size w1 a n c xss := hI.keep intsOK (Keeps.of_below hb1' (Nat.le_refl _))
    have hz1 := hb1'.size
    go_wp2_with fail
    refine (specShort _ _ _ xss _ ho1).mono ?_
    rintro e w2 ⟨rfl, m2, rfl⟩
    go_wp2_with fail
    refine (toRows a n c xss _ (SlA.drewN intsOK hI1 _) hz1 hn HR.out).mono ?_
    rintro e w3 ⟨a3, n3, c3, rfl, ho3, hb3⟩
    have hb13 : Below w.heap.size w w3 := Below.calm (below_drewN hb1' m2) hb3
    have hI3 : RowsA false 0 w.heap.size w3 a n c xss := hI.keep intsOK (Keeps.of_below hb13 (Nat.le_refl _))
    have hz3 := hb13.size
    go_wp2_with fail
    refine (implShort _ _ _ xss _ ho3).mono ?_
    rintro e w4 ⟨rfl, m4, rfl⟩
    go_wp2_with fail
    refine (toRows a n c xss _ (SlA.drewN intsOK hI3 _) hz3 hn HR.out).mono ?_
    rintro e w5 ⟨a5, n5, c5, rfl, ho5, hb5⟩
    have ho3' : RowsA true _ _ w5 a3 n3 c3 xss := SlA.keep intsOK (SlA.drewN intsOK ho3 m4) (Keeps.of_below hb5 (Nat.le_refl _))
    go_wp2_with fail
    refine (eqRows _ _ _ _ _ _ xss xss _ ho3' ho5).mono ?_
    rintro e w6 ⟨rfl, m6, rfl⟩
    rw [eqLL_refl]
    go_wp2_with fail
    go_ret
    exact ⟨rfl, below_drewN (Below.calm (below_drewN hb13 m4) hb5) m6⟩
  · have h0 := szF_no hsz
    have HS := hid hsz; clear hsz
    go_enter Try.func5, Try.ntmps5
    go_wp2_with fail
    refine (szRows a n c xss w hI).mono ?_
    rintro e w0 ⟨rfl, m0, rfl⟩
    rw [h0]
    go_wp2_with fail
    go_ret
    exact ⟨rfl, below_drewN (Below.refl _ _) m0⟩
end Go.Proofs.Ytniecclococcfaa
