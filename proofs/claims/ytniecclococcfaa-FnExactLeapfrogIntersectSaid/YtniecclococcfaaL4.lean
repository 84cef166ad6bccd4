/- The walk of the law FnExactLeapfrogIntersect: it returns true and changes nothing that was there. -/
import Derived.Test.YtniecclococcfaaMark2
import Derived.Test.YtniecclococcfaaW12
import Derived.Test.YtniecclococcfaaL2
namespace Go.Proofs.Ytniecclococcfaa
open Go.RowKit
theorem int_bne_self (x : Int) : (x != x) = false := by simp

set_option maxHeartbeats 1600000 in
theorem lawLeap (a : Option Addr) (n c : Nat) (xss : List (List Int)) (w : World) (hI : RowsA false 0 w.heap.size w a n c xss) :
    Calls Try.prog 7 #[.slice a n c] w (Leaves w (.bool true)) := by
  have hlen := hI.len
  have hbn := int_bne_self ((leapF xss).2 : Nat)
  have HL := hid hlen; clear hlen
  by_cases hsz : (xss.length + lens xss xss.length : Nat) ≤ (1048576 : Int)
  · have h0 := szF_ok hsz
    obtain ⟨left, hleft⟩ : ∃ l, l = szF xss 1048576 := ⟨_, rfl⟩
    have hl0 : 0 ≤ left := by omega
    have H0 := hid h0; clear h0
    have HLF := hid hleft; clear hleft
    have hn : n ≤ 1048576 := by have := HL.out; omega
    have hr := row_small (xss := xss) (B := 1048576) (by omega)
    have HR := hid hr; clear hr
    have hsum : lens xss xss.length ≤ 1048576 := by omega
    have HS := hid hsum; clear hsum hsz
    go_enter Try.func7, Try.ntmps7
    go_wp2_with fail
    refine (szRows a n c xss w hI).mono ?_
    rintro e w0 ⟨rfl, m0, rfl⟩
    rw [← HLF.out]
    go_wp2_with fail
    refine (toRows a n c xss _ (SlA.drewN intsOK hI _) (Nat.le_refl _) hn HR.out).mono ?_
    rintro e w1 ⟨a1, n1, c1, rfl, ho1, hb1⟩
    have hb1' : Below w.heap.size w w1 := Below.calm (below_drewN (Below.refl _ _) m0) hb1
    go_wp2_with fail
    refine (specLeapA _ _ _ xss _ ho1 (Nat.le_refl _) HR.out (by have h1 := ho1.len; have h2 := HL.out; omega)).mono ?_
    rintro e w2 ⟨a2, n2, c2, rfl, ho2, hb2⟩
    have hb12 : Below w.heap.size w w2 := Below.calm hb1' hb2
    have z1 := hb1'.size
    have z2 := hb2.size
    have i2 := ho2.ints
    have hI2 : RowsA false 0 w.heap.size w2 a n c xss := hI.keep intsOK (Keeps.of_below hb12 (Nat.le_refl _))
    go_wp2_with fail
    refine (toRows a n c xss _ hI2 hb12.size hn HR.out).mono ?_
    rintro e w3 ⟨a3, n3, c3, rfl, ho3, hb3⟩
    have hb13 : Below w.heap.size w w3 := Below.calm hb12 hb3
    have z3 := hb3.size
    have i2w3 := i2.keep (Keeps.of_below hb3 (Nat.le_refl _))
    go_wp2_with fail
    refine (implLeapA _ _ _ xss _ ho3 (Nat.le_refl _) HR.out (by have h1 := ho3.len; have h2 := HL.out; omega)).mono ?_
    rintro e w4 ⟨a4, n4, c4, rfl, ho4, hb4⟩
    have hb14 : Below w.heap.size w w4 := Below.calm hb13 hb4
    have z4 := hb4.size
    have hI4 : RowsA false 0 w.heap.size w4 a n c xss := hI.keep intsOK (Keeps.of_below hb14 (Nat.le_refl _))
    have i2w4 := i2w3.keep (Keeps.of_below hb4 z3)
    have i4 := ho4.ints
    have ho3w4 : RowsA true w2.heap.size w3.heap.size w4 a3 n3 c3 xss := SlA.keep intsOK ho3 (Keeps.of_below hb4 (Nat.le_refl _))
    have hn4 : n4 ≤ 1048576 := by have h1 := ho4.len; have h2 := leapF_len xss; have h3 := HS.out; omega
    have hn3 := ho3.len
    have HN3 := hid hn3; clear hn3
    go_wp2_with fail
    refine (eqInts _ _ _ _ _ _ (leapF xss).1 (leapF xss).1 _ i4 i2w4).mono ?_
    rintro e w5 ⟨rfl, m5, rfl⟩
    rw [eqL_refl]
    go_wp2_with fail
    refine (toRows a n c xss _ (SlA.drewN intsOK hI4 _) hb14.size hn HR.out).mono ?_
    rintro e w6 ⟨a6, n6, c6, rfl, ho6, hb6⟩
    have hb46 : Below w4.heap.size w4 w6 := Below.calm (below_drewN (Below.refl _ _) m5) hb6
    have hb16 : Below w.heap.size w w6 := Below.calm hb14 hb46
    have z6 := hb46.size
    have ho3w6 : RowsA true w2.heap.size w3.heap.size w6 a3 n3 c3 xss := SlA.keep intsOK ho3w4 (Keeps.of_below hb46 z4)
    have i4w6 := i4.keep (Keeps.of_below hb46 (Nat.le_refl _))
    have i2w6 := i2w4.keep (Keeps.of_below hb46 (by omega))
    go_wp2_with fail
    refine (eqRows _ _ _ _ _ _ xss xss _ ho3w6 ho6).mono ?_
    rintro e w7 ⟨rfl, m7, rfl⟩
    rw [eqLL_refl]
    go_wp2_with fail
    refine (markRows a3 n3 c3 xss 1 _ (SlA.drewN intsOK ho3w6 m7) (by omega) (by omega) (by have := HN3.out; have := HL.out; omega) HS.out).mono ?_
    rintro e w8 ⟨rfl, hm8⟩
    have hb18 : Below w.heap.size w w8 := (below_drewN hb16 m7).trans (hm8.below.mono (by omega))
    have z8 : w8.heap.size = w6.heap.size := hm8.size
    have i4w8 := (i4w6.drewN m7).keep (hm8.keeps (.inr (Nat.le_refl _)))
    have i2w8 := (i2w6.drewN m7).keep (hm8.keeps (.inl (Nat.le_refl _)))
    have hk8 : 0 ≤ (1 : Int) + lens xss n3 := by omega
    generalize (1 : Int) + lens xss n3 = k8 at *
    go_wp2_with fail
    refine (eqInts _ _ _ _ _ _ (leapF xss).1 (leapF xss).1 _ i4w8 i2w8).mono ?_
    rintro e w9 ⟨rfl, m9, rfl⟩
    rw [eqL_refl]
    go_wp2_with fail
    refine (markInts a4 n4 c4 _ 1 _ (i4w8.drewN m9) (by omega) (by omega) hn4).mono ?_
    rintro e w10 ⟨rfl, hm10, j10⟩
    have hb110 : Below w.heap.size w w10 := (below_drewN hb18 m9).trans (hm10.below.mono (by omega))
    have z10 : w10.heap.size = w8.heap.size := hm10.size
    have i2w10 := (i2w8.drewN m9).keep (hm10.keeps (.inl z3))
    have hI10 : RowsA false 0 w.heap.size w10 a n c xss := hI.keep intsOK (Keeps.of_below hb110 (Nat.le_refl _))
    go_wp2_with fail
    refine (heldInts a4 n4 c4 1 _ j10 (by omega) (by omega) hn4).mono ?_
    rintro e w11 ⟨rfl, m11, rfl⟩
    have hk : 0 ≤ (1 : Int) + n4 := by omega
    have hbne : ((1 : Int) + n4 != 1 + n4) = false := by simp
    go_wp2_with fail
    refine (toRows a n c xss _ (SlA.drewN intsOK hI10 m11) (by show w.heap.size ≤ w10.heap.size; omega) hn HR.out).mono ?_
    rintro e w12 ⟨a12, n12, c12, rfl, ho12, hb12'⟩
    have hb112 : Below w.heap.size w w12 := Below.calm (below_drewN hb110 m11) hb12'
    have i2w12 := (i2w10.drewN m11).keep (Keeps.of_below hb12' (by show _ ≤ w10.heap.size; omega))
    have j12 := (j10.drewN m11).keep (Keeps.of_below hb12' (by show _ ≤ w10.heap.size; omega))
    have z12 : w10.heap.size ≤ w12.heap.size := hb12'.size
    go_wp2_with fail
    refine (implLeapA _ _ _ xss _ ho12 (Nat.le_refl _) HR.out (by have h1 := ho12.len; have h2 := HL.out; omega)).mono ?_
    rintro e w13 ⟨a13, n13, c13, rfl, ho13, hb13'⟩
    have hb113 : Below w.heap.size w w13 := Below.calm hb112 hb13'
    have i2w13 := i2w12.keep (Keeps.of_below hb13' (by omega))
    have j13 := j12.keep (Keeps.of_below hb13' (by omega))
    go_wp2_with fail
    refine (eqInts _ _ _ _ _ _ (leapF xss).1 (leapF xss).1 _ ho13.ints i2w13).mono ?_
    rintro e w14 ⟨rfl, m14, rfl⟩
    rw [eqL_refl]
    go_wp2_with fail
    refine (heldInts a4 n4 c4 1 _ (j13.drewN m14) (by omega) (by omega) hn4).mono ?_
    rintro e w15 ⟨rfl, m15, rfl⟩
    go_wp2_with fail
    go_ret
    exact ⟨rfl, below_drewN hb113 _⟩
  · have h0 := szF_no hsz
    have HS := hid hsz; clear hsz
    go_enter Try.func7, Try.ntmps7
    go_wp2_with fail
    refine (szRows a n c xss w hI).mono ?_
    rintro e w0 ⟨rfl, m0, rfl⟩
    rw [h0]
    go_wp2_with fail
    go_ret
    exact ⟨rfl, below_drewN (Below.refl _ _) m0⟩
end Go.Proofs.Ytniecclococcfaa
