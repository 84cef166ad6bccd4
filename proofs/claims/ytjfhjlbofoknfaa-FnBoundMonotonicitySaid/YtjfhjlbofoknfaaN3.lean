/- Walks: big numbers out of numbers, carrying. Written by nums3.py. -/
import Derived.Test.YtjfhjlbofoknfaaN2
namespace Go.Proofs.Ytjfhjlbofoknfaa
set_option linter.unusedSimpArgs false
set_option linter.unusedVariables false
open Go.RowKit
theorem crOK_yes {l ds : List Int} {m j : Nat} (h : crOK l = decide (trimN ds m ≤ 60) ∧ crRaw l = ds.take (trimN ds m)) (ht : trimN ds m = j) (h60 : j ≤ 60) : crOK l = true ∧ crF l = ds.take j := by
  subst ht
  have h1 : crOK l = true := by rw [h.1]; simpa using h60
  exact ⟨h1, by unfold crF; rw [if_pos h1, h.2]⟩
theorem crOK_no {l ds : List Int} {m j : Nat} (h : crOK l = decide (trimN ds m ≤ 60) ∧ crRaw l = ds.take (trimN ds m)) (ht : trimN ds m = j) (h60 : ¬ j ≤ 60) : crOK l = false ∧ crF l = [] := by
  subst ht
  have h1 : crOK l = false := by rw [h.1]; simpa using h60
  exact ⟨h1, by unfold crF; rw [h1]; rfl⟩
theorem digI_pos {z : Int} (h : 0 < z) : digI z = (z % 10) :: digI (z / 10) := by
  unfold digI
  rw [digN_pos (by omega)]
  rw [show ((z.toNat % 10 : Nat) : Int) = z % 10 by omega, show z.toNat / 10 = (z / 10).toNat by omega]
theorem digI_neg {z : Int} (h : ¬ 0 < z) : digI z = [] := by unfold digI; rw [show z.toNat = 0 by omega]; exact digN_zero
theorem digI_len {x : Int} (h : x ≤ 9223372036854775807) : (digI x).length ≤ 19 := digN_len 19 _ (Nat.lt_of_lt_of_le (show x.toNat < 10000000000000000000 by omega) (by decide))
/-- The call returns a new big number; nothing that was there has turned. -/
def GvBig (w : World) (ds : List Int) (e : Ending) (w' : World) : Prop := ∃ a n c, e = .returned (bigV a n c) ∧ IntsA true w.heap.size w'.heap.size w' a n c ds ∧ Below w.heap.size w w'
/-- .. and a word. -/
def GvBigB (w : World) (ds : List Int) (ok : Bool) (e : Ending) (w' : World) : Prop := ∃ a n c, e = .returned (.tuple #[bigV a n c, .bool ok]) ∧ IntsA true w.heap.size w'.heap.size w' a n c ds ∧ Below w.heap.size w w'
theorem intsA_hi {fz : Bool} {lo hi hi' : Nat} {w : World} {a : Option Addr} {n c : Nat} {xs : List Int} (h : IntsA fz lo hi w a n c xs) (hh : hi ≤ hi') : IntsA fz lo hi' w a n c xs := h.wide (Nat.le_refl _) hh
theorem nilI (fz : Bool) (lo hi : Nat) (w : World) : IntsA fz lo hi w none 0 0 [] := ⟨rfl, Nat.le_refl _, by simp [maxLen], (by simp), fun h => absurd h (Nat.lt_irrefl 0), fun _ => rfl⟩
theorem takeI {fz : Bool} {lo hi : Nat} {w : World} {a : Option Addr} {n c : Nat} {xs : List Int} (h : IntsA fz lo hi w a n c xs) {j : Nat} (hj : j ≤ n) : IntsA fz lo hi w a j c (xs.take j) := by
  obtain ⟨h1, h2, h3, h4, h5, h6⟩ := h
  refine ⟨by simp; omega, by omega, h3, fun x hx => h4 x (List.mem_of_mem_take hx), fun hn => ?_, h6⟩
  obtain ⟨b, off, ha, hl, hb, hc⟩ := h5 (by omega)
  refine ⟨b, off, ha, hl, hb, fun i hi => ?_⟩
  have e : ix (xs.take j) i = ix xs i := by simp [ix, List.getElem?_take_of_lt hi]
  rw [e]; exact hc i (by omega)
theorem belowCell {B : Nat} {w w' : World} (h : Below B w w') {b o : Nat} (hb : b < B) {v : Value} (hc : w.cell? ⟨b, o, none⟩ = some v) : w'.cell? ⟨b, o, none⟩ = some v := by rw [h.cell (p := ⟨b, o, none⟩) hb]; exact hc
theorem belowFrz {B : Nat} {w w' : World} (h : Below B w w') {b o : Nat} (hb : b < B) {v : Bool} (hc : w.frozen? ⟨b, o, none⟩ = v) : w'.frozen? ⟨b, o, none⟩ = v := by rw [h.frozen (p := ⟨b, o, none⟩) hb]; exact hc
set_option maxRecDepth 100000 in
set_option maxHeartbeats 3200000 in
theorem implFromInt (x : Int) (w : World) (hx : I64 x) : Calls Try.prog 25 #[.int .i64 x] w (GvBig w (digI x)) := by
  have hx1 : x ≤ 9223372036854775807 := by unfold I64 at hx; omega
  have HX := hid hx; have HDL := hid (digI_len hx1); clear hx
  obtain ⟨W, hW⟩ : ∃ W, W = (w.alloc (.cells #[.slice none 0 0] 36)).alloc (.cells #[.slice none 0 0] 36) := ⟨_, rfl⟩
  have hBW : Below w.heap.size w W := by rw [hW]; exact (by repeat (first | with_reducible assumption | with_reducible exact Below.refl _ _ | with_reducible refine below_drewN ?_ _ | with_reducible refine Below.al ?_ (by first | with_reducible exact Nat.le_refl _ | omega | (simp; done) | (simp; omega) | exact Nat.le_refl _) _ | with_reducible refine Below.setCell ?_ (by first | with_reducible exact Nat.le_refl _ | omega | (simp; done) | (simp; omega) | exact Nat.le_refl _) _ | assumption | exact Below.refl _ _ | refine below_drewN ?_ _ | refine Below.al ?_ (by first | with_reducible exact Nat.le_refl _ | omega | (simp; done) | (simp; omega) | exact Nat.le_refl _) _ | refine Below.setCell ?_ (by first | with_reducible exact Nat.le_refl _ | omega | (simp; done) | (simp; omega) | exact Nat.le_refl _) _))
  have hz : W.heap.size = w.heap.size + 2 := by rw [hW]; simp
  have cr : W.cell? ⟨w.heap.size, 0, none⟩ = some (.slice none 0 0) := by rw [hW]; first | (go_simp; done) | (simp [World.cell?]; done)
  have fr : W.frozen? ⟨w.heap.size, 0, none⟩ = false := by rw [hW]; first | (go_simp; done) | (simp [World.frozen?]; done)
  have cb : W.cell? ⟨w.heap.size + 1, 0, none⟩ = some (.slice none 0 0) := by rw [hW]; first | (go_simp; done) | (simp [World.cell?]; done)
  have fb : W.frozen? ⟨w.heap.size + 1, 0, none⟩ = false := by rw [hW]; first | (go_simp; done) | (simp [World.frozen?]; done)
  have HBW := hid hBW; have HW := hid hW; clear hW hBW
  go_enter Try.func25, Try.ntmps25
  go_upto_block 0 with fail
  rw [← HW.out]
  go_wp2_with fail
  go_loopw [0] (fun i wr => ∃ (z : Int) (ds : List Int) (ao : Option Addr) (mo co : Nat), i = .int .i64 z ∧ z ≤ 9223372036854775807 ∧ Hid (digI x = ds ++ digI z) ∧ wr.cell? ⟨w.heap.size, 0, none⟩ = some (.slice none 0 0) ∧ wr.frozen? ⟨w.heap.size, 0, none⟩ = false ∧ wr.cell? ⟨w.heap.size + 1, 0, none⟩ = some (.slice ao mo co) ∧ wr.frozen? ⟨w.heap.size + 1, 0, none⟩ = false ∧ w.heap.size + 2 ≤ wr.heap.size ∧ Hid (Own (w.heap.size + 2) wr ao mo co ds) ∧ Hid (Below w.heap.size w wr)) (fun i _ => (intOf i).toNat)
  case atStart => exact ⟨x, [], none, 0, 0, rfl, hx1, hid rfl, cr, fr, cb, fb, by omega, hid (own_nil _ _), HBW⟩
  case round =>
    clear cr fr cb fb
    obtain ⟨z, ds, ao, mo, co, rfl, hz1, HD, cr, fr, cb, fb, hsz, HO, HB⟩ := hrel
    by_cases hlt : 0 < z
    · have hmo : mo ≤ 19 := by have h1 := HO.out.len; have h2 := HDL.out; have h3 := HD.out; rw [h3, List.length_append] at h2; omega
      have HI64 : Hid (I64 (z % 10)) := hid (by unfold I64; omega)
      have hr1 : 0 ≤ z % 10 := by omega
      have hz0 : 0 ≤ z := by omega
      have HD2 : Hid (digI x = (ds ++ [z % 10]) ++ digI (z / 10)) := hid (by rw [HD.out, digI_pos hlt]; simp)
      go_wp2_with (at_builtin; refine halt' ?_)
      unfold Halt'
      refine wpApp rfl (.tmp 7) (.tmp 10) rfl (w.heap.size + 2) ao mo co _ rfl (HO.out.alloc _) _ 1 1 _ rfl (one_ints _ _ _ HI64.out) (by omega) (by simp; omega) ?_
      intro a1 c1 w5 ho2 hg2
      have hb5 : Below (w.heap.size + 2) wr w5 := ho0' HO.out (Below.refl _ _) (by omega) hg2
      have hz5 := hb5.size
      replace cr := belowCell hb5 (by omega) cr; replace fr := belowFrz hb5 (by omega) fr; replace cb := belowCell hb5 (by omega) cb; replace fb := belowFrz hb5 (by omega) fb
      have HB5 := hid (HB.out.trans (hb5.mono (by omega))); have HO5 := hid ho2; clear hb5 ho2 hg2 HO HB
      go_wp2
      go_roundw
      case rel => exact ⟨z / 10, ds ++ [z % 10], a1, mo + 1, c1, rfl, by omega, HD2, (by first | with_reducible assumption | (simp (disch := (first | omega | (simp only [sz_alloc, sz_drewN, sz_drew1, sz_set]; omega) | (simp (disch := (first | omega | (simp only [sz_alloc, sz_drewN, sz_drew1, sz_set]; omega))) only [calloc, cdrewN, cdrew1, cset_far, cset_off, *, Option.isSome_some]; done))) only [calloc, falloc, cdrewN, cdrew1, fdrewN, fdrew1, cset_far, cset_off, fset_any, World.cell?_setCell_same']; first | done | with_reducible assumption) | (go_simp; done) | (simp; done)), (by first | with_reducible assumption | (simp (disch := (first | omega | (simp only [sz_alloc, sz_drewN, sz_drew1, sz_set]; omega) | (simp (disch := (first | omega | (simp only [sz_alloc, sz_drewN, sz_drew1, sz_set]; omega))) only [calloc, cdrewN, cdrew1, cset_far, cset_off, *, Option.isSome_some]; done))) only [calloc, falloc, cdrewN, cdrew1, fdrewN, fdrew1, cset_far, cset_off, fset_any, World.cell?_setCell_same']; first | done | with_reducible assumption) | (go_simp; done) | (simp; done)), (by first | with_reducible assumption | (simp (disch := (first | omega | (simp only [sz_alloc, sz_drewN, sz_drew1, sz_set]; omega) | (simp (disch := (first | omega | (simp only [sz_alloc, sz_drewN, sz_drew1, sz_set]; omega))) only [calloc, cdrewN, cdrew1, cset_far, cset_off, *, Option.isSome_some]; done))) only [calloc, falloc, cdrewN, cdrew1, fdrewN, fdrew1, cset_far, cset_off, fset_any, World.cell?_setCell_same']; first | done | with_reducible assumption) | (go_simp; done) | (simp; done)), (by first | with_reducible assumption | (simp (disch := (first | omega | (simp only [sz_alloc, sz_drewN, sz_drew1, sz_set]; omega) | (simp (disch := (first | omega | (simp only [sz_alloc, sz_drewN, sz_drew1, sz_set]; omega))) only [calloc, cdrewN, cdrew1, cset_far, cset_off, *, Option.isSome_some]; done))) only [calloc, falloc, cdrewN, cdrew1, fdrewN, fdrew1, cset_far, cset_off, fset_any, World.cell?_setCell_same']; first | done | with_reducible assumption) | (go_simp; done) | (simp; done)), (by first | ((try simp only [sz_alloc, sz_drewN, sz_drew1, sz_set]); omega) | (simp; done) | (simp; omega)), hid (HO5.out.keep (Keeps.sc (Keeps.refl _ _ _) (by omega) _)), hid (HB5.out.setCell (by simp) _)⟩
      case measure => first | (simp [intOf]; done) | (simp [intOf]; omega)
    · have HF : Hid (digI x = ds) := hid (by rw [HD.out, digI_neg hlt]; simp)
      go_wp2
      refine bodyPost_ret (v := bigV ao mo co) (by simp [results, Try.results25, go_sem, cr, cb]) rfl ⟨ao, mo, co, rfl, ?_, ?_⟩
      · rw [HF.out]; exact ((HO.out.ints.keep (by (repeat (first | (with_reducible refine Keeps.sc ?_ (by omega) _) | (with_reducible refine Keeps.al ?_ (by first | ((try simp only [sz_alloc, sz_drewN, sz_drew1, sz_set]); omega) | (simp; done) | (simp; omega)) _) | (with_reducible refine Keeps.dr ?_ _))); with_reducible exact Keeps.refl _ _ _)).wide (by omega) (by first | ((try simp only [sz_alloc, sz_drewN, sz_drew1, sz_set]); omega) | (simp; done) | (simp; omega)))
      · exact HB.out.setCell (by simp) _
set_option maxRecDepth 100000 in
set_option maxHeartbeats 3200000 in
theorem specFromInt (x : Int) (w : World) (hx : I64 x) : Calls Try.prog 28 #[.int .i64 x] w (GvBig w (digI x)) := by
  have hx1 : x ≤ 9223372036854775807 := by unfold I64 at hx; omega
  have HX := hid hx; have HDL := hid (digI_len hx1); clear hx
  obtain ⟨W, hW⟩ : ∃ W, W = (w.alloc (.cells #[.slice none 0 0] 36)).alloc (.cells #[.slice none 0 0] 36) := ⟨_, rfl⟩
  have hBW : Below w.heap.size w W := by rw [hW]; exact (by repeat (first | with_reducible assumption | with_reducible exact Below.refl _ _ | with_reducible refine below_drewN ?_ _ | with_reducible refine Below.al ?_ (by first | with_reducible exact Nat.le_refl _ | omega | (simp; done) | (simp; omega) | exact Nat.le_refl _) _ | with_reducible refine Below.setCell ?_ (by first | with_reducible exact Nat.le_refl _ | omega | (simp; done) | (simp; omega) | exact Nat.le_refl _) _ | assumption | exact Below.refl _ _ | refine below_drewN ?_ _ | refine Below.al ?_ (by first | with_reducible exact Nat.le_refl _ | omega | (simp; done) | (simp; omega) | exact Nat.le_refl _) _ | refine Below.setCell ?_ (by first | with_reducible exact Nat.le_refl _ | omega | (simp; done) | (simp; omega) | exact Nat.le_refl _) _))
  have hz : W.heap.size = w.heap.size + 2 := by rw [hW]; simp
  have cr : W.cell? ⟨w.heap.size, 0, none⟩ = some (.slice none 0 0) := by rw [hW]; first | (go_simp; done) | (simp [World.cell?]; done)
  have fr : W.frozen? ⟨w.heap.size, 0, none⟩ = false := by rw [hW]; first | (go_simp; done) | (simp [World.frozen?]; done)
  have cb : W.cell? ⟨w.heap.size + 1, 0, none⟩ = some (.slice none 0 0) := by rw [hW]; first | (go_simp; done) | (simp [World.cell?]; done)
  have fb : W.frozen? ⟨w.heap.size + 1, 0, none⟩ = false := by rw [hW]; first | (go_simp; done) | (simp [World.frozen?]; done)
  have HBW := hid hBW; have HW := hid hW; clear hW hBW
  go_enter Try.func28, Try.ntmps28
  go_upto_block 0 with fail
  rw [← HW.out]
  go_wp2_with fail
  go_loopw [0] (fun i wr => ∃ (z : Int) (ds : List Int) (ao : Option Addr) (mo co : Nat), i = .int .i64 z ∧ z ≤ 9223372036854775807 ∧ Hid (digI x = ds ++ digI z) ∧ wr.cell? ⟨w.heap.size, 0, none⟩ = some (.slice none 0 0) ∧ wr.frozen? ⟨w.heap.size, 0, none⟩ = false ∧ wr.cell? ⟨w.heap.size + 1, 0, none⟩ = some (.slice ao mo co) ∧ wr.frozen? ⟨w.heap.size + 1, 0, none⟩ = false ∧ w.heap.size + 2 ≤ wr.heap.size ∧ Hid (Own (w.heap.size + 2) wr ao mo co ds) ∧ Hid (Below w.heap.size w wr)) (fun i _ => (intOf i).toNat)
  case atStart => exact ⟨x, [], none, 0, 0, rfl, hx1, hid rfl, cr, fr, cb, fb, by omega, hid (own_nil _ _), HBW⟩
  case round =>
    clear cr fr cb fb
    obtain ⟨z, ds, ao, mo, co, rfl, hz1, HD, cr, fr, cb, fb, hsz, HO, HB⟩ := hrel
    by_cases hlt : 0 < z
    · have hmo : mo ≤ 19 := by have h1 := HO.out.len; have h2 := HDL.out; have h3 := HD.out; rw [h3, List.length_append] at h2; omega
      have HI64 : Hid (I64 (z % 10)) := hid (by unfold I64; omega)
      have hr1 : 0 ≤ z % 10 := by omega
      have hz0 : 0 ≤ z := by omega
      have HD2 : Hid (digI x = (ds ++ [z % 10]) ++ digI (z / 10)) := hid (by rw [HD.out, digI_pos hlt]; simp)
      go_wp2_with (at_builtin; refine halt' ?_)
      unfold Halt'
      refine wpApp rfl (.tmp 8) (.tmp 11) rfl (w.heap.size + 2) ao mo co _ rfl (HO.out.alloc _) _ 1 1 _ rfl (one_ints _ _ _ HI64.out) (by omega) (by simp; omega) ?_
      intro a1 c1 w5 ho2 hg2
      have hb5 : Below (w.heap.size + 2) wr w5 := ho0' HO.out (Below.refl _ _) (by omega) hg2
      have hz5 := hb5.size
      replace cr := belowCell hb5 (by omega) cr; replace fr := belowFrz hb5 (by omega) fr; replace cb := belowCell hb5 (by omega) cb; replace fb := belowFrz hb5 (by omega) fb
      have HB5 := hid (HB.out.trans (hb5.mono (by omega))); have HO5 := hid ho2; clear hb5 ho2 hg2 HO HB
      go_wp2
      go_roundw
      case rel => exact ⟨z / 10, ds ++ [z % 10], a1, mo + 1, c1, rfl, by omega, HD2, (by first | with_reducible assumption | (simp (disch := (first | omega | (simp only [sz_alloc, sz_drewN, sz_drew1, sz_set]; omega) | (simp (disch := (first | omega | (simp only [sz_alloc, sz_drewN, sz_drew1, sz_set]; omega))) only [calloc, cdrewN, cdrew1, cset_far, cset_off, *, Option.isSome_some]; done))) only [calloc, falloc, cdrewN, cdrew1, fdrewN, fdrew1, cset_far, cset_off, fset_any, World.cell?_setCell_same']; first | done | with_reducible assumption) | (go_simp; done) | (simp; done)), (by first | with_reducible assumption | (simp (disch := (first | omega | (simp only [sz_alloc, sz_drewN, sz_drew1, sz_set]; omega) | (simp (disch := (first | omega | (simp only [sz_alloc, sz_drewN, sz_drew1, sz_set]; omega))) only [calloc, cdrewN, cdrew1, cset_far, cset_off, *, Option.isSome_some]; done))) only [calloc, falloc, cdrewN, cdrew1, fdrewN, fdrew1, cset_far, cset_off, fset_any, World.cell?_setCell_same']; first | done | with_reducible assumption) | (go_simp; done) | (simp; done)), (by first | with_reducible assumption | (simp (disch := (first | omega | (simp only [sz_alloc, sz_drewN, sz_drew1, sz_set]; omega) | (simp (disch := (first | omega | (simp only [sz_alloc, sz_drewN, sz_drew1, sz_set]; omega))) only [calloc, cdrewN, cdrew1, cset_far, cset_off, *, Option.isSome_some]; done))) only [calloc, falloc, cdrewN, cdrew1, fdrewN, fdrew1, cset_far, cset_off, fset_any, World.cell?_setCell_same']; first | done | with_reducible assumption) | (go_simp; done) | (simp; done)), (by first | with_reducible assumption | (simp (disch := (first | omega | (simp only [sz_alloc, sz_drewN, sz_drew1, sz_set]; omega) | (simp (disch := (first | omega | (simp only [sz_alloc, sz_drewN, sz_drew1, sz_set]; omega))) only [calloc, cdrewN, cdrew1, cset_far, cset_off, *, Option.isSome_some]; done))) only [calloc, falloc, cdrewN, cdrew1, fdrewN, fdrew1, cset_far, cset_off, fset_any, World.cell?_setCell_same']; first | done | with_reducible assumption) | (go_simp; done) | (simp; done)), (by first | ((try simp only [sz_alloc, sz_drewN, sz_drew1, sz_set]); omega) | (simp; done) | (simp; omega)), hid (HO5.out.keep (Keeps.sc (Keeps.refl _ _ _) (by omega) _)), hid (HB5.out.setCell (by simp) _)⟩
      case measure => first | (simp [intOf]; done) | (simp [intOf]; omega)
    · have HF : Hid (digI x = ds) := hid (by rw [HD.out, digI_neg hlt]; simp)
      go_wp2
      refine bodyPost_ret (v := bigV ao mo co) (by simp [results, Try.results28, go_sem, cr, cb]) rfl ⟨ao, mo, co, rfl, ?_, ?_⟩
      · rw [HF.out]; exact ((HO.out.ints.keep (by (repeat (first | (with_reducible refine Keeps.sc ?_ (by omega) _) | (with_reducible refine Keeps.al ?_ (by first | ((try simp only [sz_alloc, sz_drewN, sz_drew1, sz_set]); omega) | (simp; done) | (simp; omega)) _) | (with_reducible refine Keeps.dr ?_ _))); with_reducible exact Keeps.refl _ _ _)).wide (by omega) (by first | ((try simp only [sz_alloc, sz_drewN, sz_drew1, sz_set]); omega) | (simp; done) | (simp; omega)))
      · exact HB.out.setCell (by simp) _
set_option maxRecDepth 100000 in
set_option maxHeartbeats 6400000 in
theorem implCarry {fz : Bool} {lo hi : Nat} (a : Option Addr) (n c : Nat) (l : List Int) (w : World) (hI : IntsA fz lo hi w a n c l) (hh : hi ≤ w.heap.size) (hbd : Bd 300000 l) (hn : n ≤ 1048576) : Calls Try.prog 43 #[.slice a n c] w (GvBigB w (crF l) (crOK l)) := by
  have hl := hI.len; have HI := hid hI; have HBD := hid hbd; have HL := hid hl; clear hI hbd
  have hN := crN_le HBD.out; have hN2 := (crN_spec HBD.out).1.1; rw [hl] at hN hN2; clear hl
  obtain ⟨N, hNe⟩ : ∃ N, crN l = N := ⟨_, rfl⟩
  rw [hNe] at hN hN2
  have HN := hid hNe; clear hNe
  obtain ⟨W, hW⟩ : ∃ W, W = (w.alloc (.cells #[.slice none 0 0] 36)).alloc (.cells #[.slice none 0 0] 36) := ⟨_, rfl⟩
  have hBW : Below w.heap.size w W := by rw [hW]; exact (by repeat (first | with_reducible assumption | with_reducible exact Below.refl _ _ | with_reducible refine below_drewN ?_ _ | with_reducible refine Below.al ?_ (by first | with_reducible exact Nat.le_refl _ | omega | (simp; done) | (simp; omega) | exact Nat.le_refl _) _ | with_reducible refine Below.setCell ?_ (by first | with_reducible exact Nat.le_refl _ | omega | (simp; done) | (simp; omega) | exact Nat.le_refl _) _ | assumption | exact Below.refl _ _ | refine below_drewN ?_ _ | refine Below.al ?_ (by first | with_reducible exact Nat.le_refl _ | omega | (simp; done) | (simp; omega) | exact Nat.le_refl _) _ | refine Below.setCell ?_ (by first | with_reducible exact Nat.le_refl _ | omega | (simp; done) | (simp; omega) | exact Nat.le_refl _) _))
  have hz : W.heap.size = w.heap.size + 2 := by rw [hW]; simp
  have cr : W.cell? ⟨w.heap.size, 0, none⟩ = some (.slice none 0 0) := by rw [hW]; first | (go_simp; done) | (simp [World.cell?]; done)
  have fr : W.frozen? ⟨w.heap.size, 0, none⟩ = false := by rw [hW]; first | (go_simp; done) | (simp [World.frozen?]; done)
  have cb : W.cell? ⟨w.heap.size + 1, 0, none⟩ = some (.slice none 0 0) := by rw [hW]; first | (go_simp; done) | (simp [World.cell?]; done)
  have fb : W.frozen? ⟨w.heap.size + 1, 0, none⟩ = false := by rw [hW]; first | (go_simp; done) | (simp [World.frozen?]; done)
  have HBW := hid hBW; have HW := hid hW; clear hW hBW
  go_enter Try.func43, Try.ntmps43
  go_upto_region 2 with fail
  rw [← HW.out]
  go_wp2_with fail
  go_loopw [5, 6] (fun q i wr => ∃ (k : Nat) (z : Int) (ds : List Int) (ao : Option Addr) (mo co : Nat), i = .int .i64 k ∧ q = .int .i64 z ∧ Hid (z = crC l k) ∧ 0 ≤ z ∧ z ≤ 300000 ∧ mo ≤ N ∧ k ≤ N ∧ Hid (mo = k) ∧ Hid (ds = crD l k) ∧ wr.cell? ⟨w.heap.size, 0, none⟩ = some (.slice none 0 0) ∧ wr.frozen? ⟨w.heap.size, 0, none⟩ = false ∧ wr.cell? ⟨w.heap.size + 1, 0, none⟩ = some (.slice ao mo co) ∧ wr.frozen? ⟨w.heap.size + 1, 0, none⟩ = false ∧ w.heap.size + 2 ≤ wr.heap.size ∧ Hid (Own (w.heap.size + 2) wr ao mo co ds) ∧ Hid (Below w.heap.size w wr)) (fun _ i _ => N - (intOf i).toNat)
  case atStart => exact ⟨0, 0, [], none, 0, 0, rfl, rfl, hid rfl, by omega, by omega, by omega, by omega, hid rfl, hid rfl, cr, fr, cb, fb, by omega, hid (own_nil _ _), HBW⟩
  case round =>
    clear cr fr cb fb
    obtain ⟨k, z, ds, ao, mo, co, rfl, rfl, HZ, hz1, hz2, hmN, hk, HMK, HDS, cr, fr, cb, fb, hsz, HO, HB⟩ := hrel
    have hcn := hk
    by_cases hlt : k < n
    · have hb1 : decide ((k : Int) < (n : Int)) = true := by simp; omega
      have HKN : Hid (k < N) := hid (by omega)
      obtain ⟨b, off, hab, d0, _⟩ := intsAt' (HI.out.be HB.out hh) hlt
      subst hab
      have hbx := HBD.out k
      generalize hx : ix l k = x at *
      have HX := hid hx; clear hx
      obtain ⟨hx0, hx1⟩ := hbx
      have HC1 : Hid (crC l (k + 1) = (z + x) / 10 ∧ crD l (k + 1) = ds ++ [(z + x) % 10]) := hid (by rw [HDS.out]; simp only [crC, crD, ← HZ.out]; rw [if_pos (by rw [HL.out]; omega)]; first | rw [HX.out]; exact ⟨rfl, rfl⟩ | exact ⟨rfl, rfl⟩)
      have HI64 : Hid (I64 ((z + x) % 10)) := hid (by unfold I64; omega)
      have hq0 : 0 ≤ z + x := by omega
      have hq1 : z + x ≤ 600000 := by omega
      have hmk : mo = k := HMK.out
      have hkN : k < N := HKN.out
      have HMM := hid hmk; clear hmk
      have hmo2 : mo + 1 ≤ N := by have h := HMM.out; omega
      have HC1b := hid (crC_bd HBD.out (k + 1))
      go_wp2_with (at_builtin; refine halt' ?_)
      unfold Halt'
      refine wpApp rfl (.tmp 29) (.tmp 32) rfl (w.heap.size + 2) ao mo co _ rfl (HO.out.alloc _) _ 1 1 _ rfl (one_ints _ _ _ HI64.out) (by omega) (by simp; omega) ?_
      intro a1 c1 w5 ho2 hg2
      have hb5 : Below (w.heap.size + 2) wr w5 := ho0' HO.out (Below.refl _ _) (by omega) hg2
      have hz5 := hb5.size
      replace cr := belowCell hb5 (by omega) cr; replace fr := belowFrz hb5 (by omega) fr; replace cb := belowCell hb5 (by omega) cb; replace fb := belowFrz hb5 (by omega) fb
      have HB5 := hid (HB.out.trans (hb5.mono (by omega))); have HO5 := hid ho2; clear hb5 ho2 hg2 HO HB
      go_wp2
      go_roundw
      case rel => exact ⟨k + 1, (z + x) / 10, ds ++ [(z + x) % 10], a1, mo + 1, c1, by go_num, rfl, hid HC1.out.1.symm, by have h := HC1b.out; rw [HC1.out.1] at h; exact h.1, by have h := HC1b.out; rw [HC1.out.1] at h; exact h.2, by omega, by omega, hid (by rw [HMM.out]), hid HC1.out.2.symm, (by first | with_reducible assumption | (simp (disch := (first | omega | (simp only [sz_alloc, sz_drewN, sz_drew1, sz_set]; omega) | (simp (disch := (first | omega | (simp only [sz_alloc, sz_drewN, sz_drew1, sz_set]; omega))) only [calloc, cdrewN, cdrew1, cset_far, cset_off, *, Option.isSome_some]; done))) only [calloc, falloc, cdrewN, cdrew1, fdrewN, fdrew1, cset_far, cset_off, fset_any, World.cell?_setCell_same']; first | done | with_reducible assumption) | (go_simp; done) | (simp; done)), (by first | with_reducible assumption | (simp (disch := (first | omega | (simp only [sz_alloc, sz_drewN, sz_drew1, sz_set]; omega) | (simp (disch := (first | omega | (simp only [sz_alloc, sz_drewN, sz_drew1, sz_set]; omega))) only [calloc, cdrewN, cdrew1, cset_far, cset_off, *, Option.isSome_some]; done))) only [calloc, falloc, cdrewN, cdrew1, fdrewN, fdrew1, cset_far, cset_off, fset_any, World.cell?_setCell_same']; first | done | with_reducible assumption) | (go_simp; done) | (simp; done)), (by first | with_reducible assumption | (simp (disch := (first | omega | (simp only [sz_alloc, sz_drewN, sz_drew1, sz_set]; omega) | (simp (disch := (first | omega | (simp only [sz_alloc, sz_drewN, sz_drew1, sz_set]; omega))) only [calloc, cdrewN, cdrew1, cset_far, cset_off, *, Option.isSome_some]; done))) only [calloc, falloc, cdrewN, cdrew1, fdrewN, fdrew1, cset_far, cset_off, fset_any, World.cell?_setCell_same']; first | done | with_reducible assumption) | (go_simp; done) | (simp; done)), (by first | with_reducible assumption | (simp (disch := (first | omega | (simp only [sz_alloc, sz_drewN, sz_drew1, sz_set]; omega) | (simp (disch := (first | omega | (simp only [sz_alloc, sz_drewN, sz_drew1, sz_set]; omega))) only [calloc, cdrewN, cdrew1, cset_far, cset_off, *, Option.isSome_some]; done))) only [calloc, falloc, cdrewN, cdrew1, fdrewN, fdrew1, cset_far, cset_off, fset_any, World.cell?_setCell_same']; first | done | with_reducible assumption) | (go_simp; done) | (simp; done)), (by first | ((try simp only [sz_alloc, sz_drewN, sz_drew1, sz_set]); omega) | (simp; done) | (simp; omega)), hid (HO5.out.keep (Keeps.sc (Keeps.refl _ _ _) (by omega) _)), hid (HB5.out.setCell (by simp) _)⟩
      case measure => first | (simp [intOf]; done) | (simp [intOf]; omega)
    · have hb1 : decide ((k : Int) < (n : Int)) = false := by simp; omega
      by_cases hc : 0 < z
      · have hb2 : decide (0 < z) = true := by simpa using hc
        have HKN : Hid (k < N) := hid (by
          have h1 := (crN_spec HBD.out).1.2; rw [HN.out] at h1
          by_cases e : k = N
          · rw [← e, ← HZ.out] at h1; omega
          · omega)
        have HC1 : Hid (crC l (k + 1) = (z) / 10 ∧ crD l (k + 1) = ds ++ [(z) % 10]) := hid (by rw [HDS.out]; simp only [crC, crD, ← HZ.out]; rw [if_neg (by rw [HL.out]; omega)]; simp)
        have HI64 : Hid (I64 ((z) % 10)) := hid (by unfold I64; omega)
        have hq0 : 0 ≤ z := by omega
        have hq1 : z ≤ 600000 := by omega
        have hmk : mo = k := HMK.out
        have hkN : k < N := HKN.out
        have HMM := hid hmk; clear hmk
        have hmo2 : mo + 1 ≤ N := by have h := HMM.out; omega
        have HC1b := hid (crC_bd HBD.out (k + 1))
        go_wp2_with (at_builtin; refine halt' ?_)
        unfold Halt'
        refine wpApp rfl (.tmp 29) (.tmp 32) rfl (w.heap.size + 2) ao mo co _ rfl (HO.out.alloc _) _ 1 1 _ rfl (one_ints _ _ _ HI64.out) (by omega) (by simp; omega) ?_
        intro a1 c1 w5 ho2 hg2
        have hb5 : Below (w.heap.size + 2) wr w5 := ho0' HO.out (Below.refl _ _) (by omega) hg2
        have hz5 := hb5.size
        replace cr := belowCell hb5 (by omega) cr; replace fr := belowFrz hb5 (by omega) fr; replace cb := belowCell hb5 (by omega) cb; replace fb := belowFrz hb5 (by omega) fb
        have HB5 := hid (HB.out.trans (hb5.mono (by omega))); have HO5 := hid ho2; clear hb5 ho2 hg2 HO HB
        go_wp2
        go_roundw
        case rel => exact ⟨k + 1, (z) / 10, ds ++ [(z) % 10], a1, mo + 1, c1, by go_num, rfl, hid HC1.out.1.symm, by have h := HC1b.out; rw [HC1.out.1] at h; exact h.1, by have h := HC1b.out; rw [HC1.out.1] at h; exact h.2, by omega, by omega, hid (by rw [HMM.out]), hid HC1.out.2.symm, (by first | with_reducible assumption | (simp (disch := (first | omega | (simp only [sz_alloc, sz_drewN, sz_drew1, sz_set]; omega) | (simp (disch := (first | omega | (simp only [sz_alloc, sz_drewN, sz_drew1, sz_set]; omega))) only [calloc, cdrewN, cdrew1, cset_far, cset_off, *, Option.isSome_some]; done))) only [calloc, falloc, cdrewN, cdrew1, fdrewN, fdrew1, cset_far, cset_off, fset_any, World.cell?_setCell_same']; first | done | with_reducible assumption) | (go_simp; done) | (simp; done)), (by first | with_reducible assumption | (simp (disch := (first | omega | (simp only [sz_alloc, sz_drewN, sz_drew1, sz_set]; omega) | (simp (disch := (first | omega | (simp only [sz_alloc, sz_drewN, sz_drew1, sz_set]; omega))) only [calloc, cdrewN, cdrew1, cset_far, cset_off, *, Option.isSome_some]; done))) only [calloc, falloc, cdrewN, cdrew1, fdrewN, fdrew1, cset_far, cset_off, fset_any, World.cell?_setCell_same']; first | done | with_reducible assumption) | (go_simp; done) | (simp; done)), (by first | with_reducible assumption | (simp (disch := (first | omega | (simp only [sz_alloc, sz_drewN, sz_drew1, sz_set]; omega) | (simp (disch := (first | omega | (simp only [sz_alloc, sz_drewN, sz_drew1, sz_set]; omega))) only [calloc, cdrewN, cdrew1, cset_far, cset_off, *, Option.isSome_some]; done))) only [calloc, falloc, cdrewN, cdrew1, fdrewN, fdrew1, cset_far, cset_off, fset_any, World.cell?_setCell_same']; first | done | with_reducible assumption) | (go_simp; done) | (simp; done)), (by first | with_reducible assumption | (simp (disch := (first | omega | (simp only [sz_alloc, sz_drewN, sz_drew1, sz_set]; omega) | (simp (disch := (first | omega | (simp only [sz_alloc, sz_drewN, sz_drew1, sz_set]; omega))) only [calloc, cdrewN, cdrew1, cset_far, cset_off, *, Option.isSome_some]; done))) only [calloc, falloc, cdrewN, cdrew1, fdrewN, fdrew1, cset_far, cset_off, fset_any, World.cell?_setCell_same']; first | done | with_reducible assumption) | (go_simp; done) | (simp; done)), (by first | ((try simp only [sz_alloc, sz_drewN, sz_drew1, sz_set]); omega) | (simp; done) | (simp; omega)), hid (HO5.out.keep (Keeps.sc (Keeps.refl _ _ _) (by omega) _)), hid (HB5.out.setCell (by simp) _)⟩
        case measure => first | (simp [intOf]; done) | (simp [intOf]; omega)
      · have hb2 : decide (0 < z) = false := by simpa using hc
        have hkN : N = k := by
          have h1 := (crN_spec HBD.out).2 k (by rw [HL.out]; omega) (by rw [← HZ.out]; omega)
          rw [HN.out] at h1; omega
        have hmN2 : mo = N := by have h := HMK.out; omega
        subst hmN2
        have HD : Hid (ds = crD l mo) := hid (by rw [HDS.out, hkN])
        have HTR : Hid (crOK l = decide (trimN ds mo ≤ 60) ∧ crRaw l = ds.take (trimN ds mo)) := hid (by unfold crOK crRaw; rw [HN.out, ← HD.out]; exact ⟨rfl, rfl⟩)
        have HKK := hid hkN; clear hkN
        have hcap := HO.out.ints.2.1; have hcap2 := HO.out.ints.2.2.1; unfold maxLen at hcap2
        have HR := hid HO.out.ints; have hsz9 : wr.heap.size ≤ wr.heap.size := Nat.le_refl _
        go_wp2_with fail
        go_loop [7] (fun i => ∃ j : Nat, i = .int .i64 j ∧ j ≤ mo ∧ Hid (trimN ds j = trimN ds mo)) (fun i => (intOf i).toNat)
        case atStart => exact ⟨mo, rfl, Nat.le_refl _, hid rfl⟩
        case round =>
          obtain ⟨j, rfl, hj, HJ⟩ := hrel
          by_cases hj0 : 0 < j
          · obtain ⟨i, rfl⟩ : ∃ i, j = i + 1 := ⟨j - 1, by omega⟩
            obtain ⟨b, off, hab, d0, _⟩ := intsAt' HR.out (show i < mo by omega)
            subst hab
            have hw1 : IntKind.i64.wrap ((i : Int) + 1 - 1) = i := by rw [show (i : Int) + 1 - 1 = i by omega]; exact IntWalk.i64_in _ (by omega)
            have hi1 : (i : Int) < (mo : Int) := by omega
            generalize hx : ix ds i = x at *
            have HX := hid hx; clear hx
            by_cases he : x = 0
            · have hb4 : (x == 0) = true := by simp [he]
              have HJ2 : Hid (trimN ds i = trimN ds mo) := hid (by rw [← HJ.out]; simp only [trimN]; rw [if_pos (by rw [HX.out]; exact he)])
              have HE := hid he; clear he
              go_wp2_with fail
              go_round
              case rel => exact ⟨i, by go_num, by omega, HJ2⟩
              case measure => first | (simp [intOf]; done) | (simp [intOf]; omega)
            · have hb4 : (x == 0) = false := by simp [he]
              have HT0 : trimN ds mo = i + 1 := by rw [← HJ.out]; simp only [trimN]; rw [if_neg (by rw [HX.out]; exact he)]
              have HE := hid he; clear he
              have HT : Hid (trimN ds mo = i + 1) := hid HT0
              have hjc : i + 1 ≤ co := by omega
              have hjc2 : ((i + 1 : Nat) : Int) ≤ (co : Int) := by omega
              by_cases h60 : i + 1 ≤ 60
              · have hb6 : decide (60 < ((i + 1 : Nat) : Int)) = false := by simp; omega
                have HF : Hid (crOK l = true ∧ crF l = ds.take (i + 1)) := hid (crOK_yes HTR.out HT.out h60)
                have hb7 : ((i : Int) + 1) ≤ 60 := by omega
                have hb8 : decide (60 < ((i : Int) + 1)) = false := by simp; omega
                have hb9 : (i : Int) ≤ 59 := by omega
                have H60 := hid h60; clear h60
                go_wp2
                refine bodyPost_ret (v := .tuple #[bigV (some ⟨b, off, none⟩) (i + 1) co, .bool true]) (by simp [results, Try.results43, go_sem, cr, cb]) rfl ⟨(some ⟨b, off, none⟩), i + 1, co, (by rw [HF.out.1]), ?_, ?_⟩
                · rw [HF.out.2]; exact (((takeI HR.out hj).keep (by (repeat (first | (with_reducible refine Keeps.sc ?_ (by omega) _) | (with_reducible refine Keeps.al ?_ (by first | ((try simp only [sz_alloc, sz_drewN, sz_drew1, sz_set]); omega) | (simp; done) | (simp; omega)) _) | (with_reducible refine Keeps.dr ?_ _))); with_reducible exact Keeps.refl _ _ _)).wide (by omega) (by first | ((try simp only [sz_alloc, sz_drewN, sz_drew1, sz_set]); omega) | (simp; done) | (simp; omega)))
                · have hq := HB.out; (repeat (with_reducible refine Below.setCell ?_ (by first | ((try simp only [sz_alloc, sz_drewN, sz_drew1, sz_set]); omega) | (simp; done) | (simp; omega)) _)); with_reducible exact hq
              · have hb6 : decide (60 < ((i + 1 : Nat) : Int)) = true := by simp; omega
                have HF : Hid (crOK l = false ∧ crF l = []) := hid (crOK_no HTR.out HT.out h60)
                have hb7 : 60 < ((i : Int) + 1) := by omega
                have hb8 : decide (60 < ((i : Int) + 1)) = true := by simp; omega
                have hb9 : 59 < (i : Int) := by omega
                have H60 := hid h60; clear h60
                go_wp2
                refine bodyPost_ret (v := .tuple #[bigV none 0 0, .bool false]) (by simp [results, Try.results43, go_sem, cr, cb]) rfl ⟨none, 0, 0, (by rw [HF.out.1]), ?_, ?_⟩
                · rw [HF.out.2]; exact nilI _ _ _ _
                · have hq := HB.out; (repeat (with_reducible refine Below.setCell ?_ (by first | ((try simp only [sz_alloc, sz_drewN, sz_drew1, sz_set]); omega) | (simp; done) | (simp; omega)) _)); with_reducible exact hq
          · obtain rfl : j = 0 := by omega
            have HT0 : trimN ds mo = 0 := HJ.out.symm
            have HT : Hid (trimN ds mo = 0) := hid HT0
            have hjc : 0 ≤ co := by omega
            have hjc2 : (0 : Int) ≤ (co : Int) := by omega
            by_cases h60 : 0 ≤ 60
            · have hb6 : decide (60 < (0 : Int)) = false := by decide
              have HF : Hid (crOK l = true ∧ crF l = ds.take (0)) := hid (crOK_yes HTR.out HT.out h60)
              have hb7 : (0) ≤ 60 := by omega
              have hb8 : decide (60 < (0)) = false := by decide
              have hb9 := hb8
              have H60 := hid h60; clear h60
              go_wp2
              refine bodyPost_ret (v := .tuple #[bigV ao (0) co, .bool true]) (by simp [results, Try.results43, go_sem, cr, cb]) rfl ⟨ao, 0, co, (by rw [HF.out.1]), ?_, ?_⟩
              · rw [HF.out.2]; exact (((takeI HR.out hj).keep (by (repeat (first | (with_reducible refine Keeps.sc ?_ (by omega) _) | (with_reducible refine Keeps.al ?_ (by first | ((try simp only [sz_alloc, sz_drewN, sz_drew1, sz_set]); omega) | (simp; done) | (simp; omega)) _) | (with_reducible refine Keeps.dr ?_ _))); with_reducible exact Keeps.refl _ _ _)).wide (by omega) (by first | ((try simp only [sz_alloc, sz_drewN, sz_drew1, sz_set]); omega) | (simp; done) | (simp; omega)))
              · have hq := HB.out; (repeat (with_reducible refine Below.setCell ?_ (by first | ((try simp only [sz_alloc, sz_drewN, sz_drew1, sz_set]); omega) | (simp; done) | (simp; omega)) _)); with_reducible exact hq
            · omega
set_option maxRecDepth 100000 in
set_option maxHeartbeats 6400000 in
theorem specCarry {fz : Bool} {lo hi : Nat} (a : Option Addr) (n c : Nat) (l : List Int) (w : World) (hI : IntsA fz lo hi w a n c l) (hh : hi ≤ w.heap.size) (hbd : Bd 300000 l) (hn : n ≤ 1048576) : Calls Try.prog 45 #[.slice a n c] w (GvBigB w (crF l) (crOK l)) := by
  have hl := hI.len; have HI := hid hI; have HBD := hid hbd; have HL := hid hl; clear hI hbd
  have hN := crN_le HBD.out; have hN2 := (crN_spec HBD.out).1.1; rw [hl] at hN hN2; clear hl
  obtain ⟨N, hNe⟩ : ∃ N, crN l = N := ⟨_, rfl⟩
  rw [hNe] at hN hN2
  have HN := hid hNe; clear hNe
  obtain ⟨W, hW⟩ : ∃ W, W = (w.alloc (.cells #[.slice none 0 0] 36)).alloc (.cells #[.slice none 0 0] 36) := ⟨_, rfl⟩
  have hBW : Below w.heap.size w W := by rw [hW]; exact (by repeat (first | with_reducible assumption | with_reducible exact Below.refl _ _ | with_reducible refine below_drewN ?_ _ | with_reducible refine Below.al ?_ (by first | with_reducible exact Nat.le_refl _ | omega | (simp; done) | (simp; omega) | exact Nat.le_refl _) _ | with_reducible refine Below.setCell ?_ (by first | with_reducible exact Nat.le_refl _ | omega | (simp; done) | (simp; omega) | exact Nat.le_refl _) _ | assumption | exact Below.refl _ _ | refine below_drewN ?_ _ | refine Below.al ?_ (by first | with_reducible exact Nat.le_refl _ | omega | (simp; done) | (simp; omega) | exact Nat.le_refl _) _ | refine Below.setCell ?_ (by first | with_reducible exact Nat.le_refl _ | omega | (simp; done) | (simp; omega) | exact Nat.le_refl _) _))
  have hz : W.heap.size = w.heap.size + 2 := by rw [hW]; simp
  have cr : W.cell? ⟨w.heap.size, 0, none⟩ = some (.slice none 0 0) := by rw [hW]; first | (go_simp; done) | (simp [World.cell?]; done)
  have fr : W.frozen? ⟨w.heap.size, 0, none⟩ = false := by rw [hW]; first | (go_simp; done) | (simp [World.frozen?]; done)
  have cb : W.cell? ⟨w.heap.size + 1, 0, none⟩ = some (.slice none 0 0) := by rw [hW]; first | (go_simp; done) | (simp [World.cell?]; done)
  have fb : W.frozen? ⟨w.heap.size + 1, 0, none⟩ = false := by rw [hW]; first | (go_simp; done) | (simp [World.frozen?]; done)
  have HBW := hid hBW; have HW := hid hW; clear hW hBW
  go_enter Try.func45, Try.ntmps45
  go_upto_region 2 with fail
  rw [← HW.out]
  go_wp2_with fail
  go_loopw [5, 6] (fun q i wr => ∃ (k : Nat) (z : Int) (ds : List Int) (ao : Option Addr) (mo co : Nat), i = .int .i64 k ∧ q = .int .i64 z ∧ Hid (z = crC l k) ∧ 0 ≤ z ∧ z ≤ 300000 ∧ mo ≤ N ∧ k ≤ N ∧ Hid (mo = k) ∧ Hid (ds = crD l k) ∧ wr.cell? ⟨w.heap.size, 0, none⟩ = some (.slice none 0 0) ∧ wr.frozen? ⟨w.heap.size, 0, none⟩ = false ∧ wr.cell? ⟨w.heap.size + 1, 0, none⟩ = some (.slice ao mo co) ∧ wr.frozen? ⟨w.heap.size + 1, 0, none⟩ = false ∧ w.heap.size + 2 ≤ wr.heap.size ∧ Hid (Own (w.heap.size + 2) wr ao mo co ds) ∧ Hid (Below w.heap.size w wr)) (fun _ i _ => N - (intOf i).toNat)
  case atStart => exact ⟨0, 0, [], none, 0, 0, rfl, rfl, hid rfl, by omega, by omega, by omega, by omega, hid rfl, hid rfl, cr, fr, cb, fb, by omega, hid (own_nil _ _), HBW⟩
  case round =>
    clear cr fr cb fb
    obtain ⟨k, z, ds, ao, mo, co, rfl, rfl, HZ, hz1, hz2, hmN, hk, HMK, HDS, cr, fr, cb, fb, hsz, HO, HB⟩ := hrel
    have hcn := hk
    by_cases hlt : k < n
    · have hb1 : decide ((k : Int) < (n : Int)) = true := by simp; omega
      have HKN : Hid (k < N) := hid (by omega)
      obtain ⟨b, off, hab, d0, _⟩ := intsAt' (HI.out.be HB.out hh) hlt
      subst hab
      have hbx := HBD.out k
      generalize hx : ix l k = x at *
      have HX := hid hx; clear hx
      obtain ⟨hx0, hx1⟩ := hbx
      have HC1 : Hid (crC l (k + 1) = (z + x) / 10 ∧ crD l (k + 1) = ds ++ [(z + x) % 10]) := hid (by rw [HDS.out]; simp only [crC, crD, ← HZ.out]; rw [if_pos (by rw [HL.out]; omega)]; first | rw [HX.out]; exact ⟨rfl, rfl⟩ | exact ⟨rfl, rfl⟩)
      have HI64 : Hid (I64 ((z + x) % 10)) := hid (by unfold I64; omega)
      have hq0 : 0 ≤ z + x := by omega
      have hq1 : z + x ≤ 600000 := by omega
      have hmk : mo = k := HMK.out
      have hkN : k < N := HKN.out
      have HMM := hid hmk; clear hmk
      have hmo2 : mo + 1 ≤ N := by have h := HMM.out; omega
      have HC1b := hid (crC_bd HBD.out (k + 1))
      go_wp2_with (at_builtin; refine halt' ?_)
      unfold Halt'
      refine wpApp rfl (.tmp 29) (.tmp 32) rfl (w.heap.size + 2) ao mo co _ rfl (HO.out.alloc _) _ 1 1 _ rfl (one_ints _ _ _ HI64.out) (by omega) (by simp; omega) ?_
      intro a1 c1 w5 ho2 hg2
      have hb5 : Below (w.heap.size + 2) wr w5 := ho0' HO.out (Below.refl _ _) (by omega) hg2
      have hz5 := hb5.size
      replace cr := belowCell hb5 (by omega) cr; replace fr := belowFrz hb5 (by omega) fr; replace cb := belowCell hb5 (by omega) cb; replace fb := belowFrz hb5 (by omega) fb
      have HB5 := hid (HB.out.trans (hb5.mono (by omega))); have HO5 := hid ho2; clear hb5 ho2 hg2 HO HB
      go_wp2
      go_roundw
      case rel => exact ⟨k + 1, (z + x) / 10, ds ++ [(z + x) % 10], a1, mo + 1, c1, by go_num, rfl, hid HC1.out.1.symm, by have h := HC1b.out; rw [HC1.out.1] at h; exact h.1, by have h := HC1b.out; rw [HC1.out.1] at h; exact h.2, by omega, by omega, hid (by rw [HMM.out]), hid HC1.out.2.symm, (by first | with_reducible assumption | (simp (disch := (first | omega | (simp only [sz_alloc, sz_drewN, sz_drew1, sz_set]; omega) | (simp (disch := (first | omega | (simp only [sz_alloc, sz_drewN, sz_drew1, sz_set]; omega))) only [calloc, cdrewN, cdrew1, cset_far, cset_off, *, Option.isSome_some]; done))) only [calloc, falloc, cdrewN, cdrew1, fdrewN, fdrew1, cset_far, cset_off, fset_any, World.cell?_setCell_same']; first | done | with_reducible assumption) | (go_simp; done) | (simp; done)), (by first | with_reducible assumption | (simp (disch := (first | omega | (simp only [sz_alloc, sz_drewN, sz_drew1, sz_set]; omega) | (simp (disch := (first | omega | (simp only [sz_alloc, sz_drewN, sz_drew1, sz_set]; omega))) only [calloc, cdrewN, cdrew1, cset_far, cset_off, *, Option.isSome_some]; done))) only [calloc, falloc, cdrewN, cdrew1, fdrewN, fdrew1, cset_far, cset_off, fset_any, World.cell?_setCell_same']; first | done | with_reducible assumption) | (go_simp; done) | (simp; done)), (by first | with_reducible assumption | (simp (disch := (first | omega | (simp only [sz_alloc, sz_drewN, sz_drew1, sz_set]; omega) | (simp (disch := (first | omega | (simp only [sz_alloc, sz_drewN, sz_drew1, sz_set]; omega))) only [calloc, cdrewN, cdrew1, cset_far, cset_off, *, Option.isSome_some]; done))) only [calloc, falloc, cdrewN, cdrew1, fdrewN, fdrew1, cset_far, cset_off, fset_any, World.cell?_setCell_same']; first | done | with_reducible assumption) | (go_simp; done) | (simp; done)), (by first | with_reducible assumption | (simp (disch := (first | omega | (simp only [sz_alloc, sz_drewN, sz_drew1, sz_set]; omega) | (simp (disch := (first | omega | (simp only [sz_alloc, sz_drewN, sz_drew1, sz_set]; omega))) only [calloc, cdrewN, cdrew1, cset_far, cset_off, *, Option.isSome_some]; done))) only [calloc, falloc, cdrewN, cdrew1, fdrewN, fdrew1, cset_far, cset_off, fset_any, World.cell?_setCell_same']; first | done | with_reducible assumption) | (go_simp; done) | (simp; done)), (by first | ((try simp only [sz_alloc, sz_drewN, sz_drew1, sz_set]); omega) | (simp; done) | (simp; omega)), hid (HO5.out.keep (Keeps.sc (Keeps.refl _ _ _) (by omega) _)), hid (HB5.out.setCell (by simp) _)⟩
      case measure => first | (simp [intOf]; done) | (simp [intOf]; omega)
    · have hb1 : decide ((k : Int) < (n : Int)) = false := by simp; omega
      by_cases hc : 0 < z
      · have hb2 : decide (0 < z) = true := by simpa using hc
        have HKN : Hid (k < N) := hid (by
          have h1 := (crN_spec HBD.out).1.2; rw [HN.out] at h1
          by_cases e : k = N
          · rw [← e, ← HZ.out] at h1; omega
          · omega)
        have HC1 : Hid (crC l (k + 1) = (z) / 10 ∧ crD l (k + 1) = ds ++ [(z) % 10]) := hid (by rw [HDS.out]; simp only [crC, crD, ← HZ.out]; rw [if_neg (by rw [HL.out]; omega)]; simp)
        have HI64 : Hid (I64 ((z) % 10)) := hid (by unfold I64; omega)
        have hq0 : 0 ≤ z := by omega
        have hq1 : z ≤ 600000 := by omega
        have hmk : mo = k := HMK.out
        have hkN : k < N := HKN.out
        have HMM := hid hmk; clear hmk
        have hmo2 : mo + 1 ≤ N := by have h := HMM.out; omega
        have HC1b := hid (crC_bd HBD.out (k + 1))
        go_wp2_with (at_builtin; refine halt' ?_)
        unfold Halt'
        refine wpApp rfl (.tmp 29) (.tmp 32) rfl (w.heap.size + 2) ao mo co _ rfl (HO.out.alloc _) _ 1 1 _ rfl (one_ints _ _ _ HI64.out) (by omega) (by simp; omega) ?_
        intro a1 c1 w5 ho2 hg2
        have hb5 : Below (w.heap.size + 2) wr w5 := ho0' HO.out (Below.refl _ _) (by omega) hg2
        have hz5 := hb5.size
        replace cr := belowCell hb5 (by omega) cr; replace fr := belowFrz hb5 (by omega) fr; replace cb := belowCell hb5 (by omega) cb; replace fb := belowFrz hb5 (by omega) fb
        have HB5 := hid (HB.out.trans (hb5.mono (by omega))); have HO5 := hid ho2; clear hb5 ho2 hg2 HO HB
        go_wp2
        go_roundw
        case rel => exact ⟨k + 1, (z) / 10, ds ++ [(z) % 10], a1, mo + 1, c1, by go_num, rfl, hid HC1.out.1.symm, by have h := HC1b.out; rw [HC1.out.1] at h; exact h.1, by have h := HC1b.out; rw [HC1.out.1] at h; exact h.2, by omega, by omega, hid (by rw [HMM.out]), hid HC1.out.2.symm, (by first | with_reducible assumption | (simp (disch := (first | omega | (simp only [sz_alloc, sz_drewN, sz_drew1, sz_set]; omega) | (simp (disch := (first | omega | (simp only [sz_alloc, sz_drewN, sz_drew1, sz_set]; omega))) only [calloc, cdrewN, cdrew1, cset_far, cset_off, *, Option.isSome_some]; done))) only [calloc, falloc, cdrewN, cdrew1, fdrewN, fdrew1, cset_far, cset_off, fset_any, World.cell?_setCell_same']; first | done | with_reducible assumption) | (go_simp; done) | (simp; done)), (by first | with_reducible assumption | (simp (disch := (first | omega | (simp only [sz_alloc, sz_drewN, sz_drew1, sz_set]; omega) | (simp (disch := (first | omega | (simp only [sz_alloc, sz_drewN, sz_drew1, sz_set]; omega))) only [calloc, cdrewN, cdrew1, cset_far, cset_off, *, Option.isSome_some]; done))) only [calloc, falloc, cdrewN, cdrew1, fdrewN, fdrew1, cset_far, cset_off, fset_any, World.cell?_setCell_same']; first | done | with_reducible assumption) | (go_simp; done) | (simp; done)), (by first | with_reducible assumption | (simp (disch := (first | omega | (simp only [sz_alloc, sz_drewN, sz_drew1, sz_set]; omega) | (simp (disch := (first | omega | (simp only [sz_alloc, sz_drewN, sz_drew1, sz_set]; omega))) only [calloc, cdrewN, cdrew1, cset_far, cset_off, *, Option.isSome_some]; done))) only [calloc, falloc, cdrewN, cdrew1, fdrewN, fdrew1, cset_far, cset_off, fset_any, World.cell?_setCell_same']; first | done | with_reducible assumption) | (go_simp; done) | (simp; done)), (by first | with_reducible assumption | (simp (disch := (first | omega | (simp only [sz_alloc, sz_drewN, sz_drew1, sz_set]; omega) | (simp (disch := (first | omega | (simp only [sz_alloc, sz_drewN, sz_drew1, sz_set]; omega))) only [calloc, cdrewN, cdrew1, cset_far, cset_off, *, Option.isSome_some]; done))) only [calloc, falloc, cdrewN, cdrew1, fdrewN, fdrew1, cset_far, cset_off, fset_any, World.cell?_setCell_same']; first | done | with_reducible assumption) | (go_simp; done) | (simp; done)), (by first | ((try simp only [sz_alloc, sz_drewN, sz_drew1, sz_set]); omega) | (simp; done) | (simp; omega)), hid (HO5.out.keep (Keeps.sc (Keeps.refl _ _ _) (by omega) _)), hid (HB5.out.setCell (by simp) _)⟩
        case measure => first | (simp [intOf]; done) | (simp [intOf]; omega)
      · have hb2 : decide (0 < z) = false := by simpa using hc
        have hkN : N = k := by
          have h1 := (crN_spec HBD.out).2 k (by rw [HL.out]; omega) (by rw [← HZ.out]; omega)
          rw [HN.out] at h1; omega
        have hmN2 : mo = N := by have h := HMK.out; omega
        subst hmN2
        have HD : Hid (ds = crD l mo) := hid (by rw [HDS.out, hkN])
        have HTR : Hid (crOK l = decide (trimN ds mo ≤ 60) ∧ crRaw l = ds.take (trimN ds mo)) := hid (by unfold crOK crRaw; rw [HN.out, ← HD.out]; exact ⟨rfl, rfl⟩)
        have HKK := hid hkN; clear hkN
        have hcap := HO.out.ints.2.1; have hcap2 := HO.out.ints.2.2.1; unfold maxLen at hcap2
        have HR := hid HO.out.ints; have hsz9 : wr.heap.size ≤ wr.heap.size := Nat.le_refl _
        go_wp2_with fail
        go_loopg [] mo (fun g wq => ∃ j : Nat, j = g ∧ j ≤ mo ∧ Hid (trimN ds j = trimN ds mo) ∧ wq.cell? ⟨w.heap.size, 0, none⟩ = some (.slice none 0 0) ∧ wq.frozen? ⟨w.heap.size, 0, none⟩ = false ∧ wq.cell? ⟨w.heap.size + 1, 0, none⟩ = some (.slice ao j co) ∧ wq.frozen? ⟨w.heap.size + 1, 0, none⟩ = false ∧ w.heap.size + 2 ≤ wq.heap.size ∧ wr.heap.size ≤ wq.heap.size ∧ Hid (IntsA true (w.heap.size + 2) wr.heap.size wq ao mo co ds) ∧ Hid (Below w.heap.size w wq))
        case atStart => exact ⟨mo, rfl, Nat.le_refl _, hid rfl, cr, fr, cb, fb, by omega, Nat.le_refl _, HR, HB⟩
        case round =>
          clear cr fr cb fb HR HB
          obtain ⟨j, rfl, hj, HJ, cr, fr, cb, fb, hsz2, hsz3, HR, HB⟩ := hrel
          by_cases hj0 : 0 < j
          · obtain ⟨i, rfl⟩ : ∃ i, j = i + 1 := ⟨j - 1, by omega⟩
            obtain ⟨b, off, hab, d0, _⟩ := intsAt' HR.out (show i < mo by omega)
            subst hab
            have hw1 : IntKind.i64.wrap ((i : Int) + 1 - 1) = i := by rw [show (i : Int) + 1 - 1 = i by omega]; exact IntWalk.i64_in _ (by omega)
            have hi1 : (i : Int) < (i : Int) + 1 := by omega
            have hi2 : 0 < (i : Int) + 1 := by omega
            have hi3 : i ≤ co := by omega
            have hi4 : (i : Int) ≤ (co : Int) := by omega
            generalize hx : ix ds i = x at *
            have HX := hid hx; clear hx
            by_cases he : x = 0
            · have hb4 : (x == 0) = true := by simp [he]
              have HJ2 : Hid (trimN ds i = trimN ds mo) := hid (by rw [← HJ.out]; simp only [trimN]; rw [if_pos (by rw [HX.out]; exact he)])
              have HE := hid he; clear he
              go_wp2
              go_roundg i
              case measure => omega
              case rel => exact ⟨i, rfl, by omega, HJ2, (by first | with_reducible assumption | (simp (disch := (first | omega | (simp only [sz_alloc, sz_drewN, sz_drew1, sz_set]; omega) | (simp (disch := (first | omega | (simp only [sz_alloc, sz_drewN, sz_drew1, sz_set]; omega))) only [calloc, cdrewN, cdrew1, cset_far, cset_off, *, Option.isSome_some]; done))) only [calloc, falloc, cdrewN, cdrew1, fdrewN, fdrew1, cset_far, cset_off, fset_any, World.cell?_setCell_same']; first | done | with_reducible assumption) | (go_simp; done) | (simp; done)), (by first | with_reducible assumption | (simp (disch := (first | omega | (simp only [sz_alloc, sz_drewN, sz_drew1, sz_set]; omega) | (simp (disch := (first | omega | (simp only [sz_alloc, sz_drewN, sz_drew1, sz_set]; omega))) only [calloc, cdrewN, cdrew1, cset_far, cset_off, *, Option.isSome_some]; done))) only [calloc, falloc, cdrewN, cdrew1, fdrewN, fdrew1, cset_far, cset_off, fset_any, World.cell?_setCell_same']; first | done | with_reducible assumption) | (go_simp; done) | (simp; done)), (by first | with_reducible assumption | (simp (disch := (first | omega | (simp only [sz_alloc, sz_drewN, sz_drew1, sz_set]; omega) | (simp (disch := (first | omega | (simp only [sz_alloc, sz_drewN, sz_drew1, sz_set]; omega))) only [calloc, cdrewN, cdrew1, cset_far, cset_off, *, Option.isSome_some]; done))) only [calloc, falloc, cdrewN, cdrew1, fdrewN, fdrew1, cset_far, cset_off, fset_any, World.cell?_setCell_same']; first | done | with_reducible assumption) | (go_simp; done) | (simp; done)), (by first | with_reducible assumption | (simp (disch := (first | omega | (simp only [sz_alloc, sz_drewN, sz_drew1, sz_set]; omega) | (simp (disch := (first | omega | (simp only [sz_alloc, sz_drewN, sz_drew1, sz_set]; omega))) only [calloc, cdrewN, cdrew1, cset_far, cset_off, *, Option.isSome_some]; done))) only [calloc, falloc, cdrewN, cdrew1, fdrewN, fdrew1, cset_far, cset_off, fset_any, World.cell?_setCell_same']; first | done | with_reducible assumption) | (go_simp; done) | (simp; done)), (by first | ((try simp only [sz_alloc, sz_drewN, sz_drew1, sz_set]); omega) | (simp; done) | (simp; omega)), (by first | ((try simp only [sz_alloc, sz_drewN, sz_drew1, sz_set]); omega) | (simp; done) | (simp; omega)), hid (HR.out.keep (Keeps.sc (Keeps.refl _ _ _) (by omega) _)), hid (HB.out.setCell (by simp) _)⟩
            · have hb4 : (x == 0) = false := by simp [he]
              have HT0 : trimN ds mo = i + 1 := by rw [← HJ.out]; simp only [trimN]; rw [if_neg (by rw [HX.out]; exact he)]
              have HE := hid he; clear he
              have HT : Hid (trimN ds mo = i + 1) := hid HT0
              by_cases h60 : i + 1 ≤ 60
              · have HF : Hid (crOK l = true ∧ crF l = ds.take (i + 1)) := hid (crOK_yes HTR.out HT.out h60)
                have hb7 : ((i : Int) + 1 : Int) ≤ 60 := by omega
                have hb8 : decide (60 < ((i : Int) + 1 : Int)) = false := by simp; omega
                have hb9 : (i : Int) ≤ 59 := by omega
                have H60 := hid h60; clear h60
                go_wp2
                refine bodyPost_ret (v := .tuple #[bigV (some ⟨b, off, none⟩) (i + 1) co, .bool true]) (by simp [results, Try.results45, go_sem, cr, cb]) rfl ⟨(some ⟨b, off, none⟩), i + 1, co, (by rw [HF.out.1]), ?_, ?_⟩
                · rw [HF.out.2]; exact (((takeI HR.out (by omega)).keep (by (repeat (first | (with_reducible refine Keeps.sc ?_ (by omega) _) | (with_reducible refine Keeps.al ?_ (by first | ((try simp only [sz_alloc, sz_drewN, sz_drew1, sz_set]); omega) | (simp; done) | (simp; omega)) _) | (with_reducible refine Keeps.dr ?_ _))); with_reducible exact Keeps.refl _ _ _)).wide (by omega) (by first | ((try simp only [sz_alloc, sz_drewN, sz_drew1, sz_set]); omega) | (simp; done) | (simp; omega)))
                · have hq := HB.out; (repeat (with_reducible refine Below.setCell ?_ (by first | ((try simp only [sz_alloc, sz_drewN, sz_drew1, sz_set]); omega) | (simp; done) | (simp; omega)) _)); with_reducible exact hq
              · have HF : Hid (crOK l = false ∧ crF l = []) := hid (crOK_no HTR.out HT.out h60)
                have hb7 : 60 < ((i : Int) + 1 : Int) := by omega
                have hb8 : decide (60 < ((i : Int) + 1 : Int)) = true := by simp; omega
                have hb9 : 59 < (i : Int) := by omega
                have H60 := hid h60; clear h60
                go_wp2
                refine bodyPost_ret (v := .tuple #[bigV none 0 0, .bool false]) (by simp [results, Try.results45, go_sem, cr, cb]) rfl ⟨none, 0, 0, (by rw [HF.out.1]), ?_, ?_⟩
                · rw [HF.out.2]; exact nilI _ _ _ _
                · have hq := HB.out; (repeat (with_reducible refine Below.setCell ?_ (by first | ((try simp only [sz_alloc, sz_drewN, sz_drew1, sz_set]); omega) | (simp; done) | (simp; omega)) _)); with_reducible exact hq
          · obtain rfl : j = 0 := by omega
            have HT0 : trimN ds mo = 0 := HJ.out.symm
            have HT : Hid (trimN ds mo = 0) := hid HT0
            by_cases h60 : 0 ≤ 60
            · have HF : Hid (crOK l = true ∧ crF l = ds.take (0)) := hid (crOK_yes HTR.out HT.out h60)
              have hb7 : (0 : Int) ≤ 60 := by omega
              have hb8 : decide (60 < (0 : Int)) = false := by decide
              have H60 := hid h60; clear h60
              go_wp2
              refine bodyPost_ret (v := .tuple #[bigV ao (0) co, .bool true]) (by simp [results, Try.results45, go_sem, cr, cb]) rfl ⟨ao, 0, co, (by rw [HF.out.1]), ?_, ?_⟩
              · rw [HF.out.2]; exact (((takeI HR.out (by omega)).keep (by (repeat (first | (with_reducible refine Keeps.sc ?_ (by omega) _) | (with_reducible refine Keeps.al ?_ (by first | ((try simp only [sz_alloc, sz_drewN, sz_drew1, sz_set]); omega) | (simp; done) | (simp; omega)) _) | (with_reducible refine Keeps.dr ?_ _))); with_reducible exact Keeps.refl _ _ _)).wide (by omega) (by first | ((try simp only [sz_alloc, sz_drewN, sz_drew1, sz_set]); omega) | (simp; done) | (simp; omega)))
              · have hq := HB.out; (repeat (with_reducible refine Below.setCell ?_ (by first | ((try simp only [sz_alloc, sz_drewN, sz_drew1, sz_set]); omega) | (simp; done) | (simp; omega)) _)); with_reducible exact hq
            · omega
end Go.Proofs.Ytjfhjlbofoknfaa
