/- Walks: the reference's copy of a relation. Written by iters4.py. -/
import Derived.Test.YthochdlbmaiclaaIC2
import Derived.Test.YthochdlbmaiclaaGrow3
namespace Go.Proofs.Ythochdlbmaiclaa
set_option linter.unusedSimpArgs false
set_option linter.unusedVariables false
open Go.RowKit
/-- The call returns a relation whose rows lie apart; nothing that was there has turned. -/
def GvRelS (w : World) (ar : Int) (n : Nat) (rows : List (List Int)) (e : Ending) (w' : World) : Prop := ∃ a c, e = .returned (trieV ar a n c) ∧ RowsS w.heap.size w'.heap.size w' a n c rows ∧ Below w.heap.size w w'
/-- the value is a slice of one row, whose data the blocks from B on hold -/
def pOneR (B n : Nat) (x : List Int) : PropV := fun v _ _ w' => ∃ g a' c' s t, v = .slice (some ⟨g, 0, none⟩) 1 1 ∧ w'.heap[g]? = some (.cells #[.slice a' n c'] 27 (0, 0)) ∧ B ≤ s ∧ t ≤ w'.heap.size ∧ HeadI w' s t ∧ intsQ s t w' a' n c' x
theorem pOneR_st (B n : Nat) (x : List Int) : StableP (pOneR B n x) :=
  fun _ _ _ _ _ ⟨g, a', c', s, t, h1, h2, h3, h4, h5, h6⟩ hb => ⟨g, a', c', s, t, h1, by rw [hb.block g (Array.getElem?_eq_some_iff.1 h2).1]; exact h2, h3, Nat.le_trans h4 hb.size, h5.keep (Keeps.of_below hb h4) (Nat.le_refl _) (Nat.le_refl _), intsQOK.keep h6 (Keeps.of_below hb h4)⟩
theorem stepU {Q : Exit → Act → World → Prop} {o : Oper} {a' : Act} {w' : World} {v : Value} (hr : (execOp a'.eval o).run Try.prog w' = .ok (.value v) w') : o.wp Try.prog a' w' (fun a'' w'' => a'' = a'.put o.dst v ∧ w'' = w') Q := by
  unfold Oper.wp
  rw [hr]
  exact ⟨rfl, rfl⟩
theorem wpSt {Q : Exit → Act → World → Prop} {K : Act → World → Prop} {o : Oper} {a' : Act} {w' w'' : World} (hd : o.dst = none) (hr : (execOp a'.eval o).run Try.prog w' = .ok .skip w'') (h : K a' w'') : o.wp Try.prog a' w' K Q := by
  unfold Oper.wp
  rw [hr]
  have h1 : Oper.upon Try.prog o a' K Q (.ok .skip w'') = K (a'.put o.dst undef) w'' := rfl
  rw [h1, hd]
  exact h
theorem stepM {Q : Exit → Act → World → Prop} {o : Oper} {a' : Act} {w' w'' : World} {v : Value} {M : Value → World → Prop} (hr : (execOp a'.eval o).run Try.prog w' = .ok (.value v) w'') (hM : M v w'') : o.wp Try.prog a' w' (fun a'' w'' => ∃ v, a'' = a'.put o.dst v ∧ M v w'') Q := by
  unfold Oper.wp
  rw [hr]
  exact ⟨v, rfl, hM⟩
set_option maxRecDepth 100000 in
set_option maxHeartbeats 12800000 in
theorem specL5 {fz : Bool} {lo hi : Nat} (ar : Int) (a : Option Addr) (n c : Nat) (rows : List (List Int)) (w : World) (hI : RowsA fz lo hi w a n c rows) (hh : hi ≤ w.heap.size) (hs : rowsSz rows ≤ 1048576) (har : I64 ar) :
    Calls Try.prog 50 #[trieV ar a n c] w (GvRelS w ar n rows) := by
  have hl := hI.len
  have hn : n ≤ 1048576 := by unfold rowsSz at hs; omega
  have HL := hid hl; have HS := hid hs; clear hl hs
  go_enter Try.func50, Try.ntmps50
  go_wp2_with fail
  go_loopw [4] (fun i wr => ∃ (k : Nat) (oo : Option Addr) (om oc : Nat) (vs : List Value), i = .int .i64 k ∧ k ≤ n ∧ wr.cell? ⟨w.heap.size, 0, none⟩ = some (.int .i64 ar) ∧ wr.cell? ⟨w.heap.size, 1, none⟩ = some (.slice a n c) ∧ wr.cell? ⟨w.heap.size + 1, 0, none⟩ = some (.int .i64 0) ∧ wr.cell? ⟨w.heap.size + 1, 1, none⟩ = some (.slice none 0 0) ∧ wr.frozen? ⟨w.heap.size + 1, 0, none⟩ = false ∧ wr.frozen? ⟨w.heap.size + 1, 1, none⟩ = false ∧ wr.cell? ⟨w.heap.size + 1 + 1, 0, none⟩ = some (.int .i64 ar) ∧ wr.cell? ⟨w.heap.size + 1 + 1, 1, none⟩ = some (.slice oo om oc) ∧ wr.frozen? ⟨w.heap.size + 1 + 1, 1, none⟩ = false ∧ Hid (OwnV 27 (w.heap.size + 1 + 1 + 1) wr oo om oc vs ∧ SepV intsQ (w.heap.size + 1 + 1 + 1) wr.heap.size wr vs (rows.take k)) ∧ Hid (Below w.heap.size w wr)) (fun i _ => n - (intOf i).toNat)
  case atStart => exact ⟨0, none, 0, 0, [], rfl, by omega, (by first | (go_simp; done) | (simp [World.cell?]; done) | (simp [World.frozen?]; done) | skip), (by first | (go_simp; done) | (simp [World.cell?]; done) | (simp [World.frozen?]; done) | skip), (by first | (go_simp; done) | (simp [World.cell?]; done) | (simp [World.frozen?]; done) | skip), (by first | (go_simp; done) | (simp [World.cell?]; done) | (simp [World.frozen?]; done) | skip), (by first | (go_simp; done) | (simp [World.cell?]; done) | (simp [World.frozen?]; done) | skip), (by first | (go_simp; done) | (simp [World.cell?]; done) | (simp [World.frozen?]; done) | skip), (by first | (go_simp; done) | (simp [World.cell?]; done) | (simp [World.frozen?]; done) | skip), (by first | (go_simp; done) | (simp [World.cell?]; done) | (simp [World.frozen?]; done) | skip), (by first | (go_simp; done) | (simp [World.cell?]; done) | (simp [World.frozen?]; done) | skip), hid ⟨ownV_nil _ _ _, SepV.nil _ _ _ _⟩, hid (by repeat (first | with_reducible assumption | with_reducible exact Below.refl _ _ | with_reducible refine below_drewN ?_ _ | with_reducible refine below_drew1 ?_ | with_reducible refine Below.al ?_ (by first | with_reducible exact Nat.le_refl _ | omega | (simp; done) | (simp; omega) | exact Nat.le_refl _) _ | with_reducible refine Below.setCell ?_ (by first | with_reducible exact Nat.le_refl _ | omega | (simp; done) | (simp; omega) | exact Nat.le_refl _) _ | assumption | exact Below.refl _ _ | refine below_drewN ?_ _ | refine below_drew1 ?_ | refine Below.al ?_ (by first | with_reducible exact Nat.le_refl _ | omega | (simp; done) | (simp; omega) | exact Nat.le_refl _) _ | refine Below.setCell ?_ (by first | with_reducible exact Nat.le_refl _ | omega | (simp; done) | (simp; omega) | exact Nat.le_refl _) _))⟩
  case round =>
    obtain ⟨k, oo, om, oc, vs, rfl, hk, b0, b1, r0, r1, f0, f1, x0, x1, y1, HO, HB⟩ := hrel
    have hom : om = k := by have h1 := HO.out.1.len; have h2 := HO.out.2.1; have h3 := HL.out; rw [List.length_take] at h2; omega
    have homb : om ≤ 1048576 := by omega
    have HOM := hid hom; clear hom
    have hzr := HB.out.size
    have hz2 : w.heap.size + 1 + 1 < wr.heap.size := World.block_lt_of_cell? _ _ x0
    have hz0 : w.heap.size < wr.heap.size := by omega
    have hz1 : w.heap.size + 1 < wr.heap.size := by omega
    by_cases hlt : k < n
    · have hIr : RowsA fz lo hi wr a n c rows := SlA.be intsOK hI HB.out hh
      obtain ⟨b, off, rfl⟩ := hIr.some (by omega)
      obtain ⟨_, hbhi, ra, rn, rc, d0, hr, _⟩ := hIr.at hlt
      have hbb : b < wr.heap.size := by omega
      have hrl := hr.len
      have hrn : rn ≤ 1048576 := by have := rowsSz_row HS.out k; omega
      have HI := hid (And.intro hIr hr); clear hIr hr hrl
      go_wp2_with fail
      refine wp_region_mid (m := 10) (z := 12) (U := [11]) (N := 28) (by kernel_rfl) (by kernel_rfl) (by rfl)
        (vp [pEq (.pointer (some ⟨w.heap.size + 1 + 1, 1, none⟩)), pEq (.slice oo om oc), pEmp 3, pEq (.pointer (some ⟨w.heap.size, 1, none⟩)), pEq (.slice (some ⟨b, off, none⟩) n c), pEq (.int .i64 k), pEq (.pointer (some ⟨b, off + k, none⟩)), pEq (.slice ra rn rc), pDat intsQ rn (rx rows k), pOneR wr.heap.size rn (rx rows k)])
        (fun _ => .pointer (some ⟨w.heap.size + 1 + 1, 1, none⟩))
        (fun v w5 => ∃ (a1 : Option Addr) (c1 : Nat) (vs1 : List Value), v = .slice a1 (om + 1) c1 ∧ w5.cell? ⟨w.heap.size, 0, none⟩ = some (.int .i64 ar) ∧ w5.cell? ⟨w.heap.size, 1, none⟩ = some (.slice (some ⟨b, off, none⟩) n c) ∧ w5.cell? ⟨w.heap.size + 1, 0, none⟩ = some (.int .i64 0) ∧ w5.cell? ⟨w.heap.size + 1, 1, none⟩ = some (.slice none 0 0) ∧ w5.frozen? ⟨w.heap.size + 1, 0, none⟩ = false ∧ w5.frozen? ⟨w.heap.size + 1, 1, none⟩ = false ∧ w5.cell? ⟨w.heap.size + 1 + 1, 0, none⟩ = some (.int .i64 ar) ∧ w5.cell? ⟨w.heap.size + 1 + 1, 1, none⟩ = some (.slice oo om oc) ∧ w5.frozen? ⟨w.heap.size + 1 + 1, 1, none⟩ = false ∧ Hid (OwnV 27 (w.heap.size + 1 + 1 + 1) w5 a1 (om + 1) c1 vs1 ∧ SepV intsQ (w.heap.size + 1 + 1 + 1) w5.heap.size w5 vs1 (rows.take (k + 1))) ∧ Hid (Below w.heap.size w w5))
        (stab_vp (by
          intro p hp
          simp only [List.mem_cons, List.not_mem_nil, or_false] at hp
          rcases hp with rfl | rfl | rfl | rfl | rfl | rfl | rfl | rfl | rfl | rfl <;> first | exact pEq_st _ | exact pEmp_st _ | exact pDat_st intsQOK _ _ | exact pOneR_st _ _ _)) ?_ ?_ ?_ ?_
      · intro i o hi ho a' w' hB hF hdeps
        have hi2 : ¬ i = 10 ∧ ¬ i = 12 ∧ ¬ i = 11 := by have := hi.2; simpa using this
        have hi1 : i < 13 := hi.1
        rcases (by omega : i = 0 ∨ i = 1 ∨ i = 2 ∨ i = 3 ∨ i = 4 ∨ i = 5 ∨ i = 6 ∨ i = 7 ∨ i = 8 ∨ i = 9) with rfl | rfl | rfl | rfl | rfl | rfl | rfl | rfl | rfl | rfl
        · obtain rfl := Option.some.inj ho
          have e1 := evTmp (hF.ev 3 (by kernel_rfl) rfl)
          refine stepG (v := .pointer (some ⟨w.heap.size + 1 + 1, 1, none⟩)) (s := w'.heap.size) (t := w'.heap.size) (w'' := w') ?_ ?_ ?_ ?_ ?_
          · simp [execOp, e1, go_sem]
          · exact Below.refl _ _
          · exact Nat.le_refl _
          · exact Nat.le_refl _
          · exact rfl
        · obtain rfl := Option.some.inj ho
          obtain ⟨_, _, _, _, e'⟩ := hdeps ⟨0, .data⟩ (by simp) (by rfl) _ 15 rfl rfl
          have e := evTmp (show a'.eval (.tmp 15) = .pointer (some ⟨w.heap.size + 1 + 1, 1, none⟩) from e')
          have hc : w'.cell? ⟨w.heap.size + 1 + 1, 1, none⟩ = some (.slice oo om oc) := by rw [(bcell hB).1 _ _ (by omega)]; exact x1
          refine stepG (v := .slice oo om oc) (s := w'.heap.size) (t := w'.heap.size) (w'' := w') ?_ ?_ ?_ ?_ ?_
          · simp [execOp, e, go_sem, hc]
          · exact Below.refl _ _
          · exact Nat.le_refl _
          · exact Nat.le_refl _
          · exact rfl
        · obtain rfl := Option.some.inj ho
          refine stepG (v := .slice (some ⟨w'.heap.size, 0, none⟩) 0 0) (s := w'.heap.size) (t := w'.heap.size) (w'' := w'.alloc (.cells #[] 3)) ?_ ?_ ?_ ?_ ?_
          · simp [execOp, go_sem]
          · exact (by repeat (first | with_reducible assumption | with_reducible exact Below.refl _ _ | with_reducible refine below_drewN ?_ _ | with_reducible refine Below.al ?_ (by first | with_reducible exact Nat.le_refl _ | omega | (simp; done) | (simp; omega) | exact Nat.le_refl _) _ | with_reducible refine Below.setCell ?_ (by first | with_reducible exact Nat.le_refl _ | omega | (simp; done) | (simp; omega) | exact Nat.le_refl _) _ | assumption | exact Below.refl _ _ | refine below_drewN ?_ _ | refine Below.al ?_ (by first | with_reducible exact Nat.le_refl _ | omega | (simp; done) | (simp; omega) | exact Nat.le_refl _) _ | refine Below.setCell ?_ (by first | with_reducible exact Nat.le_refl _ | omega | (simp; done) | (simp; omega) | exact Nat.le_refl _) _))
          · exact Nat.le_refl _
          · simp
          · exact ⟨w'.heap.size, rfl, heap_alloc_new _ _⟩
        · obtain rfl := Option.some.inj ho
          have e1 := evTmp (hF.ev 1 (by kernel_rfl) rfl)
          refine stepG (v := .pointer (some ⟨w.heap.size, 1, none⟩)) (s := w'.heap.size) (t := w'.heap.size) (w'' := w') ?_ ?_ ?_ ?_ ?_
          · simp [execOp, e1, go_sem]
          · exact Below.refl _ _
          · exact Nat.le_refl _
          · exact Nat.le_refl _
          · exact rfl
        · obtain rfl := Option.some.inj ho
          obtain ⟨_, _, _, _, e'⟩ := hdeps ⟨3, .data⟩ (by simp) (by rfl) _ 18 rfl rfl
          have e := evTmp (show a'.eval (.tmp 18) = .pointer (some ⟨w.heap.size, 1, none⟩) from e')
          have hc : w'.cell? ⟨w.heap.size, 1, none⟩ = some (.slice (some ⟨b, off, none⟩) n c) := by rw [(bcell hB).1 _ _ (by omega)]; exact b1
          refine stepG (v := .slice (some ⟨b, off, none⟩) n c) (s := w'.heap.size) (t := w'.heap.size) (w'' := w') ?_ ?_ ?_ ?_ ?_
          · simp [execOp, e, go_sem, hc]
          · exact Below.refl _ _
          · exact Nat.le_refl _
          · exact Nat.le_refl _
          · exact rfl
        · obtain rfl := Option.some.inj ho
          have e1 := evTmp (hF.ev 4 (by kernel_rfl) rfl)
          refine stepG (v := .int .i64 k) (s := w'.heap.size) (t := w'.heap.size) (w'' := w') ?_ ?_ ?_ ?_ ?_
          · simp [execOp, e1, go_sem]
          · exact Below.refl _ _
          · exact Nat.le_refl _
          · exact Nat.le_refl _
          · exact rfl
        · obtain rfl := Option.some.inj ho
          obtain ⟨_, _, _, _, e'⟩ := hdeps ⟨4, .data⟩ (by simp) (by rfl) _ 19 rfl rfl
          have e := evTmp (show a'.eval (.tmp 19) = .slice (some ⟨b, off, none⟩) n c from e')
          obtain ⟨_, _, _, _, f'⟩ := hdeps ⟨5, .data⟩ (by simp) (by rfl) _ 20 rfl rfl
          have f := evTmp (show a'.eval (.tmp 20) = .int .i64 k from f')
          refine stepG (v := .pointer (some ⟨b, off + k, none⟩)) (s := w'.heap.size) (t := w'.heap.size) (w'' := w') ?_ ?_ ?_ ?_ ?_
          · simp [execOp, e, f, go_sem, hlt]
          · exact Below.refl _ _
          · exact Nat.le_refl _
          · exact Nat.le_refl _
          · exact rfl
        · obtain rfl := Option.some.inj ho
          obtain ⟨_, _, _, _, e'⟩ := hdeps ⟨6, .data⟩ (by simp) (by rfl) _ 21 rfl rfl
          have e := evTmp (show a'.eval (.tmp 21) = .pointer (some ⟨b, off + k, none⟩) from e')
          have hc : w'.cell? ⟨b, off + k, none⟩ = some (.slice ra rn rc) := by rw [(bcell hB).1 _ _ (by omega)]; exact d0
          refine stepG (v := .slice ra rn rc) (s := w'.heap.size) (t := w'.heap.size) (w'' := w') ?_ ?_ ?_ ?_ ?_
          · simp [execOp, e, go_sem, hc]
          · exact Below.refl _ _
          · exact Nat.le_refl _
          · exact Nat.le_refl _
          · exact rfl
        · obtain rfl := Option.some.inj ho
          obtain ⟨_, _, _, _, g, e1, hg⟩ := hdeps ⟨2, .data⟩ (by simp) (by rfl) _ 17 rfl rfl
          obtain ⟨_, _, _, _, e2'⟩ := hdeps ⟨7, .data⟩ (by simp) (by rfl) _ 22 rfl rfl
          have e2 : a'.eval (.tmp 22) = .slice ra rn rc := e2'
          have e1' : a'.eval (.tmp 17) = .slice (some ⟨g, 0, none⟩) 0 0 := e1
          obtain ⟨a1, c1, w3, s, t, hr, hb3, k1, k2, k3, k4⟩ := run_append_ints 27 g hg ra rn rc (rx rows k) (HI.out.2.be hB (by omega)) (by omega)
          refine stepG (v := .slice a1 rn c1) (s := s) (t := t) (w'' := w3) ?_ hb3 k1 k2 ⟨k2, k4, a1, c1, rfl, k3.1⟩
          simp [execOp, resolve, invoke, builtin, e1', e2, hr, Result.andThen]
        · obtain rfl := Option.some.inj ho
          obtain ⟨s, t, k1, k2, k2', k4, a1, c1, e1, k3⟩ := hdeps ⟨8, .data⟩ (by simp) (by rfl) _ 23 rfl rfl
          have e1' := evTmp (show a'.eval (.tmp 23) = .slice a1 rn c1 from e1)
          refine stepG (v := .slice (some ⟨w'.heap.size, 0, none⟩) 1 1) (s := w'.heap.size) (t := w'.heap.size) (w'' := w'.alloc (.cells #[.slice a1 rn c1] 27)) ?_ ?_ ?_ ?_ ?_
          · simp [execOp, e1', Act.eval, go_sem]
          · exact (by repeat (first | with_reducible assumption | with_reducible exact Below.refl _ _ | with_reducible refine below_drewN ?_ _ | with_reducible refine Below.al ?_ (by first | with_reducible exact Nat.le_refl _ | omega | (simp; done) | (simp; omega) | exact Nat.le_refl _) _ | with_reducible refine Below.setCell ?_ (by first | with_reducible exact Nat.le_refl _ | omega | (simp; done) | (simp; omega) | exact Nat.le_refl _) _ | assumption | exact Below.refl _ _ | refine below_drewN ?_ _ | refine Below.al ?_ (by first | with_reducible exact Nat.le_refl _ | omega | (simp; done) | (simp; omega) | exact Nat.le_refl _) _ | refine Below.setCell ?_ (by first | with_reducible exact Nat.le_refl _ | omega | (simp; done) | (simp; omega) | exact Nat.le_refl _) _))
          · exact Nat.le_refl _
          · simp
          · exact ⟨w'.heap.size, a1, c1, s, t, rfl, heap_alloc_new _ _, k1, by simp; omega, k4.keep (Keeps.al (Keeps.refl s t _) k2 _) (Nat.le_refl _) (Nat.le_refl _), intsQOK.keep k3 (Keeps.al (Keeps.refl s t _) k2 _)⟩
      · intro i o hi ho a' w' hF
        obtain rfl : i = 11 := by simpa using hi
        obtain rfl := Option.some.inj ho
        have e1 := evTmp (hF.ev 3 (by kernel_rfl) rfl)
        exact stepU (by simp [execOp, e1, go_sem])
      · intro o a' w3 ho hB hF hV
        obtain rfl := Option.some.inj ho
        obtain ⟨_, _, _, _, e16⟩ := hV 1 _ 16 (by decide) rfl rfl
        obtain ⟨_, _, _, _, g, a2, c2, s, t, e24, hg, k1b, k2, k4, k3⟩ := hV 9 _ 24 (by decide) rfl rfl
        have E16 : a'.eval (.tmp 16) = .slice oo om oc := e16
        have E24 : a'.eval (.tmp 24) = .slice (some ⟨g, 0, none⟩) 1 1 := e24
        have hz3 : wr.heap.size ≤ w3.heap.size := hB.size
        have b0w3 : w3.cell? ⟨w.heap.size, 0, none⟩ = some (.int .i64 ar) := by rw [(bcell hB).1 _ _ (by omega)]; exact b0
        have b1w3 : w3.cell? ⟨w.heap.size, 1, none⟩ = some (.slice (some ⟨b, off, none⟩) n c) := by rw [(bcell hB).1 _ _ (by omega)]; exact b1
        have r0w3 : w3.cell? ⟨w.heap.size + 1, 0, none⟩ = some (.int .i64 0) := by rw [(bcell hB).1 _ _ (by omega)]; exact r0
        have r1w3 : w3.cell? ⟨w.heap.size + 1, 1, none⟩ = some (.slice none 0 0) := by rw [(bcell hB).1 _ _ (by omega)]; exact r1
        have f0w3 : w3.frozen? ⟨w.heap.size + 1, 0, none⟩ = false := by rw [(bcell hB).2 _ _ (by omega)]; exact f0
        have f1w3 : w3.frozen? ⟨w.heap.size + 1, 1, none⟩ = false := by rw [(bcell hB).2 _ _ (by omega)]; exact f1
        have x0w3 : w3.cell? ⟨w.heap.size + 1 + 1, 0, none⟩ = some (.int .i64 ar) := by rw [(bcell hB).1 _ _ (by omega)]; exact x0
        have x1w3 : w3.cell? ⟨w.heap.size + 1 + 1, 1, none⟩ = some (.slice oo om oc) := by rw [(bcell hB).1 _ _ (by omega)]; exact x1
        have y1w3 : w3.frozen? ⟨w.heap.size + 1 + 1, 1, none⟩ = false := by rw [(bcell hB).2 _ _ (by omega)]; exact y1
        have HOV := hid (And.intro (HO.out.1.keep (Keeps.of_below hB (Nat.le_refl _))) (SepV.keep intsQOK HO.out.2 (Keeps.of_below hB (Nat.le_refl _))))
        have HB3 := hid (HB.out.trans (hB.mono (by omega)))
        have hgl := (Array.getElem?_eq_some_iff.1 hg).1
        obtain ⟨a1, c1', w5, hrun, ho2, hg2⟩ := run_append_vals elemRowI 22 (w.heap.size + 1 + 1 + 1) oo om oc vs HOV.out.1 _ 1 1 [.slice a2 rn c2] (vals_one _ g 27 _ rfl 0 _ (Nat.zero_le _) hgl hg) (by omega) (by omega)
        have hb5 : Below (w.heap.size + 1 + 1 + 1) w3 w5 := (Below.refl _ _).grown hg2 (by omega) (fun k hk => (HOV.out.1.1.lt k hk).1)
        have b0w5 : w5.cell? ⟨w.heap.size, 0, none⟩ = some (.int .i64 ar) := by rw [hb5.cell (p := ⟨w.heap.size, 0, none⟩) (by dsimp only; omega)]; exact b0w3
        have b1w5 : w5.cell? ⟨w.heap.size, 1, none⟩ = some (.slice (some ⟨b, off, none⟩) n c) := by rw [hb5.cell (p := ⟨w.heap.size, 1, none⟩) (by dsimp only; omega)]; exact b1w3
        have r0w5 : w5.cell? ⟨w.heap.size + 1, 0, none⟩ = some (.int .i64 0) := by rw [hb5.cell (p := ⟨w.heap.size + 1, 0, none⟩) (by dsimp only; omega)]; exact r0w3
        have r1w5 : w5.cell? ⟨w.heap.size + 1, 1, none⟩ = some (.slice none 0 0) := by rw [hb5.cell (p := ⟨w.heap.size + 1, 1, none⟩) (by dsimp only; omega)]; exact r1w3
        have f0w5 : w5.frozen? ⟨w.heap.size + 1, 0, none⟩ = false := by rw [hb5.frozen (p := ⟨w.heap.size + 1, 0, none⟩) (by dsimp only; omega)]; exact f0w3
        have f1w5 : w5.frozen? ⟨w.heap.size + 1, 1, none⟩ = false := by rw [hb5.frozen (p := ⟨w.heap.size + 1, 1, none⟩) (by dsimp only; omega)]; exact f1w3
        have x0w5 : w5.cell? ⟨w.heap.size + 1 + 1, 0, none⟩ = some (.int .i64 ar) := by rw [hb5.cell (p := ⟨w.heap.size + 1 + 1, 0, none⟩) (by dsimp only; omega)]; exact x0w3
        have x1w5 : w5.cell? ⟨w.heap.size + 1 + 1, 1, none⟩ = some (.slice oo om oc) := by rw [hb5.cell (p := ⟨w.heap.size + 1 + 1, 1, none⟩) (by dsimp only; omega)]; exact x1w3
        have y1w5 : w5.frozen? ⟨w.heap.size + 1 + 1, 1, none⟩ = false := by rw [hb5.frozen (p := ⟨w.heap.size + 1 + 1, 1, none⟩) (by dsimp only; omega)]; exact y1w3
        have hz5 := hg2.size
        have hkk := grown_laterI HO.out.1 hg2 (s := s) (t := t) k1b k2
        have hrow : intsQ s t w5 a2 rn c2 (rx rows k) := intsQOK.keep k3 hkk
        have hd5 : HeadI w5 s t := k4.keep hkk (Nat.le_refl _) (Nat.le_refl _)
        have hsv5 : SepV intsQ (w.heap.size + 1 + 1 + 1) wr.heap.size w5 vs (rows.take k) := SepV.grown intsQOK HOV.out.2 HOV.out.1 hg2 hz3
        have HS5 := hsv5.snoc (hi' := w5.heap.size) hrow hd5 (by omega) k1b (by omega) (by omega)
        rw [← take_snocR rows (by rw [HL.out]; exact hlt)] at HS5
        exact stepM (v := .slice a1 (om + 1) c1') (w'' := w5) (by simp [execOp, resolve, invoke, builtin, E16, E24, hrun, Result.andThen]) ⟨a1, c1', _, rfl, b0w5, b1w5, r0w5, r1w5, f0w5, f1w5, x0w5, x1w5, y1w5, hid ⟨ho2, HS5⟩, hid (HB3.out.trans (hb5.mono (by omega)))⟩
      · intro o om' dm a' w5 v ho hom' hdm hF hv hU hM
        obtain rfl := Option.some.inj ho
        obtain rfl := Option.some.inj hom'
        obtain rfl := Option.some.inj hdm
        obtain ⟨a1, c1, vs1, rfl, b0w5, b1w5, r0w5, r1w5, f0w5, f1w5, x0w5, x1w5, y1w5, HO5, HB5⟩ := hM
        obtain ⟨⟨l⟩, df⟩ := a'
        obtain rfl : df = [] := hF.1
        have hlen : l.length = 28 := hF.2.1
        match l, hlen with
        | [u0, u1, u2, u3, u4, u5, u6, u7, u8, u9, u10, u11, u12, u13, u14, u15, u16, u17, u18, u19, u20, u21, u22, u23, u24, u25, u26, u27], _ =>
          have E0 : u0 = trieV ar (some ⟨b, off, none⟩) n c := hF.at 0 (by kernel_rfl)
          have E1 : u1 = .pointer (some ⟨w.heap.size, 0, none⟩) := hF.at 1 (by kernel_rfl)
          have E2 : u2 = .pointer (some ⟨w.heap.size + 1, 0, none⟩) := hF.at 2 (by kernel_rfl)
          have E3 : u3 = .pointer (some ⟨w.heap.size + 1 + 1, 0, none⟩) := hF.at 3 (by kernel_rfl)
          have E4 : u4 = .int .i64 k := hF.at 4 (by kernel_rfl)
          have E5 : u5 = .pointer (some ⟨w.heap.size, 0, none⟩) := hF.at 5 (by kernel_rfl)
          have E6 : u6 = .int .i64 ar := hF.at 6 (by kernel_rfl)
          have E7 : u7 = .agg #[.int .i64 ar, .slice none 0 0] := hF.at 7 (by kernel_rfl)
          have E27 : u27 = undef := hF.at 27 (by kernel_rfl)
          have e26 : u26 = .pointer (some ⟨w.heap.size + 1 + 1, 1, none⟩) := hU 11 _ 26 (by simp) rfl rfl
          replace hv : u25 = _ := hv
          subst hv; subst e26; subst E0; subst E1; subst E2; subst E3; subst E4; subst E5; subst E6; subst E7; subst E27
          have hlt5 : w.heap.size + 1 + 1 < w5.heap.size := World.block_lt_of_cell? _ _ x0w5
          clear hU hF d0 b0 b1 r0 r1 f0 f1 x0 x1 y1
          refine wpSt (w'' := w5.setCell ⟨w.heap.size + 1 + 1, 1, none⟩ (.slice a1 (om + 1) c1)) rfl (by simp [execOp, Act.eval, go_sem, x1w5, y1w5]) ?_
          go_wp2_with fail
          go_roundw
          case rel => exact ⟨k + 1, a1, om + 1, _, vs1, by go_num, by omega, (by first | assumption | (rw [fset_any]; assumption) | (rw [cset_other (by intro h; simp only [Addr.mk.injEq] at h; omega)]; assumption)), (by first | assumption | (rw [fset_any]; assumption) | (rw [cset_other (by intro h; simp only [Addr.mk.injEq] at h; omega)]; assumption)), (by first | assumption | (rw [fset_any]; assumption) | (rw [cset_other (by intro h; simp only [Addr.mk.injEq] at h; omega)]; assumption)), (by first | assumption | (rw [fset_any]; assumption) | (rw [cset_other (by intro h; simp only [Addr.mk.injEq] at h; omega)]; assumption)), (by first | assumption | (rw [fset_any]; assumption) | (rw [cset_other (by intro h; simp only [Addr.mk.injEq] at h; omega)]; assumption)), (by first | assumption | (rw [fset_any]; assumption) | (rw [cset_other (by intro h; simp only [Addr.mk.injEq] at h; omega)]; assumption)), (by first | assumption | (rw [fset_any]; assumption) | (rw [cset_other (by intro h; simp only [Addr.mk.injEq] at h; omega)]; assumption)), (cset_same x1w5), (by first | assumption | (rw [fset_any]; assumption) | (rw [cset_other (by intro h; simp only [Addr.mk.injEq] at h; omega)]; assumption)), hid ⟨HO5.out.1.keep (Keeps.sc (Keeps.refl _ _ _) (.inl (by omega)) _), by rw [sz_set]; exact SepV.keep intsQOK HO5.out.2 (Keeps.sc (Keeps.refl _ _ _) (.inl (by omega)) _)⟩, hid (HB5.out.setCell (by simp; omega) _)⟩
          case measure => simp [intOf]; omega
    · obtain rfl : n = k := by omega
      obtain rfl : om = n := HOM.out
      go_wp2_with fail
      refine bodyPost_ret (v := trieV ar oo om oc) (by simp [results, Try.results50, go_sem, r0, r1]) rfl ⟨_, _, rfl, ?_, ?_⟩
      · have h1 := SepA.own HO.out.1 (by have h := HO.out.2; rwa [List.take_of_length_le (by rw [HL.out]; exact Nat.le_refl _)] at h)
        exact SepA.wide (SepA.keep intsQOK h1 (Keeps.sc (Keeps.sc (Keeps.refl _ _ _) (.inl (by omega)) _) (.inl (by omega)) _)) (by omega) (by simp only [sz_set]; exact Nat.le_refl _)
      · have hq := HB.out; exact (by repeat (first | with_reducible assumption | with_reducible exact Below.refl _ _ | with_reducible refine below_drewN ?_ _ | with_reducible refine below_drew1 ?_ | with_reducible refine Below.al ?_ (by first | with_reducible exact Nat.le_refl _ | omega | (simp; done) | (simp; omega) | exact Nat.le_refl _) _ | with_reducible refine Below.setCell ?_ (by first | with_reducible exact Nat.le_refl _ | omega | (simp; done) | (simp; omega) | exact Nat.le_refl _) _ | assumption | exact Below.refl _ _ | refine below_drewN ?_ _ | refine below_drew1 ?_ | refine Below.al ?_ (by first | with_reducible exact Nat.le_refl _ | omega | (simp; done) | (simp; omega) | exact Nat.le_refl _) _ | refine Below.setCell ?_ (by first | with_reducible exact Nat.le_refl _ | omega | (simp; done) | (simp; omega) | exact Nat.le_refl _) _))
end Go.Proofs.Ythochdlbmaiclaa
