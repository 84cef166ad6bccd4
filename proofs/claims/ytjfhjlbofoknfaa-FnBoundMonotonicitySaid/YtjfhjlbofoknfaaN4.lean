/- Walks: products of big numbers. Written by nums4.py. -/
import Derived.Test.YtjfhjlbofoknfaaN3
namespace Go.Proofs.Ytjfhjlbofoknfaa
set_option linter.unusedSimpArgs false
set_option linter.unusedVariables false
open Go.RowKit
theorem intsSet0 {lo hi : Nat} {w : World} {g n c : Nat} {xs : List Int} (h : IntsA true lo hi w (some ⟨g, 0, none⟩) n c xs) {i : Nat} (hi' : i < n) {v : Int} (hv : I64 v) : IntsA true lo hi (w.setCell ⟨g, i, none⟩ (.int .i64 v)) (some ⟨g, 0, none⟩) n c (xs.set i v) := by
  obtain ⟨h1, h2, h3, h4, h5, h6⟩ := h
  refine ⟨by simp; omega, h2, h3, fun x hx => ?_, fun hn => ?_, h6⟩
  · rcases List.mem_or_eq_of_mem_set hx with h | rfl
    · exact h4 x h
    · exact hv
  · obtain ⟨b', off', ha, hl, hb, hc⟩ := h5 hn
    simp only [Option.some.injEq, Addr.mk.injEq, and_true] at ha
    obtain ⟨rfl, rfl⟩ := ha
    refine ⟨g, 0, rfl, hl, hb, fun j hj => ⟨?_, fun _ => by rw [fset_any]; exact (hc j hj).2 rfl⟩⟩
    have hci := hc i hi'
    have hcj := hc j hj
    simp only [Nat.zero_add] at hci hcj ⊢
    by_cases e : i = j
    · subst e
      rw [World.cell?_setCell_same' _ _ _ (by rw [hci.1]; rfl)]
      simp [ix, show i < xs.length by omega]
    · rw [cset_off (by omega), hcj.1]
      simp [ix, List.getElem?_set_ne e]
theorem own_at {w : World} {g n c : Nat} {xs : List Int} (h : Own g w (some ⟨g, 0, none⟩) n c xs) : IntsA true g (g + 1) w (some ⟨g, 0, none⟩) n c xs := by
  obtain ⟨h1, h2, h3, h4, h5, h6⟩ := h.ints
  refine ⟨h1, h2, h3, h4, fun hn => ?_, h6⟩
  obtain ⟨b, off, ha, hl, hb, hc⟩ := h5 hn
  simp only [Option.some.injEq, Addr.mk.injEq, and_true] at ha
  obtain ⟨rfl, rfl⟩ := ha
  exact ⟨g, 0, rfl, Nat.le_refl _, by omega, hc⟩
theorem cellAt0 {fz : Bool} {lo hi : Nat} {w : World} {g n c : Nat} {xs : List Int} (h : IntsA fz lo hi w (some ⟨g, 0, none⟩) n c xs) {i : Nat} (hi' : i < n) (hz : fz = true) : w.cell? ⟨g, i, none⟩ = some (.int .i64 (ix xs i)) ∧ w.frozen? ⟨g, i, none⟩ = false := by
  obtain ⟨b', off', ha, _, _, hc, hf⟩ := h.open (by omega)
  simp only [Option.some.injEq, Addr.mk.injEq, and_true] at ha
  obtain ⟨rfl, rfl⟩ := ha
  have h1 := hc i hi'; have h2 := hf hz i hi'
  rw [Nat.zero_add] at h1 h2; exact ⟨h1, h2⟩
theorem intsAtB {fz : Bool} {lo hi : Nat} {w : World} {a : Option Addr} {n c : Nat} {xs : List Int} (h : IntsA fz lo hi w a n c xs) {i : Nat} (hi' : i < n) :
    ∃ b off, a = some ⟨b, off, none⟩ ∧ b < hi ∧ w.cell? ⟨b, off + i, none⟩ = some (.int .i64 (ix xs i)) := by
  obtain ⟨b, off, rfl, _, hb, hc, _⟩ := h.open (by omega)
  exact ⟨b, off, rfl, hb, hc i hi'⟩
theorem mulOK_a {a b : List Int} (h : bigOK a = false) : mulOK a b = false := by simp [mulOK, h]
theorem mulOK_b {a b : List Int} (h : bigOK b = false) : mulOK a b = false := by simp [mulOK, h]
theorem mulOK_c {a b : List Int} (h1 : bigOK a = true) (h2 : bigOK b = true) : mulOK a b = crOK (mulTo a b a.length) ∧ mulF a b = crF (mulTo a b a.length) := by
  have e : mulOK a b = crOK (mulTo a b a.length) := by simp [mulOK, h1, h2]
  refine ⟨e, ?_⟩
  unfold mulF
  rw [e]
  by_cases h : crOK (mulTo a b a.length) = true
  · rw [if_pos h]
  · rw [if_neg h]; unfold crF; rw [if_neg h]
theorem mulF_no {a b : List Int} (h : mulOK a b = false) : mulF a b = [] := by simp [mulF, h]
set_option maxRecDepth 100000 in
set_option maxHeartbeats 12800000 in
theorem implMul {fz fz' : Bool} {lo hi lo' hi' : Nat} (a : Option Addr) (n c : Nat) (xs : List Int) (a2 : Option Addr) (n2 c2 : Nat) (ys : List Int) (w : World) (hI : IntsA fz lo hi w a n c xs) (hh : hi ≤ w.heap.size) (hJ : IntsA fz' lo' hi' w a2 n2 c2 ys) (hh' : hi' ≤ w.heap.size) :
    Calls Try.prog 27 #[bigV a n c, bigV a2 n2 c2] w (GvBigB w (mulF xs ys) (mulOK xs ys)) := by
  have HLN := hid (And.intro hI.len hJ.len); have hs1 := hI.small; have hs2 := hJ.small
  have HI := hid hI; have HJ := hid hJ; clear hI hJ
  go_enter Try.func27, Try.ntmps27
  go_wp2_with fail
  refine absC (fun W => (W.cell? ⟨w.heap.size, 0, none⟩ = some (.slice a n c) ∧ W.cell? ⟨w.heap.size + 1, 0, none⟩ = some (.slice a2 n2 c2) ∧ W.cell? ⟨w.heap.size + 2, 0, none⟩ = some (.slice none 0 0) ∧ W.frozen? ⟨w.heap.size + 2, 0, none⟩ = false ∧ w.heap.size < W.heap.size ∧ w.heap.size + 1 < W.heap.size ∧ w.heap.size + 2 < W.heap.size ∧ w.heap.size + 3 ≤ W.heap.size ∧ hi ≤ W.heap.size ∧ hi' ≤ W.heap.size) ∧ Hid (IntsA fz lo hi W a n c xs) ∧ Hid (IntsA fz' lo' hi' W a2 n2 c2 ys) ∧ Hid (Below w.heap.size w W)) ⟨by (refine ⟨?_, ?_, ?_, ?_, ?_, ?_, ?_, ?_, ?_, ?_⟩) <;> (first | with_reducible assumption | ((try simp only [sz_alloc, sz_drewN, sz_drew1, sz_set]); omega) | (simp (disch := (first | omega | (simp only [sz_alloc, sz_drewN, sz_drew1, sz_set]; omega) | (simp (disch := (first | omega | (simp only [sz_alloc, sz_drewN, sz_drew1, sz_set]; omega))) only [calloc, cdrewN, cdrew1, cset_far, cset_off, *, Option.isSome_some]; done))) only [calloc, falloc, cdrewN, cdrew1, fdrewN, fdrew1, cset_far, cset_off, fset_any, World.cell?_setCell_same']; first | done | with_reducible assumption) | (go_simp; done) | (simp; done)), hid (IntsA.keep HI.out (by (repeat (first | (with_reducible refine Keeps.sc ?_ (by omega) _) | (with_reducible refine Keeps.al ?_ (by first | ((try simp only [sz_alloc, sz_drewN, sz_drew1, sz_set]); omega) | (simp; done) | (simp; omega)) _) | (with_reducible refine Keeps.dr ?_ _))); with_reducible exact Keeps.refl _ _ _)), hid (IntsA.keep HJ.out (by (repeat (first | (with_reducible refine Keeps.sc ?_ (by omega) _) | (with_reducible refine Keeps.al ?_ (by first | ((try simp only [sz_alloc, sz_drewN, sz_drew1, sz_set]); omega) | (simp; done) | (simp; omega)) _) | (with_reducible refine Keeps.dr ?_ _))); with_reducible exact Keeps.refl _ _ _)), hid (by (repeat (first | (with_reducible refine Below.setCell ?_ (by first | ((try simp only [sz_alloc, sz_drewN, sz_drew1, sz_set]); omega) | (simp; done) | (simp; omega)) _) | (with_reducible refine Below.al ?_ (by first | ((try simp only [sz_alloc, sz_drewN, sz_drew1, sz_set]); omega) | (simp; done) | (simp; omega)) _) | (with_reducible refine below_drewN ?_ _) | (with_reducible refine below_drew1 ?_))); with_reducible exact Below.refl _ _)⟩ ?_
  rintro v1 ⟨⟨kc0, kc1, kc2, fkc2, ks0, ks1, ks2, ks3, ks4, ks5⟩, DA, DB, HBv1⟩
  refine (implValidBig a n c xs _ DA.out (by omega)).mono ?_
  rintro e v2 ⟨rfl, hb⟩
  have hz := hb.size
  have hFF : v2.cell? ⟨w.heap.size, 0, none⟩ = some (.slice a n c) ∧ v2.cell? ⟨w.heap.size + 1, 0, none⟩ = some (.slice a2 n2 c2) ∧ v2.cell? ⟨w.heap.size + 2, 0, none⟩ = some (.slice none 0 0) ∧ v2.frozen? ⟨w.heap.size + 2, 0, none⟩ = false ∧ w.heap.size < v2.heap.size ∧ w.heap.size + 1 < v2.heap.size ∧ w.heap.size + 2 < v2.heap.size ∧ w.heap.size + 3 ≤ v2.heap.size ∧ hi ≤ v2.heap.size ∧ hi' ≤ v2.heap.size := by (refine ⟨?_, ?_, ?_, ?_, ?_, ?_, ?_, ?_, ?_, ?_⟩) <;> (first | omega | (rw [(bcell hb).1 _ _ (by omega)]; with_reducible assumption) | (rw [(bcell hb).2 _ _ (by omega)]; with_reducible assumption))
  replace DA : Hid (IntsA fz lo hi v2 a n c xs) := hid (IntsA.keep DA.out (Keeps.of_below hb (by omega)))
  replace DB : Hid (IntsA fz' lo' hi' v2 a2 n2 c2 ys) := hid (IntsA.keep DB.out (Keeps.of_below hb (by omega)))
  replace HBv1 : Hid (Below w.heap.size w v2) := hid (HBv1.out.trans (hb.mono (by omega)))
  clear kc0 kc1 kc2 fkc2 ks0 ks1 ks2 ks3 ks4 ks5
  obtain ⟨kc0, kc1, kc2, fkc2, ks0, ks1, ks2, ks3, ks4, ks5⟩ := hFF
  clear hz hb
  obtain ⟨va, hva⟩ : ∃ v, bigOK xs = v := ⟨_, rfl⟩
  rw [hva]; have HVA := hid hva; clear hva
  cases va with
  | false =>
    have HF := hid (mulOK_a (b := ys) HVA.out)
    go_wp2
    refine bodyPost_ret (v := .tuple #[bigV none 0 0, .bool false]) (by simp [results, Try.results27, go_sem, kc0, kc1, kc2]) rfl ⟨none, 0, 0, (by rw [HF.out]), ?_, ?_⟩
    · rw [mulF_no HF.out]; exact nilI _ _ _ _
    · have hq := HBv1.out; (repeat (with_reducible refine Below.setCell ?_ (by first | ((try simp only [sz_alloc, sz_drewN, sz_drew1, sz_set]); omega) | (simp; done) | (simp; omega)) _)); with_reducible exact hq
  | true =>
    go_wp2_with fail
    refine (implValidBig a2 n2 c2 ys _ DB.out (by omega)).mono ?_
    rintro e v3 ⟨rfl, hb⟩
    have hz := hb.size
    have hFF : v3.cell? ⟨w.heap.size, 0, none⟩ = some (.slice a n c) ∧ v3.cell? ⟨w.heap.size + 1, 0, none⟩ = some (.slice a2 n2 c2) ∧ v3.cell? ⟨w.heap.size + 2, 0, none⟩ = some (.slice none 0 0) ∧ v3.frozen? ⟨w.heap.size + 2, 0, none⟩ = false ∧ w.heap.size < v3.heap.size ∧ w.heap.size + 1 < v3.heap.size ∧ w.heap.size + 2 < v3.heap.size ∧ w.heap.size + 3 ≤ v3.heap.size ∧ hi ≤ v3.heap.size ∧ hi' ≤ v3.heap.size := by (refine ⟨?_, ?_, ?_, ?_, ?_, ?_, ?_, ?_, ?_, ?_⟩) <;> (first | omega | (rw [(bcell hb).1 _ _ (by omega)]; with_reducible assumption) | (rw [(bcell hb).2 _ _ (by omega)]; with_reducible assumption))
    replace DA : Hid (IntsA fz lo hi v3 a n c xs) := hid (IntsA.keep DA.out (Keeps.of_below hb (by omega)))
    replace DB : Hid (IntsA fz' lo' hi' v3 a2 n2 c2 ys) := hid (IntsA.keep DB.out (Keeps.of_below hb (by omega)))
    replace HBv1 : Hid (Below w.heap.size w v3) := hid (HBv1.out.trans (hb.mono (by omega)))
    clear kc0 kc1 kc2 fkc2 ks0 ks1 ks2 ks3 ks4 ks5
    obtain ⟨kc0, kc1, kc2, fkc2, ks0, ks1, ks2, ks3, ks4, ks5⟩ := hFF
    clear hz hb
    obtain ⟨vb, hvb⟩ : ∃ v, bigOK ys = v := ⟨_, rfl⟩
    rw [hvb]; have HVB := hid hvb; clear hvb
    cases vb with
    | false =>
      have HF := hid (mulOK_b (a := xs) HVB.out)
      go_wp2
      refine bodyPost_ret (v := .tuple #[bigV none 0 0, .bool false]) (by simp [results, Try.results27, go_sem, kc0, kc1, kc2]) rfl ⟨none, 0, 0, (by rw [HF.out]), ?_, ?_⟩
      · rw [mulF_no HF.out]; exact nilI _ _ _ _
      · have hq := HBv1.out; (repeat (with_reducible refine Below.setCell ?_ (by first | ((try simp only [sz_alloc, sz_drewN, sz_drew1, sz_set]); omega) | (simp; done) | (simp; omega)) _)); with_reducible exact hq
    | true =>
      have hn : n ≤ 60 := by have h := bigOK_out HVA.out; have h2 := HLN.out; omega
      have hn2 : n2 ≤ 60 := by have h := bigOK_out HVB.out; have h2 := HLN.out; omega
      go_wp2_with (at_make; refine halt' ?_)
      unfold Halt'
      obtain ⟨i0, hi0, hz0, hz1, hz2⟩ := info_parts infoInt
      refine wpList_make_full _ rfl _ _ 24 rfl v3.heap.size 3 i0 (.int .i64 0) 1 Try.underlying24 hi0 hz0 hz1 _ _ _ _ (n + n2) rfl rfl rfl rfl (by rw [hz2]; omega) (by unfold maxLen; omega) (Nat.le_refl _) ?_
      intro v4 hat hgrow
      have hbA : Below v3.heap.size v3 v4 := (Below.refl _ _).grown hgrow (Nat.le_refl _) (fun k h => by cases h)
      have hgsz : v3.heap.size < v4.heap.size := (hat.lt v3.heap.size rfl).2
      obtain ⟨g, hg⟩ : ∃ g, g = v3.heap.size := ⟨_, rfl⟩
      have hown : Own g v4 (some ⟨g, 0, none⟩) (n + n2) (n + n2) (mulTo xs ys 0) := by rw [hg]; exact ⟨by rw [show (Value.int IntKind.i64 0).cells = #[Value.int IntKind.i64 0] from rfl, toList_madeCells_one] at hat; simpa [mulTo, HLN.out.1, HLN.out.2] using hat, fun x hx => by simp [mulTo] at hx; rw [hx.2]; unfold I64; omega⟩
      rw [← hg]
      have HM := hid (own_at hown); clear hown hat hgrow hi0 hz0 hz1 hz2
      have hb := hbA; clear hbA
      have hFF : v4.cell? ⟨w.heap.size, 0, none⟩ = some (.slice a n c) ∧ v4.cell? ⟨w.heap.size + 1, 0, none⟩ = some (.slice a2 n2 c2) ∧ v4.cell? ⟨w.heap.size + 2, 0, none⟩ = some (.slice none 0 0) ∧ v4.frozen? ⟨w.heap.size + 2, 0, none⟩ = false ∧ w.heap.size < v4.heap.size ∧ w.heap.size + 1 < v4.heap.size ∧ w.heap.size + 2 < v4.heap.size ∧ w.heap.size + 3 ≤ v4.heap.size ∧ hi ≤ v4.heap.size ∧ hi' ≤ v4.heap.size := by (refine ⟨?_, ?_, ?_, ?_, ?_, ?_, ?_, ?_, ?_, ?_⟩) <;> (first | omega | (rw [(bcell hb).1 _ _ (by omega)]; with_reducible assumption) | (rw [(bcell hb).2 _ _ (by omega)]; with_reducible assumption))
      replace DA : Hid (IntsA fz lo hi v4 a n c xs) := hid (IntsA.keep DA.out (Keeps.of_below hb (by omega)))
      replace DB : Hid (IntsA fz' lo' hi' v4 a2 n2 c2 ys) := hid (IntsA.keep DB.out (Keeps.of_below hb (by omega)))
      replace HBv1 : Hid (Below w.heap.size w v4) := hid (HBv1.out.trans (hb.mono (by omega)))
      have hgl : w.heap.size + 3 ≤ g ∧ hi ≤ g ∧ hi' ≤ g := by omega
      clear kc0 kc1 kc2 fkc2 ks0 ks1 ks2 ks3 ks4 ks5
      obtain ⟨kc0, kc1, kc2, fkc2, ks0, ks1, ks2, ks3, ks4, ks5⟩ := hFF
      clear hb
      have hgs : g < v4.heap.size := by omega
      clear hgsz hg
      go_wp2_with fail
      go_loopw [31] (fun q wr => ∃ i : Nat, q = .int .i64 i ∧ i ≤ n ∧ wr.cell? ⟨w.heap.size, 0, none⟩ = some (.slice a n c) ∧ wr.cell? ⟨w.heap.size + 1, 0, none⟩ = some (.slice a2 n2 c2) ∧ wr.cell? ⟨w.heap.size + 2, 0, none⟩ = some (.slice none 0 0) ∧ wr.frozen? ⟨w.heap.size + 2, 0, none⟩ = false ∧ w.heap.size < wr.heap.size ∧ w.heap.size + 1 < wr.heap.size ∧ w.heap.size + 2 < wr.heap.size ∧ w.heap.size + 3 ≤ wr.heap.size ∧ hi ≤ wr.heap.size ∧ hi' ≤ wr.heap.size ∧ g < wr.heap.size ∧ Hid (IntsA fz lo hi wr a n c xs) ∧ Hid (IntsA fz' lo' hi' wr a2 n2 c2 ys) ∧ Hid (IntsA true g (g + 1) wr (some ⟨g, 0, none⟩) (n + n2) (n + n2) (mulTo xs ys i)) ∧ Hid (Below w.heap.size w wr)) (fun q _ => n - (intOf q).toNat)
      case atStart => exact ⟨0, rfl, by omega, kc0, kc1, kc2, fkc2, ks0, ks1, ks2, ks3, ks4, ks5, hgs, DA, DB, HM, HBv1⟩
      case round =>
        clear kc0 kc1 kc2 fkc2 ks0 ks1 ks2 ks3 ks4 ks5 hgs DA DB HM HBv1
        obtain ⟨i, rfl, hin, kc0, kc1, kc2, fkc2, ks0, ks1, ks2, ks3, ks4, ks5, hgs, DA, DB, HM, HBv1⟩ := hrel
        by_cases hlt : i < n
        · have hd1 : decide ((i : Int) < (n : Int)) = true := by simp; omega
          have hbx := ix_bd (bigOK_out HVA.out).1 i
          obtain ⟨ab, ao, hab, habh, d0⟩ := intsAtB DA.out hlt
          subst hab
          have habs : ab < wr.heap.size := World.block_lt_of_cell? _ _ d0
          generalize hx : ix xs i = x at *
          have HX := hid hx; clear hx
          go_wp2_with fail
          go_loopw [39] (fun q wq => ∃ j : Nat, q = .int .i64 j ∧ j ≤ n2 ∧ wq.cell? ⟨w.heap.size, 0, none⟩ = some (.slice (some ⟨ab, ao, none⟩) n c) ∧ wq.cell? ⟨w.heap.size + 1, 0, none⟩ = some (.slice a2 n2 c2) ∧ wq.cell? ⟨w.heap.size + 2, 0, none⟩ = some (.slice none 0 0) ∧ wq.frozen? ⟨w.heap.size + 2, 0, none⟩ = false ∧ wq.cell? ⟨ab, ao + i, none⟩ = some (.int .i64 x) ∧ w.heap.size < wq.heap.size ∧ w.heap.size + 1 < wq.heap.size ∧ w.heap.size + 2 < wq.heap.size ∧ w.heap.size + 3 ≤ wq.heap.size ∧ hi ≤ wq.heap.size ∧ hi' ≤ wq.heap.size ∧ g < wq.heap.size ∧ ab < wq.heap.size ∧ Hid (IntsA fz lo hi wq (some ⟨ab, ao, none⟩) n c xs) ∧ Hid (IntsA fz' lo' hi' wq a2 n2 c2 ys) ∧ Hid (IntsA true g (g + 1) wq (some ⟨g, 0, none⟩) (n + n2) (n + n2) (rowTo (mulTo xs ys i) (ix xs i) ys i j)) ∧ Hid (Below w.heap.size w wq)) (fun q _ => n2 - (intOf q).toNat)
          case atStart => exact ⟨0, rfl, by omega, kc0, kc1, kc2, fkc2, d0, ks0, ks1, ks2, ks3, ks4, ks5, hgs, habs, DA, DB, HM, HBv1⟩
          case round =>
            clear kc0 kc1 kc2 fkc2 d0 ks0 ks1 ks2 ks3 ks4 ks5 hgs habs DA DB HM HBv1
            obtain ⟨j, rfl, hjn, kc0, kc1, kc2, fkc2, d0, ks0, ks1, ks2, ks3, ks4, ks5, hgs, habs, DA, DB, HM, HBv1⟩ := hrel
            by_cases hlt2 : j < n2
            · have hd2 : decide ((j : Int) < (n2 : Int)) = true := by simp; omega
              have hby := ix_bd (bigOK_out HVB.out).1 j
              obtain ⟨bb, bo, hbb, hbbh, e0⟩ := intsAtB DB.out hlt2
              subst hbb
              have hbbs : bb < wr.heap.size := World.block_lt_of_cell? _ _ e0
              obtain ⟨m0, fm0⟩ := cellAt0 HM.out (show i + j < n + n2 by omega) rfl
              have hbv := rowTo_small HVA.out HVB.out (i := i) (j := j) (by have h := HLN.out; omega) (by have h := HLN.out; omega) (i + j)
              have hmb := mul81 (x := x) (y := ix ys j) (by rw [← HX.out]; exact ix_bd (bigOK_out HVA.out).1 i) hby
              generalize hy : ix ys j = y at *
              generalize hv : ix (rowTo (mulTo xs ys i) (ix xs i) ys i j) (i + j) = v at *
              generalize hp : x * y = p at *
              obtain ⟨hbv0, hbv1⟩ := hbv; obtain ⟨hm0, hm1⟩ := hmb; obtain ⟨hby0, hby1⟩ := hby
              have hwp : IntKind.i64.wrap (x * y) = p := by rw [hp]; exact IntWalk.i64_in _ (by omega)
              have hwp2 : IntKind.i64.wrap p = p := IntWalk.i64_in _ (by omega)
              have hwv : IntKind.i64.wrap (v + p) = v + p := IntWalk.i64_in _ (by omega)
              have hij : (i : Int) + (j : Int) < (n : Int) + (n2 : Int) := by omega
              have hij2 : IntKind.i64.wrap ((i : Int) + (j : Int)) = (i : Int) + (j : Int) := IntWalk.i64_in _ (by omega)
              have HST : Hid (rowTo (mulTo xs ys i) (ix xs i) ys i (j + 1) = (rowTo (mulTo xs ys i) (ix xs i) ys i j).set (i + j) (v + p)) := hid (by show addAt _ _ _ = _; unfold addAt; rw [hv, hy, HX.out, hp])
              have HYV := hid (And.intro hy hv); clear hy hv
              have HNEW := hid (fun (w9 : World) (h : IntsA true g (g + 1) w9 (some ⟨g, 0, none⟩) (n + n2) (n + n2) (rowTo (mulTo xs ys i) (ix xs i) ys i j)) => intsSet0 h (i := i + j) (by omega) (v := v + p) (by unfold I64; omega))
              have fm0x := fm0; clear fm0; have fm0 := fm0x; clear fm0x
              have HNW := hid (HNEW.out _ HM.out)
              go_wp2
              go_roundw
              case rel => exact ⟨j + 1, by go_num, by omega, (by first | with_reducible assumption | (simp (disch := (first | omega | (simp only [sz_alloc, sz_drewN, sz_drew1, sz_set]; omega) | (simp (disch := (first | omega | (simp only [sz_alloc, sz_drewN, sz_drew1, sz_set]; omega))) only [calloc, cdrewN, cdrew1, cset_far, cset_off, *, Option.isSome_some]; done))) only [calloc, falloc, cdrewN, cdrew1, fdrewN, fdrew1, cset_far, cset_off, fset_any, World.cell?_setCell_same']; first | done | with_reducible assumption) | (go_simp; done) | (simp; done)), (by first | with_reducible assumption | (simp (disch := (first | omega | (simp only [sz_alloc, sz_drewN, sz_drew1, sz_set]; omega) | (simp (disch := (first | omega | (simp only [sz_alloc, sz_drewN, sz_drew1, sz_set]; omega))) only [calloc, cdrewN, cdrew1, cset_far, cset_off, *, Option.isSome_some]; done))) only [calloc, falloc, cdrewN, cdrew1, fdrewN, fdrew1, cset_far, cset_off, fset_any, World.cell?_setCell_same']; first | done | with_reducible assumption) | (go_simp; done) | (simp; done)), (by first | with_reducible assumption | (simp (disch := (first | omega | (simp only [sz_alloc, sz_drewN, sz_drew1, sz_set]; omega) | (simp (disch := (first | omega | (simp only [sz_alloc, sz_drewN, sz_drew1, sz_set]; omega))) only [calloc, cdrewN, cdrew1, cset_far, cset_off, *, Option.isSome_some]; done))) only [calloc, falloc, cdrewN, cdrew1, fdrewN, fdrew1, cset_far, cset_off, fset_any, World.cell?_setCell_same']; first | done | with_reducible assumption) | (go_simp; done) | (simp; done)), (by first | with_reducible assumption | (simp (disch := (first | omega | (simp only [sz_alloc, sz_drewN, sz_drew1, sz_set]; omega) | (simp (disch := (first | omega | (simp only [sz_alloc, sz_drewN, sz_drew1, sz_set]; omega))) only [calloc, cdrewN, cdrew1, cset_far, cset_off, *, Option.isSome_some]; done))) only [calloc, falloc, cdrewN, cdrew1, fdrewN, fdrew1, cset_far, cset_off, fset_any, World.cell?_setCell_same']; first | done | with_reducible assumption) | (go_simp; done) | (simp; done)), (by first | with_reducible assumption | (simp (disch := (first | omega | (simp only [sz_alloc, sz_drewN, sz_drew1, sz_set]; omega) | (simp (disch := (first | omega | (simp only [sz_alloc, sz_drewN, sz_drew1, sz_set]; omega))) only [calloc, cdrewN, cdrew1, cset_far, cset_off, *, Option.isSome_some]; done))) only [calloc, falloc, cdrewN, cdrew1, fdrewN, fdrew1, cset_far, cset_off, fset_any, World.cell?_setCell_same']; first | done | with_reducible assumption) | (go_simp; done) | (simp; done)), (by first | ((try simp only [sz_alloc, sz_drewN, sz_drew1, sz_set]); omega) | (simp; done) | (simp; omega)), (by first | ((try simp only [sz_alloc, sz_drewN, sz_drew1, sz_set]); omega) | (simp; done) | (simp; omega)), (by first | ((try simp only [sz_alloc, sz_drewN, sz_drew1, sz_set]); omega) | (simp; done) | (simp; omega)), (by first | ((try simp only [sz_alloc, sz_drewN, sz_drew1, sz_set]); omega) | (simp; done) | (simp; omega)), (by first | ((try simp only [sz_alloc, sz_drewN, sz_drew1, sz_set]); omega) | (simp; done) | (simp; omega)), (by first | ((try simp only [sz_alloc, sz_drewN, sz_drew1, sz_set]); omega) | (simp; done) | (simp; omega)), (by first | ((try simp only [sz_alloc, sz_drewN, sz_drew1, sz_set]); omega) | (simp; done) | (simp; omega)), (by first | ((try simp only [sz_alloc, sz_drewN, sz_drew1, sz_set]); omega) | (simp; done) | (simp; omega)), hid (IntsA.keep DA.out (by (repeat (first | (with_reducible refine Keeps.sc ?_ (by omega) _) | (with_reducible refine Keeps.al ?_ (by first | ((try simp only [sz_alloc, sz_drewN, sz_drew1, sz_set]); omega) | (simp; done) | (simp; omega)) _) | (with_reducible refine Keeps.dr ?_ _))); with_reducible exact Keeps.refl _ _ _)), hid (IntsA.keep DB.out (by (repeat (first | (with_reducible refine Keeps.sc ?_ (by omega) _) | (with_reducible refine Keeps.al ?_ (by first | ((try simp only [sz_alloc, sz_drewN, sz_drew1, sz_set]); omega) | (simp; done) | (simp; omega)) _) | (with_reducible refine Keeps.dr ?_ _))); with_reducible exact Keeps.refl _ _ _)), hid (by rw [HST.out]; exact HNW.out), hid (by (repeat (first | (with_reducible refine Below.setCell ?_ (by first | ((try simp only [sz_alloc, sz_drewN, sz_drew1, sz_set]); omega) | (simp; done) | (simp; omega)) _) | (with_reducible refine Below.al ?_ (by first | ((try simp only [sz_alloc, sz_drewN, sz_drew1, sz_set]); omega) | (simp; done) | (simp; omega)) _) | (with_reducible refine below_drewN ?_ _) | (with_reducible refine below_drew1 ?_))); with_reducible exact HBv1.out)⟩
              case measure => first | (simp [intOf]; done) | (simp [intOf]; omega)
            · have hd2 : decide ((j : Int) < (n2 : Int)) = false := by simp; omega
              obtain rfl : n2 = j := by omega
              have HST : Hid (mulTo xs ys (i + 1) = rowTo (mulTo xs ys i) (ix xs i) ys i n2) := hid (by show rowTo _ _ _ _ _ = _; rw [HLN.out.2])
              go_wp2
              go_roundw
              case rel => exact ⟨i + 1, by go_num, by omega, (by first | with_reducible assumption | (simp (disch := (first | omega | (simp only [sz_alloc, sz_drewN, sz_drew1, sz_set]; omega) | (simp (disch := (first | omega | (simp only [sz_alloc, sz_drewN, sz_drew1, sz_set]; omega))) only [calloc, cdrewN, cdrew1, cset_far, cset_off, *, Option.isSome_some]; done))) only [calloc, falloc, cdrewN, cdrew1, fdrewN, fdrew1, cset_far, cset_off, fset_any, World.cell?_setCell_same']; first | done | with_reducible assumption) | (go_simp; done) | (simp; done)), (by first | with_reducible assumption | (simp (disch := (first | omega | (simp only [sz_alloc, sz_drewN, sz_drew1, sz_set]; omega) | (simp (disch := (first | omega | (simp only [sz_alloc, sz_drewN, sz_drew1, sz_set]; omega))) only [calloc, cdrewN, cdrew1, cset_far, cset_off, *, Option.isSome_some]; done))) only [calloc, falloc, cdrewN, cdrew1, fdrewN, fdrew1, cset_far, cset_off, fset_any, World.cell?_setCell_same']; first | done | with_reducible assumption) | (go_simp; done) | (simp; done)), (by first | with_reducible assumption | (simp (disch := (first | omega | (simp only [sz_alloc, sz_drewN, sz_drew1, sz_set]; omega) | (simp (disch := (first | omega | (simp only [sz_alloc, sz_drewN, sz_drew1, sz_set]; omega))) only [calloc, cdrewN, cdrew1, cset_far, cset_off, *, Option.isSome_some]; done))) only [calloc, falloc, cdrewN, cdrew1, fdrewN, fdrew1, cset_far, cset_off, fset_any, World.cell?_setCell_same']; first | done | with_reducible assumption) | (go_simp; done) | (simp; done)), (by first | with_reducible assumption | (simp (disch := (first | omega | (simp only [sz_alloc, sz_drewN, sz_drew1, sz_set]; omega) | (simp (disch := (first | omega | (simp only [sz_alloc, sz_drewN, sz_drew1, sz_set]; omega))) only [calloc, cdrewN, cdrew1, cset_far, cset_off, *, Option.isSome_some]; done))) only [calloc, falloc, cdrewN, cdrew1, fdrewN, fdrew1, cset_far, cset_off, fset_any, World.cell?_setCell_same']; first | done | with_reducible assumption) | (go_simp; done) | (simp; done)), (by first | ((try simp only [sz_alloc, sz_drewN, sz_drew1, sz_set]); omega) | (simp; done) | (simp; omega)), (by first | ((try simp only [sz_alloc, sz_drewN, sz_drew1, sz_set]); omega) | (simp; done) | (simp; omega)), (by first | ((try simp only [sz_alloc, sz_drewN, sz_drew1, sz_set]); omega) | (simp; done) | (simp; omega)), (by first | ((try simp only [sz_alloc, sz_drewN, sz_drew1, sz_set]); omega) | (simp; done) | (simp; omega)), (by first | ((try simp only [sz_alloc, sz_drewN, sz_drew1, sz_set]); omega) | (simp; done) | (simp; omega)), (by first | ((try simp only [sz_alloc, sz_drewN, sz_drew1, sz_set]); omega) | (simp; done) | (simp; omega)), (by first | ((try simp only [sz_alloc, sz_drewN, sz_drew1, sz_set]); omega) | (simp; done) | (simp; omega)), hid (IntsA.keep DA.out (by (repeat (first | (with_reducible refine Keeps.sc ?_ (by omega) _) | (with_reducible refine Keeps.al ?_ (by first | ((try simp only [sz_alloc, sz_drewN, sz_drew1, sz_set]); omega) | (simp; done) | (simp; omega)) _) | (with_reducible refine Keeps.dr ?_ _))); with_reducible exact Keeps.refl _ _ _)), hid (IntsA.keep DB.out (by (repeat (first | (with_reducible refine Keeps.sc ?_ (by omega) _) | (with_reducible refine Keeps.al ?_ (by first | ((try simp only [sz_alloc, sz_drewN, sz_drew1, sz_set]); omega) | (simp; done) | (simp; omega)) _) | (with_reducible refine Keeps.dr ?_ _))); with_reducible exact Keeps.refl _ _ _)), hid (by rw [HST.out]; exact HM.out), hid (by (repeat (first | (with_reducible refine Below.setCell ?_ (by first | ((try simp only [sz_alloc, sz_drewN, sz_drew1, sz_set]); omega) | (simp; done) | (simp; omega)) _) | (with_reducible refine Below.al ?_ (by first | ((try simp only [sz_alloc, sz_drewN, sz_drew1, sz_set]); omega) | (simp; done) | (simp; omega)) _) | (with_reducible refine below_drewN ?_ _) | (with_reducible refine below_drew1 ?_))); with_reducible exact HBv1.out)⟩
              case measure => first | (simp [intOf]; done) | (simp [intOf]; omega)
        · have hd1 : decide ((i : Int) < (n : Int)) = false := by simp; omega
          obtain rfl : n = i := by omega
          have HMC := hid (mulOK_c HVA.out HVB.out)
          have hlx := HLN.out.1
          have HLX := hid hlx; clear hlx
          go_wp2_with fail
          refine (implCarry (some ⟨g, 0, none⟩) (n + n2) (n + n2) (mulTo xs ys n) _ HM.out (by omega) (by exact mulTo_small HVA.out HVB.out (by have h := HLN.out; omega)) (by omega)).mono ?_
          rintro e v5 ⟨ra, rn, rc, rfl, ho, hb⟩
          have HO := hid ho; clear ho
          have hzz := hb.size
          have hgg9 : w.heap.size + 3 ≤ wr.heap.size := by omega
          have hz := hb.size
          have hFF : v5.cell? ⟨w.heap.size, 0, none⟩ = some (.slice a n c) ∧ v5.cell? ⟨w.heap.size + 1, 0, none⟩ = some (.slice a2 n2 c2) ∧ v5.cell? ⟨w.heap.size + 2, 0, none⟩ = some (.slice none 0 0) ∧ v5.frozen? ⟨w.heap.size + 2, 0, none⟩ = false ∧ w.heap.size < v5.heap.size ∧ w.heap.size + 1 < v5.heap.size ∧ w.heap.size + 2 < v5.heap.size ∧ w.heap.size + 3 ≤ v5.heap.size ∧ hi ≤ v5.heap.size ∧ hi' ≤ v5.heap.size ∧ g < v5.heap.size := by (refine ⟨?_, ?_, ?_, ?_, ?_, ?_, ?_, ?_, ?_, ?_, ?_⟩) <;> (first | omega | (rw [(bcell hb).1 _ _ (by omega)]; with_reducible assumption) | (rw [(bcell hb).2 _ _ (by omega)]; with_reducible assumption))
          replace DA : Hid (IntsA fz lo hi v5 a n c xs) := hid (IntsA.keep DA.out (Keeps.of_below hb (by omega)))
          replace DB : Hid (IntsA fz' lo' hi' v5 a2 n2 c2 ys) := hid (IntsA.keep DB.out (Keeps.of_below hb (by omega)))
          replace HM : Hid (IntsA true g (g + 1) v5 (some ⟨g, 0, none⟩) (n + n2) (n + n2) (mulTo xs ys n)) := hid (IntsA.keep HM.out (Keeps.of_below hb (by omega)))
          replace HBv1 : Hid (Below w.heap.size w v5) := hid (HBv1.out.trans (hb.mono (by omega)))
          clear kc0 kc1 kc2 fkc2 ks0 ks1 ks2 ks3 ks4 ks5 hgs
          obtain ⟨kc0, kc1, kc2, fkc2, ks0, ks1, ks2, ks3, ks4, ks5, hgs⟩ := hFF
          clear hz hb
          go_wp2
          refine bodyPost_ret (v := .tuple #[bigV ra rn rc, .bool (crOK (mulTo xs ys n))]) (by simp [results, Try.results27, go_sem, kc0, kc1, kc2]) rfl ⟨ra, rn, rc, (by rw [HMC.out.1, HLX.out]), ?_, ?_⟩
          · rw [HMC.out.2, HLX.out]; exact ((HO.out.keep (by (repeat (first | (with_reducible refine Keeps.sc ?_ (by omega) _) | (with_reducible refine Keeps.al ?_ (by first | ((try simp only [sz_alloc, sz_drewN, sz_drew1, sz_set]); omega) | (simp; done) | (simp; omega)) _) | (with_reducible refine Keeps.dr ?_ _))); with_reducible exact Keeps.refl _ _ _)).wide (by omega) (by first | ((try simp only [sz_alloc, sz_drewN, sz_drew1, sz_set]); omega) | (simp; done) | (simp; omega)))
          · have hq := HBv1.out; (repeat (first | (with_reducible refine Below.setCell ?_ (by first | ((try simp only [sz_alloc, sz_drewN, sz_drew1, sz_set]); omega) | (simp; done) | (simp; omega)) _) | (with_reducible refine Below.al ?_ (by first | ((try simp only [sz_alloc, sz_drewN, sz_drew1, sz_set]); omega) | (simp; done) | (simp; omega)) _))); with_reducible exact hq
set_option maxRecDepth 100000 in
set_option maxHeartbeats 12800000 in
theorem specMul {fz fz' : Bool} {lo hi lo' hi' : Nat} (a : Option Addr) (n c : Nat) (xs : List Int) (a2 : Option Addr) (n2 c2 : Nat) (ys : List Int) (w : World) (hI : IntsA fz lo hi w a n c xs) (hh : hi ≤ w.heap.size) (hJ : IntsA fz' lo' hi' w a2 n2 c2 ys) (hh' : hi' ≤ w.heap.size) :
    Calls Try.prog 30 #[bigV a n c, bigV a2 n2 c2] w (GvBigB w (mulF xs ys) (mulOK xs ys)) := by
  have HLN := hid (And.intro hI.len hJ.len); have hs1 := hI.small; have hs2 := hJ.small
  have HI := hid hI; have HJ := hid hJ; clear hI hJ
  go_enter Try.func30, Try.ntmps30
  go_wp2_with fail
  refine absC (fun W => (W.cell? ⟨w.heap.size, 0, none⟩ = some (.slice a n c) ∧ W.cell? ⟨w.heap.size + 1, 0, none⟩ = some (.slice a2 n2 c2) ∧ W.cell? ⟨w.heap.size + 2, 0, none⟩ = some (.slice none 0 0) ∧ W.frozen? ⟨w.heap.size + 2, 0, none⟩ = false ∧ w.heap.size < W.heap.size ∧ w.heap.size + 1 < W.heap.size ∧ w.heap.size + 2 < W.heap.size ∧ w.heap.size + 3 ≤ W.heap.size ∧ hi ≤ W.heap.size ∧ hi' ≤ W.heap.size) ∧ Hid (IntsA fz lo hi W a n c xs) ∧ Hid (IntsA fz' lo' hi' W a2 n2 c2 ys) ∧ Hid (Below w.heap.size w W)) ⟨by (refine ⟨?_, ?_, ?_, ?_, ?_, ?_, ?_, ?_, ?_, ?_⟩) <;> (first | with_reducible assumption | ((try simp only [sz_alloc, sz_drewN, sz_drew1, sz_set]); omega) | (simp (disch := (first | omega | (simp only [sz_alloc, sz_drewN, sz_drew1, sz_set]; omega) | (simp (disch := (first | omega | (simp only [sz_alloc, sz_drewN, sz_drew1, sz_set]; omega))) only [calloc, cdrewN, cdrew1, cset_far, cset_off, *, Option.isSome_some]; done))) only [calloc, falloc, cdrewN, cdrew1, fdrewN, fdrew1, cset_far, cset_off, fset_any, World.cell?_setCell_same']; first | done | with_reducible assumption) | (go_simp; done) | (simp; done)), hid (IntsA.keep HI.out (by (repeat (first | (with_reducible refine Keeps.sc ?_ (by omega) _) | (with_reducible refine Keeps.al ?_ (by first | ((try simp only [sz_alloc, sz_drewN, sz_drew1, sz_set]); omega) | (simp; done) | (simp; omega)) _) | (with_reducible refine Keeps.dr ?_ _))); with_reducible exact Keeps.refl _ _ _)), hid (IntsA.keep HJ.out (by (repeat (first | (with_reducible refine Keeps.sc ?_ (by omega) _) | (with_reducible refine Keeps.al ?_ (by first | ((try simp only [sz_alloc, sz_drewN, sz_drew1, sz_set]); omega) | (simp; done) | (simp; omega)) _) | (with_reducible refine Keeps.dr ?_ _))); with_reducible exact Keeps.refl _ _ _)), hid (by (repeat (first | (with_reducible refine Below.setCell ?_ (by first | ((try simp only [sz_alloc, sz_drewN, sz_drew1, sz_set]); omega) | (simp; done) | (simp; omega)) _) | (with_reducible refine Below.al ?_ (by first | ((try simp only [sz_alloc, sz_drewN, sz_drew1, sz_set]); omega) | (simp; done) | (simp; omega)) _) | (with_reducible refine below_drewN ?_ _) | (with_reducible refine below_drew1 ?_))); with_reducible exact Below.refl _ _)⟩ ?_
  rintro v1 ⟨⟨kc0, kc1, kc2, fkc2, ks0, ks1, ks2, ks3, ks4, ks5⟩, DA, DB, HBv1⟩
  refine (specValidBig a n c xs _ DA.out (by omega)).mono ?_
  rintro e v2 ⟨rfl, hb⟩
  have hz := hb.size
  have hFF : v2.cell? ⟨w.heap.size, 0, none⟩ = some (.slice a n c) ∧ v2.cell? ⟨w.heap.size + 1, 0, none⟩ = some (.slice a2 n2 c2) ∧ v2.cell? ⟨w.heap.size + 2, 0, none⟩ = some (.slice none 0 0) ∧ v2.frozen? ⟨w.heap.size + 2, 0, none⟩ = false ∧ w.heap.size < v2.heap.size ∧ w.heap.size + 1 < v2.heap.size ∧ w.heap.size + 2 < v2.heap.size ∧ w.heap.size + 3 ≤ v2.heap.size ∧ hi ≤ v2.heap.size ∧ hi' ≤ v2.heap.size := by (refine ⟨?_, ?_, ?_, ?_, ?_, ?_, ?_, ?_, ?_, ?_⟩) <;> (first | omega | (rw [(bcell hb).1 _ _ (by omega)]; with_reducible assumption) | (rw [(bcell hb).2 _ _ (by omega)]; with_reducible assumption))
  replace DA : Hid (IntsA fz lo hi v2 a n c xs) := hid (IntsA.keep DA.out (Keeps.of_below hb (by omega)))
  replace DB : Hid (IntsA fz' lo' hi' v2 a2 n2 c2 ys) := hid (IntsA.keep DB.out (Keeps.of_below hb (by omega)))
  replace HBv1 : Hid (Below w.heap.size w v2) := hid (HBv1.out.trans (hb.mono (by omega)))
  clear kc0 kc1 kc2 fkc2 ks0 ks1 ks2 ks3 ks4 ks5
  obtain ⟨kc0, kc1, kc2, fkc2, ks0, ks1, ks2, ks3, ks4, ks5⟩ := hFF
  clear hz hb
  obtain ⟨va, hva⟩ : ∃ v, bigOK xs = v := ⟨_, rfl⟩
  rw [hva]; have HVA := hid hva; clear hva
  cases va with
  | false =>
    have HF := hid (mulOK_a (b := ys) HVA.out)
    go_wp2
    refine bodyPost_ret (v := .tuple #[bigV none 0 0, .bool false]) (by simp [results, Try.results30, go_sem, kc0, kc1, kc2]) rfl ⟨none, 0, 0, (by rw [HF.out]), ?_, ?_⟩
    · rw [mulF_no HF.out]; exact nilI _ _ _ _
    · have hq := HBv1.out; (repeat (with_reducible refine Below.setCell ?_ (by first | ((try simp only [sz_alloc, sz_drewN, sz_drew1, sz_set]); omega) | (simp; done) | (simp; omega)) _)); with_reducible exact hq
  | true =>
    go_wp2_with fail
    refine (specValidBig a2 n2 c2 ys _ DB.out (by omega)).mono ?_
    rintro e v3 ⟨rfl, hb⟩
    have hz := hb.size
    have hFF : v3.cell? ⟨w.heap.size, 0, none⟩ = some (.slice a n c) ∧ v3.cell? ⟨w.heap.size + 1, 0, none⟩ = some (.slice a2 n2 c2) ∧ v3.cell? ⟨w.heap.size + 2, 0, none⟩ = some (.slice none 0 0) ∧ v3.frozen? ⟨w.heap.size + 2, 0, none⟩ = false ∧ w.heap.size < v3.heap.size ∧ w.heap.size + 1 < v3.heap.size ∧ w.heap.size + 2 < v3.heap.size ∧ w.heap.size + 3 ≤ v3.heap.size ∧ hi ≤ v3.heap.size ∧ hi' ≤ v3.heap.size := by (refine ⟨?_, ?_, ?_, ?_, ?_, ?_, ?_, ?_, ?_, ?_⟩) <;> (first | omega | (rw [(bcell hb).1 _ _ (by omega)]; with_reducible assumption) | (rw [(bcell hb).2 _ _ (by omega)]; with_reducible assumption))
    replace DA : Hid (IntsA fz lo hi v3 a n c xs) := hid (IntsA.keep DA.out (Keeps.of_below hb (by omega)))
    replace DB : Hid (IntsA fz' lo' hi' v3 a2 n2 c2 ys) := hid (IntsA.keep DB.out (Keeps.of_below hb (by omega)))
    replace HBv1 : Hid (Below w.heap.size w v3) := hid (HBv1.out.trans (hb.mono (by omega)))
    clear kc0 kc1 kc2 fkc2 ks0 ks1 ks2 ks3 ks4 ks5
    obtain ⟨kc0, kc1, kc2, fkc2, ks0, ks1, ks2, ks3, ks4, ks5⟩ := hFF
    clear hz hb
    obtain ⟨vb, hvb⟩ : ∃ v, bigOK ys = v := ⟨_, rfl⟩
    rw [hvb]; have HVB := hid hvb; clear hvb
    cases vb with
    | false =>
      have HF := hid (mulOK_b (a := xs) HVB.out)
      go_wp2
      refine bodyPost_ret (v := .tuple #[bigV none 0 0, .bool false]) (by simp [results, Try.results30, go_sem, kc0, kc1, kc2]) rfl ⟨none, 0, 0, (by rw [HF.out]), ?_, ?_⟩
      · rw [mulF_no HF.out]; exact nilI _ _ _ _
      · have hq := HBv1.out; (repeat (with_reducible refine Below.setCell ?_ (by first | ((try simp only [sz_alloc, sz_drewN, sz_drew1, sz_set]); omega) | (simp; done) | (simp; omega)) _)); with_reducible exact hq
    | true =>
      have hn : n ≤ 60 := by have h := bigOK_out HVA.out; have h2 := HLN.out; omega
      have hn2 : n2 ≤ 60 := by have h := bigOK_out HVB.out; have h2 := HLN.out; omega
      go_wp2_with (at_make; refine halt' ?_)
      unfold Halt'
      obtain ⟨i0, hi0, hz0, hz1, hz2⟩ := info_parts infoInt
      refine wpList_make_full _ rfl _ _ 24 rfl v3.heap.size 3 i0 (.int .i64 0) 1 Try.underlying24 hi0 hz0 hz1 _ _ _ _ (n + n2) rfl rfl rfl rfl (by rw [hz2]; omega) (by unfold maxLen; omega) (Nat.le_refl _) ?_
      intro v4 hat hgrow
      have hbA : Below v3.heap.size v3 v4 := (Below.refl _ _).grown hgrow (Nat.le_refl _) (fun k h => by cases h)
      have hgsz : v3.heap.size < v4.heap.size := (hat.lt v3.heap.size rfl).2
      obtain ⟨g, hg⟩ : ∃ g, g = v3.heap.size := ⟨_, rfl⟩
      have hown : Own g v4 (some ⟨g, 0, none⟩) (n + n2) (n + n2) (mulTo xs ys 0) := by rw [hg]; exact ⟨by rw [show (Value.int IntKind.i64 0).cells = #[Value.int IntKind.i64 0] from rfl, toList_madeCells_one] at hat; simpa [mulTo, HLN.out.1, HLN.out.2] using hat, fun x hx => by simp [mulTo] at hx; rw [hx.2]; unfold I64; omega⟩
      rw [← hg]
      have HM := hid (own_at hown); clear hown hat hgrow hi0 hz0 hz1 hz2
      have hb := hbA; clear hbA
      have hFF : v4.cell? ⟨w.heap.size, 0, none⟩ = some (.slice a n c) ∧ v4.cell? ⟨w.heap.size + 1, 0, none⟩ = some (.slice a2 n2 c2) ∧ v4.cell? ⟨w.heap.size + 2, 0, none⟩ = some (.slice none 0 0) ∧ v4.frozen? ⟨w.heap.size + 2, 0, none⟩ = false ∧ w.heap.size < v4.heap.size ∧ w.heap.size + 1 < v4.heap.size ∧ w.heap.size + 2 < v4.heap.size ∧ w.heap.size + 3 ≤ v4.heap.size ∧ hi ≤ v4.heap.size ∧ hi' ≤ v4.heap.size := by (refine ⟨?_, ?_, ?_, ?_, ?_, ?_, ?_, ?_, ?_, ?_⟩) <;> (first | omega | (rw [(bcell hb).1 _ _ (by omega)]; with_reducible assumption) | (rw [(bcell hb).2 _ _ (by omega)]; with_reducible assumption))
      replace DA : Hid (IntsA fz lo hi v4 a n c xs) := hid (IntsA.keep DA.out (Keeps.of_below hb (by omega)))
      replace DB : Hid (IntsA fz' lo' hi' v4 a2 n2 c2 ys) := hid (IntsA.keep DB.out (Keeps.of_below hb (by omega)))
      replace HBv1 : Hid (Below w.heap.size w v4) := hid (HBv1.out.trans (hb.mono (by omega)))
      have hgl : w.heap.size + 3 ≤ g ∧ hi ≤ g ∧ hi' ≤ g := by omega
      clear kc0 kc1 kc2 fkc2 ks0 ks1 ks2 ks3 ks4 ks5
      obtain ⟨kc0, kc1, kc2, fkc2, ks0, ks1, ks2, ks3, ks4, ks5⟩ := hFF
      clear hb
      have hgs : g < v4.heap.size := by omega
      clear hgsz hg
      go_wp2_with fail
      go_loopw [7] (fun q wr => ∃ i : Nat, q = .int .i64 i ∧ i ≤ n ∧ wr.cell? ⟨w.heap.size, 0, none⟩ = some (.slice a n c) ∧ wr.cell? ⟨w.heap.size + 1, 0, none⟩ = some (.slice a2 n2 c2) ∧ wr.cell? ⟨w.heap.size + 2, 0, none⟩ = some (.slice none 0 0) ∧ wr.frozen? ⟨w.heap.size + 2, 0, none⟩ = false ∧ w.heap.size < wr.heap.size ∧ w.heap.size + 1 < wr.heap.size ∧ w.heap.size + 2 < wr.heap.size ∧ w.heap.size + 3 ≤ wr.heap.size ∧ hi ≤ wr.heap.size ∧ hi' ≤ wr.heap.size ∧ g < wr.heap.size ∧ Hid (IntsA fz lo hi wr a n c xs) ∧ Hid (IntsA fz' lo' hi' wr a2 n2 c2 ys) ∧ Hid (IntsA true g (g + 1) wr (some ⟨g, 0, none⟩) (n + n2) (n + n2) (mulTo xs ys i)) ∧ Hid (Below w.heap.size w wr)) (fun q _ => n - (intOf q).toNat)
      case atStart => exact ⟨0, rfl, by omega, kc0, kc1, kc2, fkc2, ks0, ks1, ks2, ks3, ks4, ks5, hgs, DA, DB, HM, HBv1⟩
      case round =>
        clear kc0 kc1 kc2 fkc2 ks0 ks1 ks2 ks3 ks4 ks5 hgs DA DB HM HBv1
        obtain ⟨i, rfl, hin, kc0, kc1, kc2, fkc2, ks0, ks1, ks2, ks3, ks4, ks5, hgs, DA, DB, HM, HBv1⟩ := hrel
        by_cases hlt : i < n
        · have hd1 : decide ((i : Int) < (n : Int)) = true := by simp; omega
          have hbx := ix_bd (bigOK_out HVA.out).1 i
          obtain ⟨ab, ao, hab, habh, d0⟩ := intsAtB DA.out hlt
          subst hab
          have habs : ab < wr.heap.size := World.block_lt_of_cell? _ _ d0
          generalize hx : ix xs i = x at *
          have HX := hid hx; clear hx
          go_wp2_with fail
          go_loopw [8] (fun q wq => ∃ j : Nat, q = .int .i64 j ∧ j ≤ n2 ∧ wq.cell? ⟨w.heap.size, 0, none⟩ = some (.slice (some ⟨ab, ao, none⟩) n c) ∧ wq.cell? ⟨w.heap.size + 1, 0, none⟩ = some (.slice a2 n2 c2) ∧ wq.cell? ⟨w.heap.size + 2, 0, none⟩ = some (.slice none 0 0) ∧ wq.frozen? ⟨w.heap.size + 2, 0, none⟩ = false ∧ wq.cell? ⟨ab, ao + i, none⟩ = some (.int .i64 x) ∧ w.heap.size < wq.heap.size ∧ w.heap.size + 1 < wq.heap.size ∧ w.heap.size + 2 < wq.heap.size ∧ w.heap.size + 3 ≤ wq.heap.size ∧ hi ≤ wq.heap.size ∧ hi' ≤ wq.heap.size ∧ g < wq.heap.size ∧ ab < wq.heap.size ∧ Hid (IntsA fz lo hi wq (some ⟨ab, ao, none⟩) n c xs) ∧ Hid (IntsA fz' lo' hi' wq a2 n2 c2 ys) ∧ Hid (IntsA true g (g + 1) wq (some ⟨g, 0, none⟩) (n + n2) (n + n2) (rowTo (mulTo xs ys i) (ix xs i) ys i j)) ∧ Hid (Below w.heap.size w wq)) (fun q _ => n2 - (intOf q).toNat)
          case atStart => exact ⟨0, rfl, by omega, kc0, kc1, kc2, fkc2, d0, ks0, ks1, ks2, ks3, ks4, ks5, hgs, habs, DA, DB, HM, HBv1⟩
          case round =>
            clear kc0 kc1 kc2 fkc2 d0 ks0 ks1 ks2 ks3 ks4 ks5 hgs habs DA DB HM HBv1
            obtain ⟨j, rfl, hjn, kc0, kc1, kc2, fkc2, d0, ks0, ks1, ks2, ks3, ks4, ks5, hgs, habs, DA, DB, HM, HBv1⟩ := hrel
            by_cases hlt2 : j < n2
            · have hd2 : decide ((j : Int) < (n2 : Int)) = true := by simp; omega
              have hby := ix_bd (bigOK_out HVB.out).1 j
              obtain ⟨bb, bo, hbb, hbbh, e0⟩ := intsAtB DB.out hlt2
              subst hbb
              have hbbs : bb < wr.heap.size := World.block_lt_of_cell? _ _ e0
              obtain ⟨m0, fm0⟩ := cellAt0 HM.out (show i + j < n + n2 by omega) rfl
              have hbv := rowTo_small HVA.out HVB.out (i := i) (j := j) (by have h := HLN.out; omega) (by have h := HLN.out; omega) (i + j)
              have hmb := mul81 (x := x) (y := ix ys j) (by rw [← HX.out]; exact ix_bd (bigOK_out HVA.out).1 i) hby
              generalize hy : ix ys j = y at *
              generalize hv : ix (rowTo (mulTo xs ys i) (ix xs i) ys i j) (i + j) = v at *
              generalize hp : x * y = p at *
              obtain ⟨hbv0, hbv1⟩ := hbv; obtain ⟨hm0, hm1⟩ := hmb; obtain ⟨hby0, hby1⟩ := hby
              have hwp : IntKind.i64.wrap (x * y) = p := by rw [hp]; exact IntWalk.i64_in _ (by omega)
              have hwp2 : IntKind.i64.wrap p = p := IntWalk.i64_in _ (by omega)
              have hwv : IntKind.i64.wrap (v + p) = v + p := IntWalk.i64_in _ (by omega)
              have hij : (i : Int) + (j : Int) < (n : Int) + (n2 : Int) := by omega
              have hij2 : IntKind.i64.wrap ((i : Int) + (j : Int)) = (i : Int) + (j : Int) := IntWalk.i64_in _ (by omega)
              have HST : Hid (rowTo (mulTo xs ys i) (ix xs i) ys i (j + 1) = (rowTo (mulTo xs ys i) (ix xs i) ys i j).set (i + j) (v + p)) := hid (by show addAt _ _ _ = _; unfold addAt; rw [hv, hy, HX.out, hp])
              have HYV := hid (And.intro hy hv); clear hy hv
              have HNEW := hid (fun (w9 : World) (h : IntsA true g (g + 1) w9 (some ⟨g, 0, none⟩) (n + n2) (n + n2) (rowTo (mulTo xs ys i) (ix xs i) ys i j)) => intsSet0 h (i := i + j) (by omega) (v := v + p) (by unfold I64; omega))
              have fm0x := fm0; clear fm0; have fm0 := fm0x; clear fm0x
              go_wp2_with fail
              have hLkc0 : ∀ x9 : Later wr.heap.size wr, x9.w.cell? ⟨w.heap.size, 0, none⟩ = some (.slice (some ⟨ab, ao, none⟩) n c) := fun x9 => x9.cell kc0 ks0
              have hLkc1 : ∀ x9 : Later wr.heap.size wr, x9.w.cell? ⟨w.heap.size + 1, 0, none⟩ = some (.slice (some ⟨bb, bo, none⟩) n2 c2) := fun x9 => x9.cell kc1 ks1
              have hLkc2 : ∀ x9 : Later wr.heap.size wr, x9.w.cell? ⟨w.heap.size + 2, 0, none⟩ = some (.slice none 0 0) := fun x9 => x9.cell kc2 ks2
              have hLd0 : ∀ x9 : Later wr.heap.size wr, x9.w.cell? ⟨ab, ao + i, none⟩ = some (.int .i64 x) := fun x9 => x9.cell d0 habs
              have hLm0 : ∀ x9 : Later wr.heap.size wr, x9.w.cell? ⟨g, i + j, none⟩ = some (.int .i64 v) := fun x9 => x9.cell m0 hgs
              have hLe0 : ∀ x9 : Later wr.heap.size wr, x9.w.cell? ⟨bb, bo + j, none⟩ = some (.int .i64 y) := fun x9 => x9.cell e0 hbbs
              clear kc0 kc1 kc2 d0 m0 e0
              refine wp_region_laterT (B := wr.heap.size) (w0 := wr) 23 (by kernel_rfl) (by kernel_rfl) (Below.refl _ _) ?_
              simp only [List.take_succ_cons, List.take_zero, List.drop_succ_cons, List.drop_zero]
              repeat (any_goals (first | go_big_quiet_step (fail) | quiet_step (fail)))
              refine wpQuiet_nil ?_
              intro _ hw'
              obtain ⟨nq, hw''⟩ := hw'
              subst hw''
              have hbq := nq.be; have hzq := hbq.size
              have kc0 := hLkc0 nq
              have kc1 := hLkc1 nq
              have kc2 := hLkc2 nq
              replace fkc2 : nq.w.frozen? ⟨w.heap.size + 2, 0, none⟩ = false := by rw [(bcell hbq).2 _ _ ks2]; exact fkc2
              have d0 := hLd0 nq
              have m0 := hLm0 nq
              replace fm0 : nq.w.frozen? ⟨g, i + j, none⟩ = false := by rw [(bcell hbq).2 _ _ hgs]; exact fm0
              have e0 := hLe0 nq
              replace DA : Hid (IntsA fz lo hi nq.w (some ⟨ab, ao, none⟩) n c xs) := hid (IntsA.keep DA.out (Keeps.of_below hbq (by omega)))
              replace DB : Hid (IntsA fz' lo' hi' nq.w (some ⟨bb, bo, none⟩) n2 c2 ys) := hid (IntsA.keep DB.out (Keeps.of_below hbq (by omega)))
              replace HM : Hid (IntsA true g (g + 1) nq.w (some ⟨g, 0, none⟩) (n + n2) (n + n2) (rowTo (mulTo xs ys i) (ix xs i) ys i j)) := hid (IntsA.keep HM.out (Keeps.of_below hbq (by omega)))
              replace HBv1 : Hid (Below w.heap.size w nq.w) := hid (HBv1.out.trans (hbq.mono (by omega)))
              replace ks0 : w.heap.size < nq.w.heap.size := (by omega)
              replace ks1 : w.heap.size + 1 < nq.w.heap.size := (by omega)
              replace ks2 : w.heap.size + 2 < nq.w.heap.size := (by omega)
              replace ks3 : w.heap.size + 3 ≤ nq.w.heap.size := (by omega)
              replace ks4 : hi ≤ nq.w.heap.size := (by omega)
              replace ks5 : hi' ≤ nq.w.heap.size := (by omega)
              replace hgs : g < nq.w.heap.size := (by omega)
              replace habs : ab < nq.w.heap.size := (by omega)
              replace hbbs : bb < nq.w.heap.size := (by omega)
              clear hbq hzq hLkc0 hLkc1 hLkc2 hLd0 hLm0 hLe0
              generalize nq.w = v5 at *
              have HNW := hid (HNEW.out _ HM.out)
              go_wp2
              go_roundw
              case rel => exact ⟨j + 1, by go_num, by omega, (by first | with_reducible assumption | (simp (disch := (first | omega | (simp only [sz_alloc, sz_drewN, sz_drew1, sz_set]; omega) | (simp (disch := (first | omega | (simp only [sz_alloc, sz_drewN, sz_drew1, sz_set]; omega))) only [calloc, cdrewN, cdrew1, cset_far, cset_off, *, Option.isSome_some]; done))) only [calloc, falloc, cdrewN, cdrew1, fdrewN, fdrew1, cset_far, cset_off, fset_any, World.cell?_setCell_same']; first | done | with_reducible assumption) | (go_simp; done) | (simp; done)), (by first | with_reducible assumption | (simp (disch := (first | omega | (simp only [sz_alloc, sz_drewN, sz_drew1, sz_set]; omega) | (simp (disch := (first | omega | (simp only [sz_alloc, sz_drewN, sz_drew1, sz_set]; omega))) only [calloc, cdrewN, cdrew1, cset_far, cset_off, *, Option.isSome_some]; done))) only [calloc, falloc, cdrewN, cdrew1, fdrewN, fdrew1, cset_far, cset_off, fset_any, World.cell?_setCell_same']; first | done | with_reducible assumption) | (go_simp; done) | (simp; done)), (by first | with_reducible assumption | (simp (disch := (first | omega | (simp only [sz_alloc, sz_drewN, sz_drew1, sz_set]; omega) | (simp (disch := (first | omega | (simp only [sz_alloc, sz_drewN, sz_drew1, sz_set]; omega))) only [calloc, cdrewN, cdrew1, cset_far, cset_off, *, Option.isSome_some]; done))) only [calloc, falloc, cdrewN, cdrew1, fdrewN, fdrew1, cset_far, cset_off, fset_any, World.cell?_setCell_same']; first | done | with_reducible assumption) | (go_simp; done) | (simp; done)), (by first | with_reducible assumption | (simp (disch := (first | omega | (simp only [sz_alloc, sz_drewN, sz_drew1, sz_set]; omega) | (simp (disch := (first | omega | (simp only [sz_alloc, sz_drewN, sz_drew1, sz_set]; omega))) only [calloc, cdrewN, cdrew1, cset_far, cset_off, *, Option.isSome_some]; done))) only [calloc, falloc, cdrewN, cdrew1, fdrewN, fdrew1, cset_far, cset_off, fset_any, World.cell?_setCell_same']; first | done | with_reducible assumption) | (go_simp; done) | (simp; done)), (by first | with_reducible assumption | (simp (disch := (first | omega | (simp only [sz_alloc, sz_drewN, sz_drew1, sz_set]; omega) | (simp (disch := (first | omega | (simp only [sz_alloc, sz_drewN, sz_drew1, sz_set]; omega))) only [calloc, cdrewN, cdrew1, cset_far, cset_off, *, Option.isSome_some]; done))) only [calloc, falloc, cdrewN, cdrew1, fdrewN, fdrew1, cset_far, cset_off, fset_any, World.cell?_setCell_same']; first | done | with_reducible assumption) | (go_simp; done) | (simp; done)), (by first | ((try simp only [sz_alloc, sz_drewN, sz_drew1, sz_set]); omega) | (simp; done) | (simp; omega)), (by first | ((try simp only [sz_alloc, sz_drewN, sz_drew1, sz_set]); omega) | (simp; done) | (simp; omega)), (by first | ((try simp only [sz_alloc, sz_drewN, sz_drew1, sz_set]); omega) | (simp; done) | (simp; omega)), (by first | ((try simp only [sz_alloc, sz_drewN, sz_drew1, sz_set]); omega) | (simp; done) | (simp; omega)), (by first | ((try simp only [sz_alloc, sz_drewN, sz_drew1, sz_set]); omega) | (simp; done) | (simp; omega)), (by first | ((try simp only [sz_alloc, sz_drewN, sz_drew1, sz_set]); omega) | (simp; done) | (simp; omega)), (by first | ((try simp only [sz_alloc, sz_drewN, sz_drew1, sz_set]); omega) | (simp; done) | (simp; omega)), (by first | ((try simp only [sz_alloc, sz_drewN, sz_drew1, sz_set]); omega) | (simp; done) | (simp; omega)), hid (IntsA.keep DA.out (by (repeat (first | (with_reducible refine Keeps.sc ?_ (by omega) _) | (with_reducible refine Keeps.al ?_ (by first | ((try simp only [sz_alloc, sz_drewN, sz_drew1, sz_set]); omega) | (simp; done) | (simp; omega)) _) | (with_reducible refine Keeps.dr ?_ _))); with_reducible exact Keeps.refl _ _ _)), hid (IntsA.keep DB.out (by (repeat (first | (with_reducible refine Keeps.sc ?_ (by omega) _) | (with_reducible refine Keeps.al ?_ (by first | ((try simp only [sz_alloc, sz_drewN, sz_drew1, sz_set]); omega) | (simp; done) | (simp; omega)) _) | (with_reducible refine Keeps.dr ?_ _))); with_reducible exact Keeps.refl _ _ _)), hid (by rw [HST.out]; exact HNW.out), hid (by (repeat (first | (with_reducible refine Below.setCell ?_ (by first | ((try simp only [sz_alloc, sz_drewN, sz_drew1, sz_set]); omega) | (simp; done) | (simp; omega)) _) | (with_reducible refine Below.al ?_ (by first | ((try simp only [sz_alloc, sz_drewN, sz_drew1, sz_set]); omega) | (simp; done) | (simp; omega)) _) | (with_reducible refine below_drewN ?_ _) | (with_reducible refine below_drew1 ?_))); with_reducible exact HBv1.out)⟩
              case measure => first | (simp [intOf]; done) | (simp [intOf]; omega)
            · have hd2 : decide ((j : Int) < (n2 : Int)) = false := by simp; omega
              obtain rfl : n2 = j := by omega
              have HST : Hid (mulTo xs ys (i + 1) = rowTo (mulTo xs ys i) (ix xs i) ys i n2) := hid (by show rowTo _ _ _ _ _ = _; rw [HLN.out.2])
              go_wp2
              go_roundw
              case rel => exact ⟨i + 1, by go_num, by omega, (by first | with_reducible assumption | (simp (disch := (first | omega | (simp only [sz_alloc, sz_drewN, sz_drew1, sz_set]; omega) | (simp (disch := (first | omega | (simp only [sz_alloc, sz_drewN, sz_drew1, sz_set]; omega))) only [calloc, cdrewN, cdrew1, cset_far, cset_off, *, Option.isSome_some]; done))) only [calloc, falloc, cdrewN, cdrew1, fdrewN, fdrew1, cset_far, cset_off, fset_any, World.cell?_setCell_same']; first | done | with_reducible assumption) | (go_simp; done) | (simp; done)), (by first | with_reducible assumption | (simp (disch := (first | omega | (simp only [sz_alloc, sz_drewN, sz_drew1, sz_set]; omega) | (simp (disch := (first | omega | (simp only [sz_alloc, sz_drewN, sz_drew1, sz_set]; omega))) only [calloc, cdrewN, cdrew1, cset_far, cset_off, *, Option.isSome_some]; done))) only [calloc, falloc, cdrewN, cdrew1, fdrewN, fdrew1, cset_far, cset_off, fset_any, World.cell?_setCell_same']; first | done | with_reducible assumption) | (go_simp; done) | (simp; done)), (by first | with_reducible assumption | (simp (disch := (first | omega | (simp only [sz_alloc, sz_drewN, sz_drew1, sz_set]; omega) | (simp (disch := (first | omega | (simp only [sz_alloc, sz_drewN, sz_drew1, sz_set]; omega))) only [calloc, cdrewN, cdrew1, cset_far, cset_off, *, Option.isSome_some]; done))) only [calloc, falloc, cdrewN, cdrew1, fdrewN, fdrew1, cset_far, cset_off, fset_any, World.cell?_setCell_same']; first | done | with_reducible assumption) | (go_simp; done) | (simp; done)), (by first | with_reducible assumption | (simp (disch := (first | omega | (simp only [sz_alloc, sz_drewN, sz_drew1, sz_set]; omega) | (simp (disch := (first | omega | (simp only [sz_alloc, sz_drewN, sz_drew1, sz_set]; omega))) only [calloc, cdrewN, cdrew1, cset_far, cset_off, *, Option.isSome_some]; done))) only [calloc, falloc, cdrewN, cdrew1, fdrewN, fdrew1, cset_far, cset_off, fset_any, World.cell?_setCell_same']; first | done | with_reducible assumption) | (go_simp; done) | (simp; done)), (by first | ((try simp only [sz_alloc, sz_drewN, sz_drew1, sz_set]); omega) | (simp; done) | (simp; omega)), (by first | ((try simp only [sz_alloc, sz_drewN, sz_drew1, sz_set]); omega) | (simp; done) | (simp; omega)), (by first | ((try simp only [sz_alloc, sz_drewN, sz_drew1, sz_set]); omega) | (simp; done) | (simp; omega)), (by first | ((try simp only [sz_alloc, sz_drewN, sz_drew1, sz_set]); omega) | (simp; done) | (simp; omega)), (by first | ((try simp only [sz_alloc, sz_drewN, sz_drew1, sz_set]); omega) | (simp; done) | (simp; omega)), (by first | ((try simp only [sz_alloc, sz_drewN, sz_drew1, sz_set]); omega) | (simp; done) | (simp; omega)), (by first | ((try simp only [sz_alloc, sz_drewN, sz_drew1, sz_set]); omega) | (simp; done) | (simp; omega)), hid (IntsA.keep DA.out (by (repeat (first | (with_reducible refine Keeps.sc ?_ (by omega) _) | (with_reducible refine Keeps.al ?_ (by first | ((try simp only [sz_alloc, sz_drewN, sz_drew1, sz_set]); omega) | (simp; done) | (simp; omega)) _) | (with_reducible refine Keeps.dr ?_ _))); with_reducible exact Keeps.refl _ _ _)), hid (IntsA.keep DB.out (by (repeat (first | (with_reducible refine Keeps.sc ?_ (by omega) _) | (with_reducible refine Keeps.al ?_ (by first | ((try simp only [sz_alloc, sz_drewN, sz_drew1, sz_set]); omega) | (simp; done) | (simp; omega)) _) | (with_reducible refine Keeps.dr ?_ _))); with_reducible exact Keeps.refl _ _ _)), hid (by rw [HST.out]; exact HM.out), hid (by (repeat (first | (with_reducible refine Below.setCell ?_ (by first | ((try simp only [sz_alloc, sz_drewN, sz_drew1, sz_set]); omega) | (simp; done) | (simp; omega)) _) | (with_reducible refine Below.al ?_ (by first | ((try simp only [sz_alloc, sz_drewN, sz_drew1, sz_set]); omega) | (simp; done) | (simp; omega)) _) | (with_reducible refine below_drewN ?_ _) | (with_reducible refine below_drew1 ?_))); with_reducible exact HBv1.out)⟩
              case measure => first | (simp [intOf]; done) | (simp [intOf]; omega)
        · have hd1 : decide ((i : Int) < (n : Int)) = false := by simp; omega
          obtain rfl : n = i := by omega
          have HMC := hid (mulOK_c HVA.out HVB.out)
          have hlx := HLN.out.1
          have HLX := hid hlx; clear hlx
          go_wp2_with fail
          refine (specCarry (some ⟨g, 0, none⟩) (n + n2) (n + n2) (mulTo xs ys n) _ HM.out (by omega) (by exact mulTo_small HVA.out HVB.out (by have h := HLN.out; omega)) (by omega)).mono ?_
          rintro e v5 ⟨ra, rn, rc, rfl, ho, hb⟩
          have HO := hid ho; clear ho
          have hzz := hb.size
          have hgg9 : w.heap.size + 3 ≤ wr.heap.size := by omega
          have hz := hb.size
          have hFF : v5.cell? ⟨w.heap.size, 0, none⟩ = some (.slice a n c) ∧ v5.cell? ⟨w.heap.size + 1, 0, none⟩ = some (.slice a2 n2 c2) ∧ v5.cell? ⟨w.heap.size + 2, 0, none⟩ = some (.slice none 0 0) ∧ v5.frozen? ⟨w.heap.size + 2, 0, none⟩ = false ∧ w.heap.size < v5.heap.size ∧ w.heap.size + 1 < v5.heap.size ∧ w.heap.size + 2 < v5.heap.size ∧ w.heap.size + 3 ≤ v5.heap.size ∧ hi ≤ v5.heap.size ∧ hi' ≤ v5.heap.size ∧ g < v5.heap.size := by (refine ⟨?_, ?_, ?_, ?_, ?_, ?_, ?_, ?_, ?_, ?_, ?_⟩) <;> (first | omega | (rw [(bcell hb).1 _ _ (by omega)]; with_reducible assumption) | (rw [(bcell hb).2 _ _ (by omega)]; with_reducible assumption))
          replace DA : Hid (IntsA fz lo hi v5 a n c xs) := hid (IntsA.keep DA.out (Keeps.of_below hb (by omega)))
          replace DB : Hid (IntsA fz' lo' hi' v5 a2 n2 c2 ys) := hid (IntsA.keep DB.out (Keeps.of_below hb (by omega)))
          replace HM : Hid (IntsA true g (g + 1) v5 (some ⟨g, 0, none⟩) (n + n2) (n + n2) (mulTo xs ys n)) := hid (IntsA.keep HM.out (Keeps.of_below hb (by omega)))
          replace HBv1 : Hid (Below w.heap.size w v5) := hid (HBv1.out.trans (hb.mono (by omega)))
          clear kc0 kc1 kc2 fkc2 ks0 ks1 ks2 ks3 ks4 ks5 hgs
          obtain ⟨kc0, kc1, kc2, fkc2, ks0, ks1, ks2, ks3, ks4, ks5, hgs⟩ := hFF
          clear hz hb
          have hra : ((v5.setCell ⟨w.heap.size + 1 + 1, 0, none⟩ (.slice ra rn rc)).alloc (.cells #[.slice ra rn rc] 36)).cell? ⟨w.heap.size + 1 + 1, 0, none⟩ = some (.slice ra rn rc) := (by first | with_reducible assumption | (simp (disch := (first | omega | (simp only [sz_alloc, sz_drewN, sz_drew1, sz_set]; omega) | (simp (disch := (first | omega | (simp only [sz_alloc, sz_drewN, sz_drew1, sz_set]; omega))) only [calloc, cdrewN, cdrew1, cset_far, cset_off, *, Option.isSome_some]; done))) only [calloc, falloc, cdrewN, cdrew1, fdrewN, fdrew1, cset_far, cset_off, fset_any, World.cell?_setCell_same']; first | done | with_reducible assumption) | (go_simp; done) | (simp; done))
          go_wp2
          refine bodyPost_ret (v := .tuple #[bigV ra rn rc, .bool (crOK (mulTo xs ys n))]) (by simp [results, Try.results30, go_sem, kc0, kc1, kc2, hra]) rfl ⟨ra, rn, rc, (by rw [HMC.out.1, HLX.out]), ?_, ?_⟩
          · rw [HMC.out.2, HLX.out]; exact ((HO.out.keep (by (repeat (first | (with_reducible refine Keeps.sc ?_ (by omega) _) | (with_reducible refine Keeps.al ?_ (by first | ((try simp only [sz_alloc, sz_drewN, sz_drew1, sz_set]); omega) | (simp; done) | (simp; omega)) _) | (with_reducible refine Keeps.dr ?_ _))); with_reducible exact Keeps.refl _ _ _)).wide (by omega) (by first | ((try simp only [sz_alloc, sz_drewN, sz_drew1, sz_set]); omega) | (simp; done) | (simp; omega)))
          · have hq := HBv1.out; (repeat (first | (with_reducible refine Below.setCell ?_ (by first | ((try simp only [sz_alloc, sz_drewN, sz_drew1, sz_set]); omega) | (simp; done) | (simp; omega)) _) | (with_reducible refine Below.al ?_ (by first | ((try simp only [sz_alloc, sz_drewN, sz_drew1, sz_set]); omega) | (simp; done) | (simp; omega)) _))); with_reducible exact hq
end Go.Proofs.Ytjfhjlbofoknfaa
