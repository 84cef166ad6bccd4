/- Walks: copying rational numbers, and turning a valid matrix round, both sides. -/
import Derived.Test.YtgannpmngkgejaaR14
import Derived.Test.YtgannpmngkgejaaR11
import Derived.Test.YtgannpmngkgejaaR9
namespace Go.Proofs.Ytgannpmngkgejaa
set_option linter.unusedSimpArgs false
set_option linter.unusedVariables false
open Go.RowKit
/-- a list of rational numbers that the call made lies in one block, or is empty -/
theorem OwnR.headR {base : Nat} {w : World} {a : Option Addr} {n c : Nat} {xs : List RatD} (h : OwnR base w a n c xs) (hb : base ≤ w.heap.size) : ∃ s t, base ≤ s ∧ t ≤ w.heap.size ∧ RatsA true s t w a n c xs ∧ HeadI w s t := by
  have hi := h.rats
  by_cases hn : 0 < n
  · obtain ⟨g, rfl, hbg, hlt⟩ := h.1.head hn
    refine ⟨g, g + 1, hbg, hlt, ratsMk hi.1 hi.2.1 hi.2.2.1 (Nat.le_refl _) (by omega) fun i hi' => ?_, fun _ => ⟨rfl, (qx xs 0).num, ?_⟩⟩
    · obtain ⟨_, _, g1, g2, g3, g4, g5⟩ := ratsAt hi hi'
      exact ⟨g1, g2, g3, g4, g5⟩
    · obtain ⟨_, _, _, _, g3, _, _⟩ := ratsAt hi hn
      simpa using g3
  · exact ⟨base, base, Nat.le_refl _, hb, ⟨hi.1, hi.2.1, hi.2.2.1, fun h => absurd h hn, hi.2.2.2.2⟩, fun h => by omega⟩
/-- an append to a slice that was the call's own when the heap was smaller leaves later blocks -/
theorem grown_later {e : TypeId} {base : Nat} {w0 w w' : World} {a : Option Addr} {n c : Nat} {vs : List Value} (ho : OwnV e base w0 a n c vs) (hg : w.grownBy w' (Value.slice a n c).ownBlock) {s t : Nat} (h1 : w0.heap.size ≤ s) (h2 : t ≤ w.heap.size) : Keeps s t w w' := by
  intro k hk1 hk2
  refine hg.block _ (by omega) ?_
  intro e'
  have := ho.1.lt k e'.symm
  omega
theorem OwnV.grow1 {e : TypeId} {B B0 : Nat} {w wr w1 : World} {o1 : Obj} {a : Option Addr} {n c : Nat} {vs : List Value} (h : OwnV e B wr a n c vs) (hb : Below B0 w wr) (h0 : B0 ≤ B) (hB : B0 ≤ wr.heap.size) (hg : (wr.alloc o1).grownBy w1 (Value.slice a n c).ownBlock) : Below B0 w w1 :=
  (hb.alloc hB o1).grown hg (by simp; omega) (fun k hk => by have := h.1.lt k hk; omega)
theorem elemMat : Elem 27 28 24 := ⟨Try.underlying27, by obtain ⟨i0, h1, h2, h3, h4⟩ := info_parts infoRatS; exact ⟨i0, _, h1, h2, h3, h4, rfl⟩, by omega⟩
/-- The call returns a slice of rational numbers of its own; nothing that was there has turned. -/
def GivesOwnR (w : World) (xs : List RatD) (e : Ending) (w' : World) : Prop := ∃ a n c, e = .returned (.slice a n c) ∧ OwnR w.heap.size w' a n c xs ∧ Below w.heap.size w w'
set_option maxHeartbeats 1600000 in
theorem implCopyRats {fz : Bool} {lo hi : Nat} (a : Option Addr) (n c : Nat) (xs : List RatD) (w : World) (hI : RatsA fz lo hi w a n c xs) (hh : hi ≤ w.heap.size) (hn : n ≤ 1048576) :
    Calls Try.prog 26 #[.slice a n c] w (GivesOwnR w xs) := by
  have HF := hid (RatsA.flat (SlA.al ratRep hI hh (.cells #[] 53)))
  have HOK := hid (ratsOKof hI); clear hI
  go_enter Try.func26, Try.ntmps26
  go_wp2_with (at_builtin; refine wpAppF elemRat rfl (.tmp 3) (.tmp 4) rfl w.heap.size (some ⟨w.heap.size, 0, none⟩) 0 0 [] rfl (ownF_empty _ _ _ _ _ (Nat.le_refl _) (heap_alloc_new _ _)) _ n c _ rfl HF.out (by omega) (by simp) ?_)
  intro a1 c1' w5 ho2 hg2
  have hb5 : Below w.heap.size w w5 := ((Below.refl _ _).alloc (Nat.le_refl _) _).grown hg2 (by simp) (fun k hk => by simp [Value.ownBlock] at hk; omega)
  have HO5 : Hid (OwnR w.heap.size w5 a1 n c1' xs) := hid ⟨ho2, HOK.out⟩
  have HB5 := hid hb5; clear hb5 ho2 hg2
  go_wp2
  go_ret
  exact ⟨_, _, _, rfl, HO5.out, HB5.out⟩
/-- the first j numbers of column k -/
def colTo (xss : List (List RatD)) (k j : Nat) : List RatD := (List.range j).map fun i => qx (mx xss i) k
theorem colTo_succ (xss : List (List RatD)) (k j : Nat) : colTo xss k (j + 1) = colTo xss k j ++ [qx (mx xss j) k] := by unfold colTo; rw [List.range_succ, List.map_append]; rfl
theorem colTo_len (xss : List (List RatD)) (k j : Nat) : (colTo xss k j).length = j := by simp [colTo]
/-- the first q columns -/
def trTo (xss : List (List RatD)) (q : Nat) : List (List RatD) := (List.range q).map fun k => colTo xss k xss.length
theorem trTo_succ (xss : List (List RatD)) (q : Nat) : trTo xss (q + 1) = trTo xss q ++ [colTo xss q xss.length] := by unfold trTo; rw [List.range_succ, List.map_append]; rfl
theorem trTo_len (xss : List (List RatD)) (q : Nat) : (trTo xss q).length = q := by simp [trTo]
/-- The call returns a matrix of its own, its rows apart, and true; nothing that was there has turned. -/
def GivesTr (w : World) (L : List (List RatD)) (e : Ending) (w' : World) : Prop :=
  ∃ a n c, e = .returned (.tuple #[.slice a n c, .bool true]) ∧ MatS w.heap.size w'.heap.size w' a n c L ∧ Below w.heap.size w w'
set_option maxRecDepth 100000 in
set_option maxHeartbeats 12800000 in
theorem implTr {fz : Bool} {lo hi : Nat} (a : Option Addr) (n c : Nat) (xs : List (List RatD)) (m : Nat) (w : World) (hI : MatA fz lo hi w a n c xs) (hh : hi ≤ w.heap.size) (hv : matB xs m = true) (hn0 : 0 < n) (hn : n ≤ 1048576) (hm : m ≤ 1048576) :
    Calls Try.prog 25 #[.slice a n c] w (GivesTr w (trTo xs m)) := by
  have hl := hI.len
  have hrows : ∀ i, i < n → (mx xs i).length = m ∧ allV (mx xs i) = true := fun i hi => matB_out hv (by omega)
  have HV := hid (And.intro hv hrows); clear hv hrows
  have HL := hid hl; clear hl
  have hne0 : ((n : Int) == 0) = false := by simp; omega
  obtain ⟨b, off, rfl⟩ := matSome hI hn0
  obtain ⟨g1, g2, r0a, r0n, r0c, z0, hr0, _⟩ := matAt hI hn0
  obtain rfl : r0n = m := by have := hr0.len; rw [(HV.out.2 0 hn0).1] at this; exact this.symm
  have hms := hr0.small
  have z0w : w.cell? ⟨b, off, none⟩ = some (.slice r0a r0n r0c) := by simpa using z0
  have hbw : b < w.heap.size := by omega
  have HR0 := hid (And.intro hr0 z0); clear hr0 z0
  go_enter Try.func25, Try.ntmps25
  go_wp2_with fail
  go_loopw [15, 5] (fun i _ wr => ∃ k : Nat, i = .int .i64 k ∧ k ≤ n ∧ Hid (Below w.heap.size w wr)) (fun i _ _ => n - (intOf i).toNat)
  case atStart => exact ⟨0, rfl, by omega, hid (Below.refl _ _)⟩
  case round =>
    obtain ⟨k, rfl, hk, HB⟩ := hrel
    have hzr := HB.out.size
    have zwr : wr.cell? ⟨b, off, none⟩ = some (.slice r0a r0n r0c) := by rw [(bcell HB.out).1 _ _ hbw]; exact z0w
    by_cases hlt : k < n
    · have hIr := beMat hI HB.out hh
      obtain ⟨_, _, ra, rn, rc, d0, hr, _⟩ := matAt hIr hlt
      obtain rfl : r0n = rn := by have := hr.len; rw [(HV.out.2 k hlt).1] at this; exact this
      have hne : ((r0n : Int) != (r0n : Int)) = false := by simp
      have HI := hid (And.intro hIr hr); clear hIr hr
      go_wp2_with fail
      refine (implAllValid ra r0n rc (mx xs k) _ HI.out.2 (by omega)).mono ?_
      rintro e w1 ⟨rfl, hb1⟩
      rw [(HV.out.2 k hlt).2]
      have HB1 := hid (Below.calm HB.out hb1); clear hb1 zwr
      go_wp2_with fail
      go_roundw
      case rel => exact ⟨k + 1, by go_num, by omega, HB1⟩
      case measure => simp [intOf]; omega
    · obtain rfl : n = k := by omega
      go_wp2_with fail
      go_loopw [36, 6, 7, 8, 9] (fun i v _ _ _ wr => ∃ (q : Nat) (oo : Option Addr) (om oc : Nat) (vs : List Value), i = .int .i64 q ∧ v = .slice oo om oc ∧ q ≤ r0n ∧ Hid (OwnV 28 w.heap.size wr oo om oc vs ∧ SepV ratsQ w.heap.size wr.heap.size wr vs (trTo xs q)) ∧ Hid (Below w.heap.size w wr)) (fun i v _ _ _ _ => r0n - (intOf i).toNat)
      case atStart => exact ⟨0, _, 0, 0, [], rfl, rfl, by omega, hid ⟨ownV_nil _ _ _, SepV.nil _ _ _ _⟩, HB⟩
      case round =>
        obtain ⟨q, oo, om, oc, vs, rfl, rfl, hq, HO, HBo⟩ := hrel
        have hom : om = q := by have h1 := HO.out.1.len; have h2 := HO.out.2.1; rw [trTo_len] at h2; omega
        have homb : om ≤ 1048576 := by omega
        have HOM := hid hom; clear hom
        obtain ⟨wo, hwo⟩ : ∃ wo : World, wo = wr := ⟨_, rfl⟩
        rw [← hwo] at HO HBo ⊢
        clear hwo
        have hzo := HBo.out.size
        have zwo : wo.cell? ⟨b, off, none⟩ = some (.slice r0a r0n r0c) := by rw [(bcell HBo.out).1 _ _ hbw]; exact z0w
        by_cases hqlt : q < r0n
        · go_wp2_with fail
          go_loopw [41, 8, 9] (fun i v _ wr => ∃ (j : Nat) (ro : Option Addr) (rm rco : Nat), i = .int .i64 j ∧ v = .slice ro rm rco ∧ j ≤ n ∧ Hid (OwnR wo.heap.size wr ro rm rco (colTo xs q j)) ∧ Hid (Below wo.heap.size wo wr)) (fun i v _ _ => n - (intOf i).toNat)
          case atStart => exact ⟨0, _, 0, 0, rfl, rfl, by omega, hid (ownR_nil _ _), hid (Below.refl _ _)⟩
          case round =>
            obtain ⟨j, ro, rm, rco, rfl, rfl, hj, HR, HBr⟩ := hrel
            have hrmj : rm = j := by have h1 := HR.out.len; rw [colTo_len] at h1; exact h1.symm
            have hrmb : rm ≤ 1048576 := by omega
            have HRM := hid hrmj; clear hrmj
            have hzr := HBr.out.size
            by_cases hjlt : j < n
            · have hIr := beMat hI (Below.calm HBo.out HBr.out) hh
              obtain ⟨_, _, ra, rn, rc, d0, hr, _⟩ := matAt hIr hjlt
              obtain rfl : r0n = rn := by have := hr.len; rw [(HV.out.2 j hjlt).1] at this; exact this
              obtain ⟨rb, roff, rfl⟩ := ratsSome hr (by omega)
              obtain ⟨_, _, i1, i2, e0, e1, _⟩ := ratsAt hr hqlt
              have HI := hid (And.intro (And.intro hIr hr) (And.intro i1 i2)); clear hIr hr i1 i2
              go_wp2_with (at_builtin; refine wpAppF elemRat rfl (.tmp 44) (.tmp 52) rfl wo.heap.size ro rm rco _ rfl (HR.out.alloc _).1 _ 1 1 (flatR [⟨(qx (mx xs j) q).num, (qx (mx xs j) q).den⟩]) rfl (rats_one _ _ ⟨(qx (mx xs j) q).num, (qx (mx xs j) q).den⟩ 0 _ (Nat.zero_le _) (Nat.lt_succ_self _) (heap_alloc_new _ _)) (by omega) (by first | omega | (simp; omega)) ?_)
              intro a1 c1' w5 ho2 hg2
              have hb5 : Below wo.heap.size wo w5 := HR.out.grow1 HBr.out (Nat.le_refl _) (by omega) hg2
              have HO5 := hid (ownR_mk ho2 HR.out.2 HI.out.2); clear ho2 hg2
              have HB5 := hid hb5; clear hb5
              go_wp2_with fail
              go_roundw
              case rel => exact ⟨j + 1, a1, rm + 1, c1', by go_num, rfl, by omega, hid (by rw [colTo_succ]; exact HO5.out), HB5⟩
              case measure => simp [intOf]; omega
            · obtain rfl : n = j := by omega
              have hov : OwnV 28 w.heap.size wr oo om oc vs := HO.out.1.keep (Keeps.of_below HBr.out (Nat.le_refl _))
              have hsv : SepV ratsQ w.heap.size wo.heap.size wr vs (trTo xs q) := HO.out.2.keep ratsQOK (Keeps.of_below HBr.out (Nat.le_refl _))
              have HOV := hid (And.intro hov hsv); clear hov hsv
              go_wp2_with (at_builtin; refine wpAppV elemMat rfl (.tmp 55) (.tmp 57) rfl w.heap.size oo om oc vs rfl (HOV.out.1.alloc _) _ 1 1 [.slice ro rm rco] rfl (vals_one _ _ 28 _ rfl 0 _ (Nat.zero_le _) (Nat.lt_succ_self _) (heap_alloc_new _ _)) (by omega) (by first | omega | (simp; omega)) ?_)
              intro a1 c1' w5 ho2 hg2
              have hb5 : Below w.heap.size w w5 := HOV.out.1.grow1 (Below.calm HBo.out HBr.out) (Nat.le_refl _) (by omega) hg2
              have hz5 := hg2.size; simp at hz5
              obtain ⟨s, t, h1, h2, h3, h4⟩ := HR.out.headR (by omega)
              have hkk := grown_later HO.out.1 hg2 (s := s) (t := t) (by omega) (by simp; omega)
              have hrow : ratsQ s t w5 ro rm rco (colTo xs q n) := kpRats (SlA.al ratRep (hgRats h3 (Nat.le_refl _)) h2 _) hkk
              have hd5 : HeadI w5 s t := (h4.keep (Keeps.al (Keeps.refl s t _) h2 _) (Nat.le_refl _) (Nat.le_refl _)).keep hkk (Nat.le_refl _) (Nat.le_refl _)
              have hsv5 : SepV ratsQ w.heap.size wo.heap.size w5 vs (trTo xs q) := SepV.grown ratsQOK (SepV.keep ratsQOK HOV.out.2 (Keeps.al (Keeps.refl _ _ _) (by omega) _)) (HOV.out.1.alloc _) hg2 (by simp; omega)
              have HS5 := hid (hsv5.snoc (hi' := w5.heap.size) hrow hd5 (by omega) h1 (by omega) (by omega))
              have HO5 := hid ho2; have HB5 := hid hb5
              clear ho2 hg2 hb5 hz5 h1 h2 h3 h4 hkk hrow hd5 hsv5
              go_wp2_with fail
              go_roundw
              case rel => exact ⟨q + 1, a1, om + 1, c1', _, by go_num, rfl, by omega, hid ⟨HO5.out, by rw [trTo_succ, HL.out]; exact HS5.out⟩, HB5⟩
              case measure => simp [intOf]; omega
        · obtain rfl : r0n = q := by omega
          go_wp2_with fail
          go_ret2
          exact ⟨_, _, _, rfl, SepA.own HO.out.1 HO.out.2, HBo.out⟩
end Go.Proofs.Ytgannpmngkgejaa
