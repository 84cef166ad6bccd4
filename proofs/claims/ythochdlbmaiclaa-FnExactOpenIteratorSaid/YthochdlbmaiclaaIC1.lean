/- Walks: copying lists and lists of lists, each row in a block of its own. -/
import Derived.Test.YthochdlbmaiclaaApp0
import Derived.Test.YthochdlbmaiclaaMarkS
namespace Go.Proofs.Ythochdlbmaiclaa
set_option linter.unusedSimpArgs false
set_option linter.unusedVariables false
open Go.RowKit
theorem elemInt1 : ElemF 27 3 1 8 := ⟨Try.underlying27, by obtain ⟨i0, h1, h2, h3, h4⟩ := info_parts infoInt; exact ⟨i0, _, h1, h2, h3, h4, rfl⟩, by omega, by omega⟩
theorem elemRowI : Elem 22 27 24 := ⟨Try.underlying22, by obtain ⟨i0, h1, h2, h3, h4⟩ := info_parts infoRow; exact ⟨i0, _, h1, h2, h3, h4, rfl⟩, by omega⟩
theorem intsFlat {fz : Bool} {lo hi : Nat} {w : World} {a : Option Addr} {n c : Nat} {xs : List Int} (h : IntsA fz lo hi w a n c xs) : FlatA 1 lo hi w a n c (xs.map (Value.int .i64)) := by
  refine ⟨by simp [h.len], h.2.1, h.2.2.1, ints_oneCell .i64 xs, fun hn => ?_, h.2.2.2.2.2⟩
  obtain ⟨b, off, ha, hl, hb, hc, _⟩ := h.open hn
  refine ⟨b, off, ha, hl, hb, fun i u hu => ?_⟩
  have hi : i < xs.length := by have := (List.getElem?_eq_some_iff.1 hu).1; simpa using this
  rw [List.getElem?_map, List.getElem?_eq_getElem hi] at hu
  simp at hu; subst hu
  rw [hc i (by rw [← h.len]; exact hi), ix_lt hi]
theorem intsOf {base : Nat} {w : World} {a : Option Addr} {n c : Nat} {xs : List Int} (h : OwnF 3 1 base w a n c (xs.map (Value.int .i64))) (h64 : ∀ x ∈ xs, I64 x) : Own base w a n c xs := ⟨h.1, h64⟩
/-- behind the list there is room, if its capacity says so -/
def RoomA (s t : Nat) (w : World) (a : Option Addr) (n c : Nat) : Prop := n < c → ∃ b off, a = some ⟨b, off, none⟩ ∧ s ≤ b ∧ b < t ∧ (w.cell? ⟨b, off + n, none⟩).isSome = true ∧ w.frozen? ⟨b, off + n, none⟩ = false
theorem RoomA.keep {s t : Nat} {w w' : World} {a : Option Addr} {n c : Nat} (h : RoomA s t w a n c) (hk : Keeps s t w w') : RoomA s t w' a n c := fun hn => by
  obtain ⟨b, off, h1, h2, h3, h4, h5⟩ := h hn
  exact ⟨b, off, h1, h2, h3, by rw [World.cell?_of_block (w := w) (hk b h2 h3)]; exact h4, by rw [World.frozen?_of_block (w := w) (hk b h2 h3)]; exact h5⟩
theorem RoomA.wide {s t s' t' : Nat} {w : World} {a : Option Addr} {n c : Nat} (h : RoomA s t w a n c) (h1 : s' ≤ s) (h2 : t ≤ t') : RoomA s' t' w a n c := fun hn => by
  obtain ⟨b, off, g1, g2, g3, g⟩ := h hn
  exact ⟨b, off, g1, by omega, by omega, g⟩
/-- a list of numbers that can be appended to -/
def intsX : RowP (List Int) := fun lo hi w a n c xs => IntsA true lo hi w a n c xs ∧ RoomA lo hi w a n c
theorem intsXOK : RowPOK intsX := ⟨fun h hk => ⟨IntsA.keep h.1 hk, h.2.keep hk⟩, fun h h1 h2 => ⟨IntsA.wide h.1 h1 h2, h.2.wide h1 h2⟩⟩
theorem Own.headX {base : Nat} {w : World} {a : Option Addr} {n c : Nat} {xs : List Int} (h : Own base w a n c xs) (hb : base ≤ w.heap.size) (hn : 0 < n) : ∃ s t, base ≤ s ∧ t ≤ w.heap.size ∧ intsX s t w a n c xs ∧ HeadI w s t := by
  obtain ⟨s, t, g1, g2, g3, g4⟩ := Own.head h hb
  refine ⟨s, t, g1, g2, ⟨g3, fun hnc => ?_⟩, g4⟩
  rcases h.1.2 with ⟨h2, h3⟩ | ⟨g, cap, cur, hv, hbg, hg, h4, h5, h6, h7⟩
  · simp only [Value.slice.injEq] at h2; omega
  · simp only [Value.slice.injEq] at hv
    obtain ⟨rfl, _, rfl⟩ := hv
    obtain ⟨b, off, ha, k1, k2, _⟩ := g3.open hn
    simp only [Option.some.injEq, Addr.mk.injEq, and_true] at ha
    obtain ⟨rfl, rfl⟩ := ha
    refine ⟨g, 0, rfl, k1, k2, ?_, frozen_of_row w g (0 + n) cur _ hg⟩
    have hlt : n < cur.size := by omega
    simp [World.cell?, hg, hlt]
theorem run_append_ints {lo hi : Nat} {fz : Bool} {w : World} (ty : TypeId) (g : Nat) (hg : w.heap[g]? = some (.cells #[] 3 (0, 0)))
    (ao : Option Addr) (m c : Nat) (xs : List Int) (hI : IntsA fz lo hi w ao m c xs) (hb : m ≤ 16777216) :
    ∃ a' c' w' s t, (Builtin.append_ #[27, 27] ty #[.slice (some ⟨g, 0, none⟩) 0 0, .slice ao m c]).run Try.prog w = .ok (.slice a' m c') w' ∧ Below w.heap.size w w' ∧ w.heap.size ≤ s ∧ t ≤ w'.heap.size ∧ intsX s t w' a' m c' xs ∧ HeadI w' s t := by
  obtain ⟨a', c', w', hr, hB, ho, h1, h2, h3⟩ := run_append_empty elemInt1 ty g hg ao m c _ (intsFlat hI) hb
  by_cases hm : 0 < m
  · obtain ⟨s, t, g1, g2, g3, g4⟩ := Own.headX (intsOf (ho hm) hI.2.2.2.1) hB.size hm
    exact ⟨a', c', w', s, t, hr, hB, g1, g2, g3, g4⟩
  · refine ⟨a', c', w', w.heap.size, w.heap.size, hr, hB, Nat.le_refl _, hB.size, ⟨⟨hI.len, h1, h2, hI.2.2.2.1, fun h => absurd h hm, h3⟩, fun hmc => ?_⟩, fun h => by omega⟩
    exfalso
    obtain ⟨i0, z, hi0, hz0, hz1, hz2, hz3⟩ := elemInt1.info
    obtain rfl : m = 0 := by omega
    have hown : OwnF 3 1 g w (some ⟨g, 0, none⟩) 0 0 [] := ownF_empty 3 1 w g g (Nat.le_refl _) hg
    cases ao with
    | none =>
      have hc0 := hI.2.2.2.2.2 rfl
      subst hc0
      rw [run_append_owned_none (P := Try.prog) (w := w) g 27 ty 3 i0 1 elemInt1.under hi0 _ 0 _ hown.1] at hr
      simp only [Result.ok.injEq, Value.slice.injEq] at hr
      omega
    | some ad =>
      rw [run_append_room (P := Try.prog) w 27 ty 3 i0 elemInt1.under hi0 g 0 0 #[] hg ad 0 c [] (by simp) (fun j u hj => by simp at hj) (fun u hu => nomatch hu) (by omega) (by simp)] at hr
      simp only [Result.ok.injEq, Value.slice.injEq] at hr
      omega
/-- The call returns a list in a block of its own; nothing that was there has turned. -/
def GvApart (w : World) (n : Nat) (xs : List Int) (e : Ending) (w' : World) : Prop := ∃ a c s t, e = .returned (.slice a n c) ∧ Below w.heap.size w w' ∧ w.heap.size ≤ s ∧ t ≤ w'.heap.size ∧ intsX s t w' a n c xs ∧ HeadI w' s t
set_option maxHeartbeats 1600000 in
theorem implCopyInts {fz : Bool} {lo hi : Nat} (a : Option Addr) (n c : Nat) (xs : List Int) (w : World) (hI : IntsA fz lo hi w a n c xs) (hh : hi ≤ w.heap.size) (hn : n ≤ 1048576) :
    Calls Try.prog 54 #[.slice a n c] w (GvApart w n xs) := by
  obtain ⟨a1, c1, w3, s, t, hr, hb3, k1, k2, k3, k4⟩ := run_append_ints (w := w.alloc (.cells #[] 3)) 27 w.heap.size (heap_alloc_new _ _) a n c xs (hI.al hh _) (by omega)
  have HK := hid (And.intro hb3 (And.intro k1 (And.intro k2 (And.intro k3 k4)))); clear hb3 k1 k2 k3 k4 hI
  go_enter Try.func54, Try.ntmps54
  go_wp2_with (at_builtin; refine wpList_plain rfl fun K hK => ?_; unfold Oper.wp; simp [execOp, resolve, invoke, builtin, Act.eval, hr, Result.andThen]; refine hK _ _ ?_)
  go_wp2
  go_ret
  exact ⟨a1, c1, s, t, rfl, Below.trans (by repeat (first | with_reducible assumption | with_reducible exact Below.refl _ _ | with_reducible refine below_drewN ?_ _ | with_reducible refine Below.al ?_ (by first | with_reducible exact Nat.le_refl _ | omega | (simp; done) | (simp; omega) | exact Nat.le_refl _) _ | with_reducible refine Below.setCell ?_ (by first | with_reducible exact Nat.le_refl _ | omega | (simp; done) | (simp; omega) | exact Nat.le_refl _) _ | assumption | exact Below.refl _ _ | refine below_drewN ?_ _ | refine Below.al ?_ (by first | with_reducible exact Nat.le_refl _ | omega | (simp; done) | (simp; omega) | exact Nat.le_refl _) _ | refine Below.setCell ?_ (by first | with_reducible exact Nat.le_refl _ | omega | (simp; done) | (simp; omega) | exact Nat.le_refl _) _)) (HK.out.1.mono (by simp)), by have := HK.out.2.1; simp at this; omega, HK.out.2.2.1, HK.out.2.2.2.1, HK.out.2.2.2.2⟩
/-- The call returns a list of lists whose rows lie apart; nothing that was there has turned. -/
def GvRowsS (w : World) (n : Nat) (xss : List (List Int)) (e : Ending) (w' : World) : Prop := ∃ a c, e = .returned (.slice a n c) ∧ RowsS w.heap.size w'.heap.size w' a n c xss ∧ Below w.heap.size w w'
theorem grown_laterI {e : TypeId} {base : Nat} {w0 w w' : World} {a : Option Addr} {n c : Nat} {vs : List Value} (ho : OwnV e base w0 a n c vs) (hg : w.grownBy w' (Value.slice a n c).ownBlock) {s t : Nat} (h1 : w0.heap.size ≤ s) (h2 : t ≤ w.heap.size) : Keeps s t w w' := by
  intro k hk1 hk2
  refine hg.block _ (by omega) ?_
  intro e'
  have := ho.1.lt k e'.symm
  omega
theorem OwnV.grow1I {e : TypeId} {B B0 : Nat} {w wr w1 : World} {o1 : Obj} {a : Option Addr} {n c : Nat} {vs : List Value} (h : OwnV e B wr a n c vs) (hb : Below B0 w wr) (h0 : B0 ≤ B) (hB : B0 ≤ wr.heap.size) (hg : (wr.alloc o1).grownBy w1 (Value.slice a n c).ownBlock) : Below B0 w w1 :=
  (hb.alloc hB o1).grown hg (by simp; omega) (fun k hk => by have := h.1.lt k hk; omega)
theorem take_snocR (xss : List (List Int)) {k : Nat} (h : k < xss.length) : xss.take (k + 1) = xss.take k ++ [rx xss k] := by
  rw [List.take_succ_eq_append_getElem h, rx_lt h]
set_option maxRecDepth 100000 in
set_option maxHeartbeats 3200000 in
theorem implCopyRows {fz : Bool} {lo hi : Nat} (a : Option Addr) (n c : Nat) (xss : List (List Int)) (w : World) (hI : RowsA fz lo hi w a n c xss) (hh : hi ≤ w.heap.size) (hs : rowsSz xss ≤ 1048576) :
    Calls Try.prog 53 #[.slice a n c] w (GvRowsS w n xss) := by
  have hl := hI.len
  have hn : n ≤ 1048576 := by unfold rowsSz at hs; omega
  have HL := hid hl; have HS := hid hs; clear hl hs
  go_enter Try.func53, Try.ntmps53
  go_wp2_with fail
  go_loopw [8, 3, 5] (fun i v _ wr => ∃ (k : Nat) (oo : Option Addr) (om oc : Nat) (vs : List Value), i = .int .i64 k ∧ v = .slice oo om oc ∧ k ≤ n ∧ Hid (OwnV 27 w.heap.size wr oo om oc vs ∧ SepV intsQ w.heap.size wr.heap.size wr vs (xss.take k)) ∧ Hid (Below w.heap.size w wr)) (fun i _ _ _ => n - (intOf i).toNat)
  case atStart => exact ⟨0, _, 0, 0, [], rfl, rfl, by omega, hid ⟨ownV_nil _ _ _, SepV.nil _ _ _ _⟩, hid (Below.refl _ _)⟩
  case round =>
    obtain ⟨k, oo, om, oc, vs, rfl, rfl, hk, HO, HB⟩ := hrel
    have hom : om = k := by have h1 := HO.out.1.len; have h2 := HO.out.2.1; have h3 := HL.out; rw [List.length_take] at h2; omega
    have homb : om ≤ 1048576 := by omega
    have HOM := hid hom; clear hom
    have hzr := HB.out.size
    by_cases hlt : k < n
    · have hIr : RowsA fz lo hi wr a n c xss := SlA.be intsOK hI HB.out hh
      obtain ⟨b, off, rfl⟩ := hIr.some (by omega)
      obtain ⟨_, _, ra, rn, rc, d0, hr, _⟩ := hIr.at hlt
      have hrl := hr.len
      have hrn : rn ≤ 1048576 := by have := rowsSz_row HS.out k; omega
      have HI := hid (And.intro hIr hr); clear hIr hr hrl
      go_wp2_with fail
      refine (implCopyInts ra rn rc (rx xss k) wr HI.out.2 (by omega) hrn).mono ?_
      rintro e w2 ⟨a2, c2, s, t, rfl, hb2, k1, k2, k3, k4⟩
      have hz2 := hb2.size
      have HOV := hid (And.intro (HO.out.1.keep (Keeps.of_below hb2 (Nat.le_refl _))) (SepV.keep intsQOK HO.out.2 (Keeps.of_below hb2 (Nat.le_refl _))))
      have HB2 := hid (HB.out.trans (hb2.mono (by omega)))
      have HK := hid (And.intro k3.1 k4); clear hb2 k3 k4
      go_wp2_with (at_builtin; refine wpAppV elemRowI rfl (.tmp 12) (.tmp 15) rfl w.heap.size oo om oc vs rfl (HOV.out.1.alloc _) _ 1 1 [.slice a2 rn c2] rfl (vals_one _ _ 27 _ rfl 0 _ (Nat.zero_le _) (Nat.lt_succ_self _) (heap_alloc_new _ _)) (by omega) (by first | omega | (simp; omega)) ?_)
      intro a1 c1' w5 ho2 hg2
      have hb5 : Below w.heap.size w w5 := HOV.out.1.grow1I HB2.out (Nat.le_refl _) (by omega) hg2
      have hz5 := hg2.size; simp at hz5
      have hkk := grown_laterI HO.out.1 hg2 (s := s) (t := t) k1 (by simp; omega)
      have hrow : intsQ s t w5 a2 rn c2 (rx xss k) := IntsA.keep (HK.out.1.keep (Keeps.al (Keeps.refl _ _ _) k2 _)) hkk
      have hd5 : HeadI w5 s t := (HK.out.2.keep (Keeps.al (Keeps.refl s t _) k2 _) (Nat.le_refl _) (Nat.le_refl _)).keep hkk (Nat.le_refl _) (Nat.le_refl _)
      have hsv5 : SepV intsQ w.heap.size wr.heap.size w5 vs (xss.take k) := SepV.grown intsQOK (SepV.keep intsQOK HOV.out.2 (Keeps.al (Keeps.refl _ _ _) (by omega) _)) (HOV.out.1.alloc _) hg2 (by simp; omega)
      have HS5 := hid (hsv5.snoc (hi' := w5.heap.size) hrow hd5 (by omega) k1 (by omega) (by omega))
      have HO5 := hid ho2; have HB5 := hid hb5
      clear ho2 hg2 hb5 hz5 hkk hrow hd5 hsv5 k1 k2
      go_wp2_with fail
      go_roundw
      case rel => exact ⟨k + 1, a1, om + 1, c1', _, by go_num, rfl, by omega, hid ⟨HO5.out, by rw [take_snocR xss (by rw [HL.out]; exact hlt)]; exact HS5.out⟩, HB5⟩
      case measure => simp [intOf]; omega
    · obtain rfl : n = k := by omega
      go_wp2_with fail
      go_ret
      obtain rfl : om = n := HOM.out
      exact ⟨_, _, rfl, SepA.own HO.out.1 (by have h := HO.out.2; rwa [List.take_of_length_le (by rw [HL.out]; exact Nat.le_refl _)] at h), HB.out⟩
end Go.Proofs.Ythochdlbmaiclaa
