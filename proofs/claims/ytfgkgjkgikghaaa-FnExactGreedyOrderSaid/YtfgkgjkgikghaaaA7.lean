/- Walks: marking a slice of atoms. -/
import Derived.Test.YtfgkgjkgikghaaaA6
import Derived.Laws.BytesArg
namespace Go.Proofs.Ytfgkgjkgikghaaa
set_option linter.unusedSimpArgs false
set_option linter.unusedVariables false
open Go.RowKit
theorem conv1 (w : World) (x : Int) : (convert 65 9 (.slice (some ⟨w.heap.size, 0, none⟩) 1 1)).run Try.prog (w.alloc (.cells #[.int .u8 x] 5)) = .ok (.string (strOfNums [x])) (w.alloc (.cells #[.int .u8 x] 5)) :=
  run_convert_bytes_arg _ _ _ Try.underlying65 Try.underlying5 _ 0 1 1 [x] rfl (fun i hi => by
    obtain rfl : i = 0 := by omega
    simp) _ Try.underlying9
theorem strOne (x : Int) : (strOfNums [x]).size = 1 := rfl
/-- The call returns some string; nothing that was there has turned. -/
def SomeStr (w : World) (e : Ending) (w' : World) : Prop := ∃ s : ByteArray, e = .returned (.string s) ∧ Below w.heap.size w w'
def MtRel (w : World) (a b : Value) (wr : World) : Prop := ∃ (t : Nat) (s : ByteArray), a = .int .i64 t ∧ b = .string s ∧ s.size + t ≤ 4194304 ∧ Hid (Below w.heap.size w wr)
set_option maxHeartbeats 800000 in
theorem markTextAny (k : Nat) (w : World) (hk : k ≤ 4194304) : Calls Try.prog 48 #[.int .i64 k] w (SomeStr w) := by
  by_cases h0 : k = 0
  · subst h0
    go_enter Try.func48, Try.ntmps48
    go_wp2_with fail
    go_ret
    exact ⟨_, rfl, (by repeat (first | with_reducible assumption | with_reducible exact Below.refl _ _ | with_reducible refine below_drewN ?_ _ | with_reducible refine Below.al ?_ (by first | with_reducible exact Nat.le_refl _ | omega | (simp; done) | (simp; omega) | exact Nat.le_refl _) _ | with_reducible refine Below.setCell ?_ (by first | with_reducible exact Nat.le_refl _ | omega | (simp; done) | (simp; omega) | exact Nat.le_refl _) _ | assumption | exact Below.refl _ _ | refine below_drewN ?_ _ | refine Below.al ?_ (by first | with_reducible exact Nat.le_refl _ | omega | (simp; done) | (simp; omega) | exact Nat.le_refl _) _ | refine Below.setCell ?_ (by first | with_reducible exact Nat.le_refl _ | omega | (simp; done) | (simp; omega) | exact Nat.le_refl _) _))⟩
  · have h1 : 0 < k := by omega
    go_enter Try.func48, Try.ntmps48
    go_wp2_with fail
    go_loopw [0, 3] (fun a b wr => MtRel w a b wr) (fun a _ _ => (intOf a).toNat)
    case atStart => exact ⟨k, _, rfl, rfl, by show 0 + k ≤ _; omega, hid (Below.refl _ _)⟩
    case round =>
      obtain ⟨t, s, rfl, rfl, hs, HB⟩ := hrel
      by_cases ht : 0 < t
      · have hz := HB.out.size
        have hm0 : 0 ≤ (t : Int) % 10 := by omega
        have hm1 : (t : Int) % 10 < 10 := by omega
        have hcv := conv1 wr (48 + (t : Int) % 10)
        have hs1 := strOne (48 + (t : Int) % 10)
        generalize strOfNums [48 + (t : Int) % 10] = s1 at *
        have hsb : s1.size + s.size ≤ 9223372036854775807 := by omega
        have hsb2 : ¬ 9223372036854775807 < s1.size + s.size := by omega
        have HS1 := hid hs1; clear hs1
        have HB2 : Hid (Below w.heap.size w (wr.alloc (.cells #[.int .u8 (48 + (t : Int) % 10)] 5))) := hid (Below.al HB.out hz _)
        go_wp2_with fail
        go_roundw
        case rel => exact ⟨t / 10, s1 ++ s, by rw [show ((t / 10 : Nat) : Int) = (t : Int) / 10 by omega], rfl, by rw [ByteArray.size_append, HS1.out]; omega, HB2⟩
        case measure => simp [intOf]; omega
      · go_wp2_with fail
        go_ret
        exact ⟨_, rfl, HB.out⟩
/-- a cell that held a number holds a number, one that held a string a string; any other cell holds what it held -/
def CellQ (v v' : Value) : Prop := v' = v ∨ (∃ x x', v = .int .i64 x ∧ v' = .int .i64 x' ∧ I64 x') ∨ ∃ s s', v = .string s ∧ v' = .string s'
theorem CellM.q {v v' : Value} (h : CellM v v') : CellQ v v' := h.elim .inl (fun h => .inr (.inl h))
theorem CellQ.trans {a b c : Value} (h : CellQ a b) (k : CellQ b c) : CellQ a c := by
  rcases k with rfl | ⟨x, x', rfl, rfl, hx⟩ | ⟨x, x', rfl, rfl⟩
  · exact h
  · rcases h with h | ⟨y, y', rfl, _, _⟩ | ⟨y, y', _, h⟩
    · exact .inr (.inl ⟨x, x', h.symm, rfl, hx⟩)
    · exact .inr (.inl ⟨y, x', rfl, rfl, hx⟩)
    · cases h
  · rcases h with h | ⟨y, y', _, h, _⟩ | ⟨y, y', rfl, _⟩
    · exact .inr (.inr ⟨x, x', h.symm, rfl⟩)
    · cases h
    · exact .inr (.inr ⟨y, x', rfl, rfl⟩)
/-- w' is w with new blocks, but for numbers and strings in cells of the blocks from lo on and below hi -/
structure MarkedQ (lo hi : Nat) (w w' : World) : Prop where
  os : w'.os = w.os
  tape : w'.tape = w.tape
  output : w'.output = w.output
  size : w.heap.size ≤ w'.heap.size
  out : ∀ k, k < w.heap.size → (k < lo ∨ hi ≤ k) → w'.heap[k]? = w.heap[k]?
  cell : ∀ p v, w.cell? p = some v → ∃ v', w'.cell? p = some v' ∧ CellQ v v'
  frz : ∀ p, w.cell? p ≠ none → w'.frozen? p = w.frozen? p
theorem MarkedQ.of {lo hi : Nat} {w w' : World} (h : MarkedG lo hi w w') : MarkedQ lo hi w w' :=
  ⟨h.os, h.tape, h.output, h.size, h.out, fun p v hp => by obtain ⟨v', g1, g2⟩ := h.cell p v hp; exact ⟨v', g1, g2.q⟩, h.frz⟩
theorem MarkedQ.refl (lo hi : Nat) (w : World) : MarkedQ lo hi w w := ⟨rfl, rfl, rfl, Nat.le_refl _, fun _ _ _ => rfl, fun _ v h => ⟨v, h, .inl rfl⟩, fun _ _ => rfl⟩
theorem MarkedQ.trans {lo hi : Nat} {a b c : World} (h : MarkedQ lo hi a b) (k : MarkedQ lo hi b c) : MarkedQ lo hi a c := by
  have hs := h.size
  refine ⟨k.os.trans h.os, k.tape.trans h.tape, k.output.trans h.output, Nat.le_trans h.size k.size, fun i h1 h2 => (k.out i (by omega) h2).trans (h.out i h1 h2), fun p v hp => ?_, fun p hp => ?_⟩
  · obtain ⟨v', g1, g2⟩ := h.cell p v hp
    obtain ⟨v'', g3, g4⟩ := k.cell p v' g1
    exact ⟨v'', g3, g2.trans g4⟩
  · rw [k.frz p, h.frz p hp]
    cases hc : a.cell? p with
    | none => exact absurd hc hp
    | some v => obtain ⟨v', g1, _⟩ := h.cell p v hc; rw [g1]; exact fun h => nomatch h
theorem MarkedQ.keeps {lo hi lo' hi' : Nat} {a b : World} (h : MarkedQ lo hi a b) (hd : hi' ≤ lo ∨ hi ≤ lo') (hs : hi' ≤ a.heap.size) : Keeps lo' hi' a b := fun k h1 h2 => h.out k (by omega) (by omega)
theorem MarkedQ.below {lo hi B : Nat} {a b : World} (h : MarkedQ lo hi a b) (h1 : B ≤ lo) (h2 : B ≤ a.heap.size) : Below B a b := ⟨h.os, h.tape, h.output, h.size, fun k hk => h.out k (by omega) (.inl (by omega))⟩
theorem boxQ {lo hi : Nat} {w w' : World} (h : MarkedQ lo hi w w') {g : Nat} (o : Nat) (h1 : g < w.heap.size) (h2 : g < lo ∨ hi ≤ g) : w'.cell? ⟨g, o, none⟩ = w.cell? ⟨g, o, none⟩ := World.cell?_of_block (w := w) (h.out g h1 h2)
theorem markedQ_str {lo hi : Nat} {w : World} {b o : Nat} {s s' : ByteArray} (h : w.cell? ⟨b, o, none⟩ = some (.string s)) (h1 : lo ≤ b) (h2 : b < hi) : MarkedQ lo hi w (w.setCell ⟨b, o, none⟩ (.string s')) := by
  refine ⟨rfl, rfl, rfl, by rw [szSet]; exact Nat.le_refl _, fun k _ hk => ?_, fun p v hp => ?_, fun p _ => by simp⟩
  · rw [heap_setCell_other w ⟨b, o, none⟩ k _ (by show k ≠ b; omega)]
  · by_cases e : (⟨b, o, none⟩ : Addr) = p
    · subst e
      rw [h] at hp
      cases hp
      exact ⟨_, cset_same h, .inr (.inr ⟨s, s', rfl, rfl⟩)⟩
    · exact ⟨v, by rw [cset_other e]; exact hp, .inl rfl⟩
theorem IntsA.markedQ {lo hi lo' hi' : Nat} {w w' : World} {a : Option Addr} {n c : Nat} {xs : List Int} (h : IntsA true lo hi w a n c xs) (hm : MarkedQ lo' hi' w w') : ∃ ys, IntsA true lo hi w' a n c ys := by
  obtain ⟨h1, h2, h3, h4, h5, h6⟩ := h
  by_cases hn : 0 < n
  · obtain ⟨b, off, ha, hl, hb, hc⟩ := h5 hn
    have each : ∀ i, i < n → ∃ y : Int, I64 y ∧ w'.cell? ⟨b, off + i, none⟩ = some (.int .i64 y) := by
      intro i hi
      obtain ⟨v', g1, g2⟩ := hm.cell _ _ (hc i hi).1
      rcases g2 with rfl | ⟨_, y, _, rfl, hy⟩ | ⟨_, _, h, _⟩
      · exact ⟨ix xs i, by rw [ix_lt (by omega)]; exact h4 _ (List.getElem_mem _), g1⟩
      · exact ⟨y, hy, g1⟩
      · cases h
    obtain ⟨y, hy⟩ := Deep.choose_lt each
    refine ⟨(List.range n).map y, by simp, h2, h3, ?_, fun _ => ⟨b, off, ha, hl, hb, fun i hi => ⟨?_, fun hf => by rw [hm.frz _ (by rw [(hc i hi).1]; exact fun h => nomatch h)]; exact (hc i hi).2 hf⟩⟩, h6⟩
    · intro z hz
      obtain ⟨i, hi, rfl⟩ := List.mem_map.1 hz
      exact (hy i (by simpa using hi)).1
    · rw [(hy i hi).2]; simp [ix, hi]
  · exact ⟨xs, h1, h2, h3, h4, fun h => absurd h hn, h6⟩
def GivesMQ (lo hi : Nat) (w : World) (r : Int) (e : Ending) (w' : World) : Prop := e = .returned (.int .i64 r) ∧ MarkedQ lo hi w w'
/-- how many marks a slice of atoms takes -/
def atomCnt (xs : List AtomD) : Nat → Nat
  | 0 => 0
  | k + 1 => atomCnt xs k + (1 + (ax xs k).vs.length)
theorem atomCnt_le (xs : List AtomD) (k : Nat) : atomCnt xs k ≤ k + atomLens xs k := by
  induction k with
  | zero => simp [atomCnt]
  | succ k ih => simp only [atomCnt, atomLens]; omega
set_option maxHeartbeats 1600000 in
theorem markAtoms {lo hi : Nat} (a : Option Addr) (n c : Nat) (xs : List AtomD) (k : Nat) (w : World) (hI : AtomsA true lo hi w a n c xs) (hh : hi ≤ w.heap.size) (h1 : k ≤ 2097152) (hs : atomsSz xs ≤ 1048576) :
    Calls Try.prog 31 #[.slice a n c, .int .i64 k] w (GivesMQ lo hi w ((k + atomCnt xs n : Nat) : Int)) := by
  have hl := hI.len
  have hsm := hI.small
  have HL := hid hl; clear hl
  have HS := hid hs; clear hs
  go_enter Try.func31, Try.ntmps31
  go_wp2_with fail
  go_loopw [1, 5] (fun q i wr => ∃ (j t : Nat), i = .int .i64 j ∧ q = .int .i64 t ∧ Hid (t = k + atomCnt xs j) ∧ t ≤ 3145728 ∧ j ≤ n ∧ Hid (MarkedQ lo hi w wr)) (fun _ i _ => n - (intOf i).toNat)
  case atStart => exact ⟨0, _, rfl, rfl, hid (by simp [atomCnt]), by omega, by omega, hid (MarkedQ.refl _ _ _)⟩
  case round =>
    obtain ⟨j, t, rfl, rfl, HT, ht, hj, HM⟩ := hrel
    by_cases hlt : j < n
    · obtain ⟨b, off, rfl⟩ := atomsSome hI (by omega)
      obtain ⟨g1, g2, hsz, ra, rn, rc, d0, d1, hr, hfz⟩ := atomsAt hI hlt
      obtain ⟨v0, e0, q0⟩ := HM.out.cell _ _ d0
      obtain ⟨s0, rfl⟩ : ∃ s, v0 = .string s := by
        rcases q0 with rfl | ⟨_, _, h, _⟩ | ⟨_, s, _, rfl⟩
        · exact ⟨_, rfl⟩
        · cases h
        · exact ⟨s, rfl⟩
      obtain ⟨v1, e1, q1⟩ := HM.out.cell _ _ d1
      obtain rfl : v1 = .slice ra rn rc := by
        rcases q1 with rfl | ⟨_, _, h, _⟩ | ⟨_, _, h, _⟩
        · rfl
        · cases h
        · cases h
      have hf0 : wr.frozen? ⟨b, off + j * 2, none⟩ = false := by rw [HM.out.frz _ (by rw [d0]; exact fun h => nomatch h)]; exact (hfz rfl).1
      have hzr := HM.out.size
      have hvl : (ax xs j).vs.length = rn := hr.len
      have hrn2 : rn ≤ 1048576 := by have := atomsSz_at HS.out (i := j) (by rw [HL.out]; exact hlt); omega
      have hcb : k + atomCnt xs (j + 1) ≤ 3145728 := by
        have a1 := atomCnt_le xs (j + 1)
        have a2 := atomLens_mono (xs := xs) (i := j + 1) (k := xs.length) (by rw [HL.out]; omega)
        have a3 := HS.out; have a4 := HL.out; unfold atomsSz at a3; omega
      have hcb2 : t + 1 + rn = k + atomCnt xs (j + 1) := by have := HT.out; simp only [atomCnt]; omega
      have HI := hid (And.intro hI (And.intro hr (And.intro d0 (And.intro d1 (And.intro hvl hfz))))); clear hI hr d0 d1 hvl hfz q0 q1
      have HCB := hid hcb2; clear hcb2
      go_wp2_with fail
      refine (markTextAny t _ (by omega)).mono ?_
      rintro e w3 ⟨s3, rfl, hb3⟩
      have e0' : w3.cell? ⟨b, off + j * 2, none⟩ = some (.string s0) := by rw [(bcell hb3).1 _ _ (by omega)]; exact e0
      have e1' : w3.cell? ⟨b, off + j * 2 + 1, none⟩ = some (.slice ra rn rc) := by rw [(bcell hb3).1 _ _ (by omega)]; exact e1
      have f0' : w3.frozen? ⟨b, off + j * 2, none⟩ = false := by rw [(bcell hb3).2 _ _ (by omega)]; exact hf0
      have hM3 : MarkedQ lo hi w w3 := HM.out.trans (.of (.of_below hb3))
      have hM4 := hM3.trans (markedQ_str (s' := s3) e0' g1 g2)
      have e1'' : (w3.setCell ⟨b, off + j * 2, none⟩ (.string s3)).cell? ⟨b, off + j * 2 + 1, none⟩ = some (.slice ra rn rc) := by rw [cset_other (by intro h; simp only [Addr.mk.injEq] at h; omega)]; exact e1'
      obtain ⟨ys, hy⟩ := HI.out.2.1.markedQ hM4
      have HY := hid hy; clear hy
      have HM4 := hid hM4; clear hM4 hM3 hb3 e0 e1
      go_wp2_with fail
      refine (markInts ra rn rc ys ((t : Int) + 1) _ HY.out (by omega) (by omega) hrn2).mono ?_
      rintro e w5 ⟨rfl, hm5, _⟩
      have HM5 := hid (HM4.out.trans (.of (.of_marked hm5))); clear hm5
      go_wp2_with fail
      go_roundw
      case rel => exact ⟨j + 1, t + 1 + rn, by go_num, by go_num, hid HCB.out, by have := HCB.out; omega, by omega, HM5⟩
      case measure => simp [intOf]; omega
    · go_wp2_with fail
      go_ret
      obtain rfl : j = n := by omega
      exact ⟨by rw [HT.out]; rfl, HM.out⟩
end Go.Proofs.Ytfgkgjkgikghaaa
