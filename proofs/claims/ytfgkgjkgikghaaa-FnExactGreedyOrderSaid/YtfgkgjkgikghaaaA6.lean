/- Walks: copying a slice of atoms. -/
import Derived.Test.YtfgkgjkgikghaaaA5
namespace Go.Proofs.Ytfgkgjkgikghaaa
set_option linter.unusedSimpArgs false
set_option linter.unusedVariables false
open Go.RowKit
theorem infoAtom : (Try.prog.info? 55).map (fun i => (i.zero, i.size, i.bytes)) = some (some (.agg #[.string ⟨#[]⟩, .slice none 0 0]), 2, 40) := by kernel_rfl
/-- the first 2k cells of block g hold the first k atoms; their lists lie behind g -/
def AtomsTo (g : Nat) (w : World) (n : Nat) (xs : List AtomD) (k : Nat) : Prop :=
  ∃ vs, w.ownsRow g 55 2 (.slice (some ⟨g, 0, none⟩) n n) n vs ∧ ∀ i, i < k → ∃ ra rn rc, vs[i * 2]? = some (.string (ax xs i).nm) ∧ vs[i * 2 + 1]? = some (.slice ra rn rc) ∧ IntsA true (g + 1) w.heap.size w ra rn rc (ax xs i).vs
theorem AtomsTo.put {g : Nat} {w w1 : World} {n : Nat} {xs : List AtomD} {k : Nat} (h : AtomsTo g w n xs k) (hk : k < n) (hg : g < w.heap.size) (hb : Below w.heap.size w w1) {ra : Option Addr} {rn rc : Nat}
    (hr : IntsA true w.heap.size w1.heap.size w1 ra rn rc (ax xs k).vs) :
    AtomsTo g ((w1.setCell ⟨g, k * 2, none⟩ (.string (ax xs k).nm)).setCell ⟨g, k * 2 + 1, none⟩ (.slice ra rn rc)) n xs (k + 1) ∧ Below g w ((w1.setCell ⟨g, k * 2, none⟩ (.string (ax xs k).nm)).setCell ⟨g, k * 2 + 1, none⟩ (.slice ra rn rc)) ∧
      (∃ v0, w1.cell? ⟨g, k * 2, none⟩ = some v0) ∧ (∃ v0, w1.cell? ⟨g, k * 2 + 1, none⟩ = some v0) ∧ w1.frozen? ⟨g, k * 2, none⟩ = false ∧ w1.frozen? ⟨g, k * 2 + 1, none⟩ = false := by
  obtain ⟨vs, ho, hv⟩ := h
  have hlen : vs.length = n * 2 := ho.1
  have ho1 : w1.ownsRow g 55 2 (.slice (some ⟨g, 0, none⟩) n n) n vs := ho.kept (row := none) ⟨hb.os, hb.tape, hb.output, hb.size, fun k hk _ => hb.block k hk⟩ (.inr (by simp [Value.ownBlock]))
  obtain ⟨hs1, hs2⟩ := ho1.stored (k * 2) (.string (ax xs k).nm)
  obtain ⟨ht1, ht2⟩ := hs1.stored (k * 2 + 1) (.slice ra rn rc)
  have hsz1 : (w1.setCell ⟨g, k * 2, none⟩ (.string (ax xs k).nm)).heap.size = w1.heap.size := szSet _ _ _
  have hsz : ((w1.setCell ⟨g, k * 2, none⟩ (.string (ax xs k).nm)).setCell ⟨g, k * 2 + 1, none⟩ (.slice ra rn rc)).heap.size = w1.heap.size := by rw [szSet, szSet]
  have hbs := hb.size
  have hset : Keeps (g + 1) w1.heap.size w1 ((w1.setCell ⟨g, k * 2, none⟩ (.string (ax xs k).nm)).setCell ⟨g, k * 2 + 1, none⟩ (.slice ra rn rc)) := Keeps.sc (Keeps.sc (Keeps.refl _ _ _) (.inl (by omega)) _) (.inl (by omega)) _
  refine ⟨⟨_, ht1, fun i hi => ?_⟩, ?_, ?_, ?_, ho1.frozenAt _, ho1.frozenAt _⟩
  · by_cases e : i = k
    · subst e
      refine ⟨ra, rn, rc, ?_, ?_, ?_⟩
      · rw [List.getElem?_set_ne (by omega), List.getElem?_set_self (by omega)]
      · rw [List.getElem?_set_self (by rw [List.length_set]; omega)]
      · rw [hsz]; exact (hr.wide (by omega) (Nat.le_refl _)).keep hset
    · obtain ⟨ra', rn', rc', g1, g2, g3⟩ := hv i (by omega)
      refine ⟨ra', rn', rc', ?_, ?_, ?_⟩
      · rw [List.getElem?_set_ne (by omega), List.getElem?_set_ne (by omega)]; exact g1
      · rw [List.getElem?_set_ne (by omega), List.getElem?_set_ne (by omega)]; exact g2
      · rw [hsz]; exact ((g3.keep (Keeps.of_below hb (Nat.le_refl _))).wide (Nat.le_refl _) hbs).keep hset
  · exact Below.setCell (Below.setCell (hb.mono (by omega)) (by dsimp only; omega) _) (by dsimp only; omega) _
  · have := ho1.cells (g := g) rfl (k * 2) (vs[k * 2]'(by omega)) (by simp)
    rw [Addr.add_lit] at this; exact ⟨_, by simpa using this⟩
  · have := ho1.cells (g := g) rfl (k * 2 + 1) (vs[k * 2 + 1]'(by omega)) (by simp)
    rw [Addr.add_lit] at this; exact ⟨_, by simpa using this⟩
/-- The call returns a slice of atoms in new memory; nothing that was there has turned. -/
def GvAtoms (w : World) (xs : List AtomD) (e : Ending) (w' : World) : Prop :=
  ∃ a n c, e = .returned (.slice a n c) ∧ AtomsA true w.heap.size w'.heap.size w' a n c xs ∧ Below w.heap.size w w'
set_option maxHeartbeats 1600000 in
theorem toAtoms {lo hi : Nat} (a : Option Addr) (n c : Nat) (xs : List AtomD) (w : World) (hI : AtomsA false lo hi w a n c xs) (hh : hi ≤ w.heap.size) (hs : atomsSz xs ≤ 1048576) :
    Calls Try.prog 20 #[.slice a n c] w (GvAtoms w xs) := by
  have hl := hI.len
  have hn : n ≤ 1048576 := by unfold atomsSz at hs; omega
  have HL := hid hl; clear hl
  have HS := hid hs; clear hs
  obtain ⟨i0, hi0, hz0, hz1, hz2⟩ := info_parts infoAtom
  go_enter Try.func20, Try.ntmps20
  go_wp2_with (at_make; refine wpList_make_full _ rfl _ _ 28 rfl w.heap.size 55 i0 (.agg #[.string ⟨#[]⟩, .slice none 0 0]) 2 Try.underlying28 hi0 hz0 hz1 _ _ _ _ n rfl rfl rfl rfl ?b1 ?b2 ?b3 ?_)
  case b1 => rw [hz2]; omega
  case b2 => unfold maxLen; omega
  case b3 => exact Nat.le_refl _
  intro w1 hown hgrow
  have hb : Below w.heap.size w w1 := (Below.refl _ _).grown hgrow (Nat.le_refl _) (fun k h => by cases h)
  obtain ⟨g, hg⟩ : ∃ g, g = w.heap.size := ⟨_, rfl⟩
  rw [← hg] at hown ⊢
  have hgw : g < w1.heap.size := by
    have := hown.lt g rfl; exact this.2
  have HG := hid hg; clear hg
  have hT : AtomsTo g w1 n xs 0 := ⟨_, hown, fun i hi => by omega⟩
  have HT := hid hT; clear hT
  have HH := hid (And.intro hown hgrow); clear hgrow hown
  go_wp2
  go_loopw [4] (fun i wr => ∃ k : Nat, i = .int .i64 k ∧ k ≤ n ∧ AtomsTo g wr n xs k ∧ Below g w1 wr) (fun i _ => n - (intOf i).toNat)
  case atStart => exact ⟨0, rfl, by omega, HT.out, Below.refl _ _⟩
  case round =>
    obtain ⟨k, rfl, hk2, hvs, hbr⟩ := hrel
    have HV := hid hvs; clear hvs
    have HB := hid hbr; clear hbr
    by_cases hlt : k < n
    · have hb' : Below w.heap.size w wr := hb.trans (HB.out.mono (by rw [HG.out]; exact Nat.le_refl _))
      have hIr := hI.be hb' hh
      obtain ⟨b, off, rfl⟩ := atomsSome hIr (by omega)
      obtain ⟨_, _, hsz, ra, rn, rc, d0, d1, hr, _⟩ := atomsAt hIr hlt
      have hhi : hi ≤ wr.heap.size := by have := hb'.size; omega
      have hgr : g < wr.heap.size := by have := HB.out.size; omega
      have HSA : Hid (szAtomD (ax xs k).nm (ax xs k).vs ≤ 1048576) := hid (by unfold szAtomD; exact atomsSz_at HS.out (by rw [HL.out]; exact hlt))
      have HB' := hid hb'; clear hb'
      have HI := hid (And.intro hIr hr); clear hr hIr
      go_wp2_with fail
      refine (toK_Atom (ax xs k).nm ra rn rc (ax xs k).vs wr ⟨hsz, HI.out.2⟩ hhi HSA.out).mono ?_
      rintro e w2 ⟨a2, n2, c2, rfl, ho2, hb2⟩
      obtain ⟨hP, hP2, ⟨v0, hcell⟩, ⟨v1, hcell1⟩, hfz, hfz1⟩ := HV.out.put hlt hgr hb2 ho2.2
      have HP := hid hP; clear hP
      have HP2 := hid hP2; clear hP2
      have HB2 := hid (And.intro hb2 ho2); clear hb2 ho2
      go_wp2
      go_roundw
      case rel => exact ⟨k + 1, by go_num, by omega, HP.out, HB.out.trans HP2.out⟩
      case measure => simp [intOf]; omega
    · go_wp2
      go_ret
      have hb' : Below w.heap.size w wr := hb.trans (HB.out.mono (by rw [HG.out]; exact Nat.le_refl _))
      refine ⟨_, n, n, rfl, ?_, hb'⟩
      obtain ⟨vs, ho, hv⟩ := HV.out
      have hgr : g < wr.heap.size := by have := HB.out.size; omega
      refine ⟨HL.out, Nat.le_refl _, by unfold maxLen; omega, fun _ => ⟨g, 0, rfl, by rw [HG.out]; exact Nat.le_refl _, hgr, fun i hi => ?_⟩, fun h => nomatch h⟩
      obtain ⟨ra, rn, rc, g1, g2, g3⟩ := hv i (by omega)
      have hnm : (ax xs i).nm.size ≤ 9223372036854775807 := by
        have := atomsSz_at HS.out (i := i) (by rw [HL.out]; exact hi); omega
      refine ⟨[.string (ax xs i).nm, .slice ra rn rc], ax xs i, rfl, ?_, ⟨ra, rn, rc, rfl, hnm, g3.wide (by rw [← HG.out]; omega) (Nat.le_refl _)⟩, fun j hj => ?_⟩
      · rw [ax_lt (by rw [HL.out]; exact hi)]; simp [HL.out, hi]
      · rcases (by omega : j = 0 ∨ j = 1) with rfl | rfl
        · have := ho.cells (g := g) rfl (i * 2) _ g1
          rw [Addr.add_lit] at this
          exact ⟨by simpa using this, fun _ => ho.frozenAt _⟩
        · have := ho.cells (g := g) rfl (i * 2 + 1) _ g2
          rw [Addr.add_lit] at this
          exact ⟨by simpa [Nat.add_assoc] using this, fun _ => ho.frozenAt _⟩
end Go.Proofs.Ytfgkgjkgikghaaa
