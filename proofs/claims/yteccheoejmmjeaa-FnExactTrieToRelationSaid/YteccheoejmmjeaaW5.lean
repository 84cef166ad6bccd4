/- Walks: copying a list of lists; the law FnExactShortestLength. -/
import Derived.Test.YteccheoejmmjeaaW4
namespace Go.Proofs.Yteccheoejmmjeaa
set_option linter.unusedSimpArgs false
set_option linter.unusedVariables false
open Go.RowKit
theorem infoRow : (Try.prog.info? 25).map (fun i => (i.zero, i.size, i.bytes)) = some (some (.slice none 0 0), 1, 24) := by kernel_rfl
/-- The call returns a list of lists in new memory; nothing that was there has turned. -/
def GivesRows (w : World) (xss : List (List Int)) (e : Ending) (w' : World) : Prop :=
  ∃ a n c, e = .returned (.slice a n c) ∧ RowsA true w.heap.size w'.heap.size w' a n c xss ∧ Below w.heap.size w w'
/-- the first k cells of block g hold slices that read as the first k rows; their blocks lie behind g -/
def RowsTo (g : Nat) (w : World) (n : Nat) (xss : List (List Int)) (k : Nat) : Prop :=
  ∃ vs, w.ownsRow g 25 1 (.slice (some ⟨g, 0, none⟩) n n) n vs ∧ ∀ i, i < k → ∃ ra rn rc, vs[i]? = some (.slice ra rn rc) ∧ IntsA true (g + 1) w.heap.size w ra rn rc (rx xss i)
theorem RowsTo.put {g : Nat} {w w1 : World} {n : Nat} {xss : List (List Int)} {k : Nat} (h : RowsTo g w n xss k) (hk : k < n) (hg : g < w.heap.size) (hb : Below w.heap.size w w1) {ra : Option Addr} {rn rc : Nat}
    (hr : IntsA true w.heap.size w1.heap.size w1 ra rn rc (rx xss k)) : RowsTo g (w1.setCell ⟨g, k, none⟩ (.slice ra rn rc)) n xss (k + 1) ∧ Below g w (w1.setCell ⟨g, k, none⟩ (.slice ra rn rc)) ∧
      (∃ v0, w1.cell? ⟨g, k, none⟩ = some v0) ∧ w1.frozen? ⟨g, k, none⟩ = false := by
  obtain ⟨vs, ho, hv⟩ := h
  have hlen : vs.length = n := by have := ho.1; omega
  have ho1 : w1.ownsRow g 25 1 (.slice (some ⟨g, 0, none⟩) n n) n vs := ho.kept (row := none) ⟨hb.os, hb.tape, hb.output, hb.size, fun k hk _ => hb.block k hk⟩ (.inr (by simp [Value.ownBlock]))
  obtain ⟨hs1, hs2⟩ := ho1.stored k (.slice ra rn rc)
  have hsz : (w1.setCell ⟨g, k, none⟩ (.slice ra rn rc)).heap.size = w1.heap.size := by simp [World.setCell]
  have hbs := hb.size
  have hset : Keeps (g + 1) w1.heap.size w1 (w1.setCell ⟨g, k, none⟩ (.slice ra rn rc)) := fun j h1 h2 => hs2.block j h2 (by intro e; cases e; omega)
  refine ⟨⟨_, hs1, fun i hi => ?_⟩, (hb.mono (by omega)).grown hs2 (by omega) (fun j hj => by cases hj; exact Nat.le_refl _), ?_, ho1.frozenAt k⟩
  · by_cases e : i = k
    · subst e
      exact ⟨ra, rn, rc, by simp [hlen, hk], by rw [hsz]; exact (hr.wide (by omega) (Nat.le_refl _)).keep hset⟩
    · obtain ⟨ra', rn', rc', g1, g2⟩ := hv i (by omega)
      exact ⟨ra', rn', rc', by rw [List.getElem?_set_ne (by omega)]; exact g1, by
        rw [hsz]; exact ((g2.keep (Keeps.of_below hb (Nat.le_refl _))).wide (Nat.le_refl _) hbs).keep hset⟩
  · have := ho1.cells (g := g) rfl k vs[k] (by simp [hlen, hk])
    rw [Addr.add_lit] at this; exact ⟨_, by simpa using this⟩

set_option maxHeartbeats 400000 in
theorem toRows {lo hi : Nat} (a : Option Addr) (n c : Nat) (xss : List (List Int)) (w : World) (hI : RowsA false lo hi w a n c xss) (hh : hi ≤ w.heap.size) (hn : n ≤ 1048576) (hr : ∀ i, (rx xss i).length ≤ 1048576) :
    Calls Try.prog 25 #[.slice a n c] w (GivesRows w xss) := by
  have hl := hI.len
  have HL := hid hl; clear hl
  obtain ⟨i0, hi0, hz0, hz1, hz2⟩ := info_parts infoRow
  go_enter Try.func25, Try.ntmps25
  go_wp2_with (at_make; refine wpList_make_full _ rfl _ _ 22 rfl w.heap.size 25 i0 (.slice none 0 0) 1 Try.underlying22 hi0 hz0 hz1 _ _ _ _ n rfl rfl rfl rfl ?b1 ?b2 ?b3 ?_)
  case b1 => rw [hz2]; omega
  case b2 => unfold maxLen; omega
  case b3 => exact Nat.le_refl _
  intro w1 hown hgrow
  have hb : Below w.heap.size w w1 := (Below.refl _ _).grown hgrow (Nat.le_refl _) (fun k h => by cases h)
  obtain ⟨g, hg⟩ : ∃ g, g = w.heap.size := ⟨_, rfl⟩
  rw [← hg] at hown ⊢
  have hgw : g < w1.heap.size := by
    have := hown.lt g rfl; exact this.2
  have HG := hid hg; clear hg
  have hT : RowsTo g w1 n xss 0 := ⟨_, hown, fun i hi => by omega⟩
  have HT := hid hT; clear hT
  have HH := hid (And.intro hh (And.intro hown hgrow)); clear hh hgrow hown
  have HR := hid hr; clear hr
  go_wp2
  go_loopw [4] (fun i wr => ∃ k : Nat, i = .int .i64 k ∧ k ≤ n ∧ RowsTo g wr n xss k ∧ Below g w1 wr) (fun i _ => n - (intOf i).toNat)
  case atStart => exact ⟨0, rfl, by omega, HT.out, Below.refl _ _⟩
  case round =>
    obtain ⟨k, rfl, hk2, hvs, hbr⟩ := hrel
    have HV := hid hvs; clear hvs
    have HB := hid hbr; clear hbr
    by_cases hlt : k < n
    · have hb' : Below w.heap.size w wr := hb.trans (HB.out.mono (by rw [HG.out]; exact Nat.le_refl _))
      have hIr : RowsA false lo hi wr a n c xss := hI.keep intsOK (Keeps.of_below hb' HH.out.1)
      obtain ⟨b, off, rfl⟩ := hI.some (by omega)
      obtain ⟨_, _, ra, rn, rc, hc, hr, _⟩ := hIr.at hlt
      have hhi : hi ≤ wr.heap.size := by have := HH.out.1; have := hb'.size; omega
      have hgr : g < wr.heap.size := by have := HB.out.size; omega
      have hrn : rn ≤ 1048576 := by have := HR.out k; have := hr.len; omega
      have HB' := hid hb'; clear hb'
      have HI := hid hr; clear hr hIr
      go_wp2_with fail
      refine (toInts ra rn rc _ wr HI.out hhi hrn).mono ?_
      rintro e w2 ⟨a2, n2, c2, rfl, ho2, hb2⟩
      obtain ⟨hP, hP2, ⟨v0, hcell⟩, hfz⟩ := HV.out.put hlt hgr hb2 ho2.ints
      have HP := hid hP; clear hP
      have HP2 := hid hP2; clear hP2
      have HB2 := hid hb2; clear hb2
      have HO2 := hid ho2; clear ho2
      go_wp2
      go_roundw
      case rel => exact ⟨k + 1, by go_num, by omega, HP.out, HB.out.trans HP2.out⟩
      case measure => simp [intOf]; omega
    · go_wp2
      go_ret
      have hb' : Below w.heap.size w wr := hb.trans (HB.out.mono (by rw [HG.out]; exact Nat.le_refl _))
      refine ⟨_, n, n, rfl, ?_, hb'⟩
      obtain ⟨vs, ho, hv⟩ := HV.out
      have hgr : g < wr.heap.size := by have := HB.out.size; omega
      refine ⟨HL.out, Nat.le_refl _, by unfold maxLen; omega, fun _ => ⟨g, 0, rfl, by rw [HG.out]; exact Nat.le_refl _, hgr, fun i hi => ?_⟩, fun h => nomatch h⟩
      obtain ⟨ra, rn, rc, g1, g2⟩ := hv i (by omega)
      refine ⟨[.slice ra rn rc], rx xss i, rfl, ?_, ⟨ra, rn, rc, rfl, g2.wide (by rw [← HG.out]; omega) (Nat.le_refl _)⟩, fun j hj => ?_⟩
      · rw [rx_lt (by rw [HL.out]; exact hi)]; simp [HL.out, hi]
      · obtain rfl : j = 0 := by omega
        have := ho.cells (g := g) rfl i _ g1
        rw [Addr.add_lit] at this
        exact ⟨by simpa using this, fun _ => ho.frozenAt _⟩
end Go.Proofs.Yteccheoejmmjeaa
