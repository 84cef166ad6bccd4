/- Walks: the program's leapfrog intersection. -/
import Derived.Test.YtkhilfgkejienaaLeapM
import Derived.Test.YtkhilfgkejienaaVals
import Derived.Test.YtkhilfgkejienaaW6
import Derived.Deep.Slices
namespace Go.Proofs.Ytkhilfgkejienaa
set_option linter.unusedSimpArgs false
set_option linter.unusedVariables false
open Go.RowKit
theorem elemRow : Elem 24 26 24 := ⟨Try.underlying24, by obtain ⟨i0, h1, h2, h3, h4⟩ := info_parts infoRow; exact ⟨i0, _, h1, h2, h3, h4, rfl⟩, by omega⟩
/-- the headers of the rows -/
def HdrA (fz : Bool) (lo hi : Nat) (w : World) (hdr : Nat → Value) (xss : List (List Int)) : Prop := ∀ i, i < xss.length → ∃ ra rn rc, hdr i = .slice ra rn rc ∧ IntsA fz lo hi w ra rn rc (rx xss i)
theorem rowsA_hdrs {fz : Bool} {lo hi : Nat} {w : World} {b off n c : Nat} {xss : List (List Int)} (h : RowsA fz lo hi w (some ⟨b, off, none⟩) n c xss) :
    ∃ hdr : Nat → Value, HdrA fz lo hi w hdr xss ∧ ∀ i, i < n → w.cell? ⟨b, off + i, none⟩ = some (hdr i) := by
  have hl := h.len
  have each : ∀ i, i < n → ∃ v : Value, (∃ ra rn rc, v = .slice ra rn rc ∧ IntsA fz lo hi w ra rn rc (rx xss i)) ∧ w.cell? ⟨b, off + i, none⟩ = some v := by
    intro i hi'
    obtain ⟨_, _, ra, rn, rc, h1, h2, _⟩ := h.at hi'
    exact ⟨_, ⟨ra, rn, rc, rfl, h2⟩, h1⟩
  haveI : Inhabited Value := ⟨undef⟩
  obtain ⟨hdr, hh⟩ := Deep.choose_lt each
  exact ⟨hdr, fun i hi' => (hh i (by omega)).1, fun i hi' => (hh i hi').2⟩
theorem HdrA.keep {fz : Bool} {lo hi : Nat} {w w' : World} {hdr : Nat → Value} {xss : List (List Int)} (h : HdrA fz lo hi w hdr xss) (hk : Keeps lo hi w w') : HdrA fz lo hi w' hdr xss := fun i hi' => by
  obtain ⟨ra, rn, rc, h1, h2⟩ := h i hi'
  exact ⟨ra, rn, rc, h1, h2.keep hk⟩
/-- headers in the order of the first i lists -/
def hdrs (hdr : Nat → Value) (xss : List (List Int)) (i : Nat) : List Value := (ordIx xss i).map hdr
theorem hdrs_len (hdr : Nat → Value) (xss : List (List Int)) (i : Nat) : (hdrs hdr xss i).length = i := by simp [hdrs, ordIx_len]
theorem hdrs_at {hdr : Nat → Value} {xss : List (List Int)} {i j : Nat} (h : j < i) : (hdrs hdr xss i)[j]? = some (hdr (ox (ordIx xss i) j)) := by
  have hl := ordIx_len xss i
  rw [ox_lt (by omega)]; simp [hdrs, hl, h]
theorem ox_bound {xss : List (List Int)} {i j : Nat} (h : j < i) : ox (ordIx xss i) j < i := by
  have hl := ordIx_len xss i
  rw [ox_lt (by omega)]; exact ordIx_lt xss i _ (List.getElem_mem _)
/-- the first element of place j of the order -/
noncomputable def key0 (xss : List (List Int)) (i j : Nat) : Int := ix (rx xss (ox (ordIx xss i) j)) 0
noncomputable def insAt (xss : List (List Int)) (i k : Nat) : Nat := insK (key0 xss i) (ix (rx xss i) 0) k
theorem insAt_step {xss : List (List Int)} {i k : Nat} (h : ix (rx xss i) 0 < key0 xss i k) : insAt xss i (k + 1) = insAt xss i k := by
  unfold insAt; simp only [insK]; rw [if_pos h]
theorem insAt_stop {xss : List (List Int)} {i k : Nat} (h : key0 xss i k ≤ ix (rx xss i) 0) : insAt xss i (k + 1) = k + 1 := by
  unfold insAt; simp only [insK]; rw [if_neg (by omega)]
theorem hdrs_succ {hdr : Nat → Value} {xss : List (List Int)} {i k : Nat} (h : insAt xss i i = k) : hdrs hdr xss (i + 1) = ((hdrs hdr xss i).take k ++ [hdr i]) ++ (hdrs hdr xss i).drop k := by
  have h2 : insK (fun j => ix (rx xss ((ordIx xss i).getD j 0)) 0) (ix (rx xss i) 0) (ordIx xss i).length = k := by rw [ordIx_len]; exact h
  simp only [hdrs, ordIx]
  rw [h2]
  simp [List.map_append, List.map_take, List.map_drop]

theorem cset_same9 {w : World} {a : Addr} {v u : Value} (h : w.cell? a = some u) : (w.setCell a v).cell? a = some v := by
  apply World.cell?_setCell_same <;> assumption
theorem cset_other9 {w : World} {a b : Addr} {v : Value} (h : a ≠ b) : (w.setCell a v).cell? b = w.cell? b := by
  apply World.cell?_setCell_other <;> assumption
/-- block g holds the places p -/
def AtA (g : Nat) (w : World) (k : Nat) (p : List Nat) : Prop := w.ownsRow g 3 1 (.slice (some ⟨g, 0, none⟩) k k) k (p.map fun x : Nat => Value.int .i64 (x : Int))
theorem AtA.cell {g : Nat} {w : World} {k : Nat} {p : List Nat} (h : AtA g w k p) {q : Nat} (hq : q < k) : w.cell? ⟨g, q, none⟩ = some (.int .i64 (ox p q : Nat)) ∧ w.frozen? ⟨g, q, none⟩ = false := by
  have hl : p.length = k := by have := h.1; simpa using this
  refine ⟨?_, h.frozenAt q⟩
  have := h.cells (g := g) rfl q (.int .i64 (ox p q : Nat)) (by rw [List.getElem?_map, List.getElem?_eq_getElem (by omega), ox_lt (by omega)]; rfl)
  rw [Addr.add_lit] at this
  simpa using this
theorem AtA.keep {g : Nat} {w w' : World} {k : Nat} {p : List Nat} (h : AtA g w k p) (hk : w'.heap[g]? = w.heap[g]?) : AtA g w' k p := by
  obtain ⟨h1, h2⟩ := h
  refine ⟨h1, ?_⟩
  rcases h2 with ⟨h2, _⟩ | ⟨g', cap, cur, hv, hb, hg, rest⟩
  · cases h2
  · simp only [Value.slice.injEq, Option.some.injEq, Addr.mk.injEq, and_true, true_and] at hv
    obtain ⟨rfl, rfl⟩ := hv
    exact .inr ⟨g, k, cur, rfl, hb, by rw [hk]; exact hg, rest⟩
theorem AtA.set {g : Nat} {w : World} {k : Nat} {p : List Nat} (h : AtA g w k p) (q v : Nat) : AtA g (w.setCell ⟨g, q, none⟩ (.int .i64 (v : Int))) k (p.set q v) := by
  have := (h.stored q (.int .i64 (v : Int))).1
  unfold AtA
  rw [List.map_set]; exact this
theorem AtA.lt {g : Nat} {w : World} {k : Nat} {p : List Nat} (h : AtA g w k p) : g < w.heap.size := (World.ownsRow.lt h g rfl).2
/-- The call returns a new list and a number; nothing that was there has turned. -/
def GivesOwn2 (w : World) (xs : List Int) (r : Int) (e : Ending) (w' : World) : Prop :=
  ∃ a n c, e = .returned (.tuple #[.slice a n c, .int .i64 r]) ∧ Own w.heap.size w' a n c xs ∧ Below w.heap.size w w'
set_option maxHeartbeats 3200000 in
set_option maxRecDepth 100000 in
theorem implLeap {fz : Bool} {lo hi : Nat} (b off : Nat) (n c : Nat) (xss : List (List Int)) (w : World) (hI : RowsA fz lo hi w (some ⟨b, off, none⟩) n c xss) (hh : hi ≤ w.heap.size) (hr : ∀ i, (rx xss i).length ≤ 1048576) (hn : n ≤ 1048576)
    (hE : ascAll xss = true) (hS : shF xss ≠ 0) :
    Calls Try.prog 6 #[.slice (some ⟨b, off, none⟩) n c] w (GivesOwn2 w (leapF xss).1 (leapF xss).2) := by
  have hl := hI.len
  have HL := hid hl; clear hl
  have HR := hid hr; clear hr
  have HE := hid hE; clear hE
  obtain ⟨hdr, hH, hcell⟩ := rowsA_hdrs hI
  have HH := hid hH; clear hH
  have HC := hid hcell; clear hcell
  obtain ⟨s, hs⟩ : ∃ s, shF xss = s := ⟨_, rfl⟩
  have hs1 : s ≠ 0 := by rw [← hs]; exact hS
  have hb0 : (s == 0) = false := by simpa using hs1
  have HS := hid hs
  have HS0 := hid hs
  have HS1 := hid hs1
  clear hs hs1 hS
  obtain ⟨hok, hpos', _⟩ := leap_start HE.out (by rw [HS0.out]; exact HS1.out)
  have hpos : ∀ i, i < n → 0 < (rx xss i).length := fun i hi => hpos' i (by rw [HL.out]; exact hi)
  have hrun := leapF_run HE.out (by rw [HS0.out]; exact HS1.out)
  have HOK := hid hok; clear hok hpos'
  have HRUN := hid hrun; clear hrun
  have HP := hid hpos; clear hpos
  go_enter Try.func6, Try.ntmps6
  go_wp2_with fail
  refine (implAscL _ n c xss w hI).mono ?_
  rintro e w1 ⟨rfl, m1, rfl⟩
  rw [HE.out]
  go_wp2_with fail
  refine (implShort _ n c xss _ (SlA.drewN intsOK hI m1)).mono ?_
  rintro e w2 ⟨rfl, m2, rfl⟩
  rw [HS.out]
  go_wp2
  go_loopg [4, 24] n (fun gk v i wr => ∃ (k : Nat) (ao : Option Addr) (co : Nat), n - k ≤ gk ∧ i = .int .i64 k ∧ v = .slice ao k co ∧ k ≤ n ∧ OwnV 26 w.heap.size wr ao k co (hdrs hdr xss k) ∧ Below w.heap.size w wr)
  case atStart => exact ⟨0, none, 0, by omega, rfl, rfl, by omega, ownV_nil _ _ _, below_drewN (Below.refl _ _) _⟩
  case round =>
    obtain ⟨k, ao, co, hgk, rfl, rfl, hk, hown, hbel⟩ := hrel
    have HO := hid hown; clear hown
    have HB := hid hbel; clear hbel
    by_cases hlt : k < n
    · have hc : wr.cell? ⟨b, off + k, none⟩ = some (hdr k) := by rw [(Keeps.of_below HB.out hh : Keeps lo hi w wr) |> fun hk => World.cell?_of_block (w := w) (HB.out.block b (by have := (hI.at hlt).2.1; omega))]; exact HC.out k hlt
      obtain ⟨ra, rn, rc, hhk, hrk⟩ := (HH.out.keep (Keeps.of_below HB.out hh)) k (by rw [HL.out]; exact hlt)
      rw [hhk] at hc
      have hrn : 0 < rn := by have := hrk.len; have := HP.out k hlt; omega
      obtain ⟨b1, o1, rfl, _, _, hc1, _⟩ := hrk.open hrn
      have hc10 := hc1 0 hrn
      simp only [Nat.add_zero] at hc10
      have HHK := hid hhk; clear hhk hc1 hrk
      go_wp2
      go_loopg [7] k (fun gj v wq => ∃ (j : Nat), j ≤ gj ∧ v = .int .i64 j ∧ j ≤ k ∧ insAt xss k k = insAt xss k j ∧ ∃ q, wq = wr.drewN q)
      case atStart => exact ⟨k, Nat.le_refl _, rfl, by omega, rfl, 0, rfl⟩
      case round =>
        obtain ⟨j, hgj, rfl, hj, hins, q, rfl⟩ := hrel
        have HI := hid hins; clear hins
        cases j with
        | zero =>
          go_wp2
          go_quiet (fail)
          go_wp2
          have hord := HO.out.vals
          have HORD := hid hord; clear hord
          have hzw : w.heap.size ≤ wr.heap.size := HB.out.size
          have hk16 : k ≤ 1048576 := by omega
          go_region_law (first
            | (refine stepAppV0 elemRow rfl (.tmp 47) (.tmp 50) rfl wr.heap.size _ _ rfl (ownV_empty _ _ wr.heap.size _ (by simp) (by first | exact at0 _ _ | exact at0' _ _ _ | exact at1 _ _ _)) _ _ _ _ rfl (valsTake (HORD.out.keep (Keeps.of_below (B := wr.heap.size) (by first | exact ((below_drewN (Below.refl wr.heap.size wr) _).alloc (by simp; try omega) _) | exact (((below_drewN (Below.refl wr.heap.size wr) _).alloc (by simp; try omega) _).alloc (by simp; try omega) _)) (Nat.le_refl _))) (Nat.zero_le _)) (by omega) (by simp; try omega) ?_; intro a51 c51 w51 h51 g51; have b51 : Below wr.heap.size wr w51 := Below.grown (by first | exact ((below_drewN (Below.refl wr.heap.size wr) _).alloc (by simp; try omega) _) | exact (((below_drewN (Below.refl wr.heap.size wr) _).alloc (by simp; try omega) _).alloc (by simp; try omega) _)) g51 (by simp; try omega) (fun k hk => by simp [Value.ownBlock] at hk; omega))
            | (refine stepAppV elemRow rfl (.tmp 51) (.tmp 53) rfl wr.heap.size _ _ _ _ rfl (by first | exact h51 | exact h51.alloc _) _ _ _ [.slice (some ⟨b1, o1, none⟩) rn rc] rfl (vals_one (lo := 0) (hi := w51.heap.size + 1) _ _ 26 _ rfl (by omega) (by have hz51 := g51.size; simp at hz51 ⊢; try omega) (by first | exact at0 _ _ | (rw [g51.block _ (by simp; try omega) (by simp [Value.ownBlock])]; first | exact at1 _ _ _ | exact at0' _ _ _))) (by omega) (by have := b51.size; simp; omega) ?_; intro a54 c54 w54 h54 g54; have b54 : Below wr.heap.size wr w54 := Below.grown (by first | exact b51 | exact b51.alloc b51.size _) g54 (by have := b51.size; simp; omega) (fun k hk => (h51.1.lt k hk).1))
            | (refine stepAppV elemRow rfl (.tmp 54) (.tmp 57) rfl wr.heap.size _ _ _ _ rfl h54 _ _ _ _ rfl (HORD.out.keep (Keeps.of_below b54 (Nat.le_refl _))) (by omega) b54.size ?_; intro a58 c58 w58 h58 g58; have b58 : Below wr.heap.size wr w58 := Below.grown b54 g58 b54.size (fun k hk => (h54.1.lt k hk).1)))
          all_goals
            have hfin : OwnV 26 w.heap.size w58 a58 (k + 1) c58 (hdrs hdr xss (k + 1)) := by
              rw [hdrs_succ (k := 0) HI.out, HHK.out, Nat.add_comm k 1]
              exact h58.low hzw
            have HF := hid (And.intro hfin (HB.out.trans (b58.mono hzw)))
            clear hfin h51 h54 h58 g51 g54 g58 b51 b54 b58
            go_wp2
            go_roundg (n - (k + 1))
            case measure => omega
            case rel => exact ⟨k + 1, a58, c58, Nat.le_refl _, by go_num, by rw [Nat.add_comm k 1], by omega, HF.out.1, HF.out.2⟩
        | succ j =>
          have hoc := HO.out.vals
          obtain ⟨b2, o2, rfl, _, _, hc2⟩ := hoc.open (by omega)
          have hcj := hc2 j _ (hdrs_at (by omega))
          obtain ⟨sa, sn, sc, hsv, hsr⟩ := (HH.out.keep (Keeps.of_below HB.out hh)) (ox (ordIx xss k) j) (by have := ox_bound (xss := xss) (i := k) (j := j) (by omega); have := HL.out; omega)
          rw [hsv] at hcj
          have hsn : 0 < sn := by have := hsr.len; have := HP.out (ox (ordIx xss k) j) (by have := ox_bound (xss := xss) (i := k) (j := j) (by omega); omega); omega
          obtain ⟨b3, o3, rfl, _, _, hc3, _⟩ := hsr.open hsn
          have hc30 := hc3 0 hsn
          simp only [Nat.add_zero] at hc30
          clear hc3 hc2 hsr hoc hsv
          by_cases hcmp : ix (rx xss k) 0 < ix (rx xss (ox (ordIx xss k) j)) 0
          · go_wp2
            go_quiet (fail)
            go_wp2
            go_roundg j
            case measure => omega
            case rel => exact ⟨j, Nat.le_refl _, by go_num, by omega, by rw [HI.out, insAt_step hcmp], by first | exact ⟨_, rfl⟩ | exact ⟨_, dd⟩⟩
          · go_wp2
            go_quiet (fail)
            go_wp2
            have hord := HO.out.vals
            have HORD := hid hord; clear hord
            have hzw : w.heap.size ≤ wr.heap.size := HB.out.size
            have hk16 : k ≤ 1048576 := by omega
            have hkco : k ≤ co := HORD.out.2.1
            have hjco : (j : Int) + 1 ≤ (co : Int) := by omega
            have hjk : (j : Int) + 1 ≤ (k : Int) := by omega
            have hj0 : (0 : Int) ≤ (j : Int) + 1 := by omega
            have hcnt : j + 1 + 1 + (k - (j + 1)) = k + 1 := by omega
            have HCN := hid hcnt; clear hcnt
            go_region_law (first
              | (refine stepAppV0 elemRow rfl (.tmp 47) (.tmp 50) rfl wr.heap.size _ _ rfl (ownV_empty _ _ wr.heap.size _ (by simp) (by first | exact at0 _ _ | exact at0' _ _ _ | exact at1 _ _ _)) _ _ _ _ rfl (valsTake (j := j + 1) (HORD.out.keep (Keeps.of_below (B := wr.heap.size) (by first | exact ((below_drewN (Below.refl wr.heap.size wr) _).alloc (by simp; try omega) _) | exact (((below_drewN (Below.refl wr.heap.size wr) _).alloc (by simp; try omega) _).alloc (by simp; try omega) _)) (Nat.le_refl _))) (by omega)) (by omega) (by simp; try omega) ?_; intro a51 c51 w51 h51 g51; have b51 : Below wr.heap.size wr w51 := Below.grown (by first | exact ((below_drewN (Below.refl wr.heap.size wr) _).alloc (by simp; try omega) _) | exact (((below_drewN (Below.refl wr.heap.size wr) _).alloc (by simp; try omega) _).alloc (by simp; try omega) _)) g51 (by simp; try omega) (fun k hk => by simp [Value.ownBlock] at hk; omega))
              | (refine stepAppV elemRow rfl (.tmp 51) (.tmp 53) rfl wr.heap.size _ _ _ _ rfl (by first | exact h51 | exact h51.alloc _) _ _ _ [.slice (some ⟨b1, o1, none⟩) rn rc] rfl (vals_one (lo := 0) (hi := w51.heap.size + 1) _ _ 26 _ rfl (by omega) (by have hz51 := g51.size; simp at hz51 ⊢; try omega) (by first | exact at0 _ _ | (rw [g51.block _ (by simp; try omega) (by simp [Value.ownBlock])]; first | exact at1 _ _ _ | exact at0' _ _ _))) (by omega) (by have := b51.size; simp; omega) ?_; intro a54 c54 w54 h54 g54; have b54 : Below wr.heap.size wr w54 := Below.grown (by first | exact b51 | exact b51.alloc b51.size _) g54 (by have := b51.size; simp; omega) (fun k hk => (h51.1.lt k hk).1))
              | (refine stepAppV elemRow rfl (.tmp 54) (.tmp 57) rfl wr.heap.size _ _ _ _ rfl h54 _ _ _ _ rfl (valsDrop (i := j + 1) (HORD.out.keep (Keeps.of_below b54 (Nat.le_refl _))) (by omega)) (by omega) b54.size ?_; intro a58 c58 w58 h58 g58; have b58 : Below wr.heap.size wr w58 := Below.grown b54 g58 b54.size (fun k hk => (h54.1.lt k hk).1)))
            all_goals
              have hfin : OwnV 26 w.heap.size w58 a58 (k + 1) c58 (hdrs hdr xss (k + 1)) := by
                rw [hdrs_succ (k := j + 1) (by rw [HI.out]; exact insAt_stop (by unfold key0; omega)), HHK.out, ← HCN.out]
                exact h58.low hzw
              have HF := hid (And.intro hfin (HB.out.trans (b58.mono hzw)))
              clear hfin h51 h54 h58 g51 g54 g58 b51 b54 b58
              go_wp2
              all_goals
                go_roundg (n - (k + 1))
                case measure => omega
                case rel => exact ⟨k + 1, a58, c58, Nat.le_refl _, by go_num, by rw [HCN.out], by omega, HF.out.1, HF.out.2⟩
    · obtain rfl : k = n := by omega
      clear hlt hk hgk
      obtain ⟨wo, rfl⟩ : ∃ wo : World, wo = wr := ⟨_, rfl⟩
      have hord := HO.out.vals
      have HORD := hid hord
      have hkco : k ≤ co := hord.2.1
      clear hord
      have hz0 : w.heap.size ≤ wo.heap.size := HB.out.size
      have hk0 : 0 < k := by have := (ascAll_at HE.out).1; have := HL.out; omega
      obtain ⟨i0, hi0, hz0', hz1, hz2⟩ := info_parts infoInt
      go_wp2_with (at_make; refine wpList_make_full _ rfl _ _ 26 rfl wo.heap.size 3 i0 (.int .i64 0) 1 Try.underlying26 hi0 hz0' hz1 _ _ _ _ k rfl rfl rfl rfl (by rw [hz2]; omega) (by unfold maxLen; omega) (Nat.le_refl _) ?_)
      intro w1 hat hgrow
      have hbA : Below wo.heap.size wo w1 := (Below.refl _ _).grown hgrow (Nat.le_refl _) (fun k h => by cases h)
      have hszA : wo.heap.size < w1.heap.size := (hat.lt wo.heap.size rfl).2
      obtain ⟨g, hg⟩ : ∃ g, g = wo.heap.size := ⟨_, rfl⟩
      rw [← hg] at hat hszA ⊢
      have HG := hid hg; clear hg
      have HBA := hid hbA
      have hordA := HORD.out.keep (Keeps.of_below hbA (Nat.le_refl _))
      clear hgrow
      obtain ⟨bo, oo, rfl, _, _, hco⟩ := hordA.open hk0
      have hlast := hco (k - 1) _ (hdrs_at (by omega))
      have hbA' : Below w.heap.size w w1 := HB.out.trans (hbA.mono hz0)
      obtain ⟨la, ln, lc, hhl, hlr⟩ := (HH.out.keep (Keeps.of_below hbA' hh)) (ox (ordIx xss k) (k - 1)) (by have := ox_bound (xss := xss) (i := k) (j := k - 1) (by omega); have := HL.out; omega)
      rw [hhl] at hlast
      have hln : 0 < ln := by have := hlr.len; have := HP.out (ox (ordIx xss k) (k - 1)) (by have := ox_bound (xss := xss) (i := k) (j := k - 1) (by omega); omega); omega
      obtain ⟨lb, lo', rfl, _, _, hcl, _⟩ := hlr.open hln
      have hcl0 := hcl 0 hln
      simp only [Nat.add_zero] at hcl0
      have hlast' : w1.cell? ⟨bo, oo + (k - 1), none⟩ = some (.slice (some ⟨lb, lo', none⟩) ln lc) := hlast
      have hkk : (k : Int) - 1 = ((k - 1 : Nat) : Int) := by omega
      have HKK := hid hkk
      have HORDA := hid hordA
      have HAT := hid hat
      have HBA2 := hid hbA'
      clear hcl hlast hhl hordA hco hat hbA hbA' hkk
      have htp64 : I64 (leapTop xss) := by
        have h1 := HL.out
        unfold leapTop; rw [h1, rx_ordL (by omega)]; exact hlr.at hln
      have htop : ix (rx xss (ox (ordIx xss k) (k - 1))) 0 = leapTop xss := by
        have h1 := HL.out
        unfold leapTop; rw [h1, rx_ordL (by omega)]
      rw [htop] at hcl0
      clear hlr
      generalize leapTop xss = tp at *
      clear htop
      go_wp2
      have hat0 : AtA g w1 k (leapP xss) := by
        have := HAT.out
        rw [toList_madeCells_one] at this
        unfold AtA leapP
        rw [HL.out, List.map_replicate]
        exact this
      have hfu : leapFuel xss ≤ 1099511627777 := by
        have h1 := remTo_le (L := ordL xss xss.length) (p := leapP xss) (B := 1048576) (fun i => by
          by_cases hi : i < xss.length
          · rw [rx_ordL hi]; exact HR.out _
          · have : rx (ordL xss xss.length) i = [] := by
              have h2 := ordL_len xss xss.length
              simp [rx, List.getElem?_eq_none (show (ordL xss xss.length).length ≤ i by omega)]
            rw [this]; simp) xss.length
        have h2 := HL.out
        unfold leapFuel; rw [h2] at h1 ⊢
        have : k * 1048576 ≤ 1048576 * 1048576 := Nat.mul_le_mul_right _ hn
        omega
      have HAT0 := hid (And.intro hat0 hfu); clear hat0 hfu
      obtain ⟨L, hL⟩ : ∃ L, L = ordL xss xss.length := ⟨_, rfl⟩
      have HLL := hid hL
      have hLlen : L.length = k := by rw [hL, ordL_len, HL.out]
      have hrunL : leapN L (leapFuel xss) 0 (leapP xss) tp [] = some (leapF xss) := by rw [hL]; exact HRUN.out
      have hokL : LeapOK L (leapP xss) tp := by rw [hL]; exact HOK.out
      have HLLEN := hid hLlen
      have HRL := hid (And.intro hrunL hokL)
      clear hL hLlen hrunL hokL
      have HTP := hid htp64; clear htp64
      go_loopg [9, 10, 11] (leapFuel xss) (fun gf mo ou se wq => ∃ (s : Nat) (top : Int) (outL : List Int) (p : List Nat) (ao : Option Addr) (m co : Nat), mo = .int .i64 top ∧ ou = .slice ao m co ∧ se = .int .i64 ((s : Int) + 1) ∧ I64 top ∧ Own w1.heap.size wq ao m co outL ∧ AtA g wq k p ∧ Below g w1 wq ∧ leapN L gf s p top outL = some (leapF xss) ∧ LeapOK L p top ∧ outL.length ≤ s ∧ s + gf ≤ 1099511627777)
      case atStart => exact ⟨0, tp, [], leapP xss, none, 0, 0, rfl, rfl, by go_num, HTP.out, own_nil _ _, HAT0.out.1, Below.refl _ _, HRL.out.1, HRL.out.2, Nat.le_refl _, by have := HAT0.out.2; omega⟩
      case round =>
        obtain ⟨s', top, outL, p, ao, m, co', rfl, rfl, rfl, ht64, hout, hatq, hbq, hlp, hok, hlen, hsum⟩ := hrel
        obtain ⟨f, hf⟩ := leap_pos hlp
        have hq : s' % k < k := Nat.mod_lt _ hk0
        have hmod : (s' : Int) % (k : Int) = ((s' % k : Nat) : Int) := by simp
        have HMQ := hid (show s' % L.length = s' % k by rw [HLLEN.out])
        generalize s' % k = q at *
        have hgf : s' ≤ 1099511627777 := by omega
        have hml : m ≤ s' := by have := hout.len; omega
        have hcq := hatq.cell hq
        have hordq := HORDA.out.keep (Keeps.of_below (B := g) hbq (by rw [HG.out]; exact Nat.le_refl _))
        obtain ⟨b', o', hbo, hbo1, hbo2, hco⟩ := hordq.open hk0
        simp only [Option.some.injEq, Addr.mk.injEq, and_true] at hbo
        obtain ⟨rfl, rfl⟩ := hbo
        have hoq := hco q _ (hdrs_at hq)
        have hbq' : Below w.heap.size w wr := HBA2.out.trans (hbq.mono (by rw [HG.out]; exact hz0))
        obtain ⟨qa, qn, qc, hhq, hqr⟩ := (HH.out.keep (Keeps.of_below hbq' hh)) (ox (ordIx xss k) q) (by have := ox_bound (xss := xss) (i := k) (j := q) hq; have := HL.out; omega)
        rw [hhq] at hoq
        have hrxe : rx L q = rx xss (ox (ordIx xss k) q) := by rw [HLL.out, HL.out]; exact rx_ordL hq
        rw [← hrxe] at hqr
        have hat' := hok.at_ q (by rw [HLLEN.out]; exact hq)
        have hqn := hqr.len
        have hqs : qn ≤ 1048576 := by have := HR.out (ox (ordIx xss k) q); rw [← hrxe] at this; omega
        have hpq : ox p q < qn := by omega
        obtain ⟨qb, qo, rfl, hqb1, hqb2, hqc, _⟩ := hqr.open (by omega)
        have hqv := hqc (ox p q) hpq
        have hsb := HB.out.size
        have hne : ¬ g = qb := by have := HG.out; omega
        have hqg : qb < g := by have := HG.out; omega
        have hwg : w.heap.size ≤ g := by have := HG.out; omega
        have hascq : ∀ i, i + 1 < qn → ix (rx L q) i < ix (rx L q) (i + 1) := fun i hi => by
          rw [hrxe]
          exact (ascAll_at HE.out).2 (ox (ordIx xss k) q) (by have := ox_bound (xss := xss) (i := k) (j := q) hq; have := HL.out; omega) i (by rw [← hrxe]; omega)
        have HASC := hid hascq; clear hascq
        have hpl : q < p.length := by rw [hok.len, HLLEN.out]; exact hq
        have hv64 := hqr.at hpq
        have hnext : ∀ i, i < qn → I64 (ix (rx L q) i) := fun i hi => hqr.at hi
        generalize hpqe : ox p q = pq at *
        generalize hve : ix (rx L q) pq = v at *
        have HQ := hid (And.intro hq (And.intro hpl (And.intro hlen hsum)))
        have HVE := hid hve; clear hve
        have HPQ := hid hpqe; clear hpqe
        have HF := hid hf; clear hf
        have HLP := hid hlp; clear hlp
        have HOKR := hid hok; clear hok
        have HOUT := hid hout; clear hout
        have HATQ := hid hatq; clear hatq
        have HBQ := hid hbq; clear hbq
        have HQC := hid hqc; clear hqc
        have HQR := hid hqr; clear hqr
        have HNX := hid hnext; clear hnext
        have HXE := hid hrxe; clear hrxe
        have HQN := hid hqn; clear hqn
        clear hordq hco hhq hbq' hpl hsum hlen
        have hcq1 := hcq.1
        have hcq2 := hcq.2
        clear hcq
        by_cases hv : v = top
        · have hvb : (v == top) = true := by simp [hv]
          have HV := hid hv; clear hv
          go_wp2_with (at_builtin; refine wpApp rfl (.tmp 91) (.tmp 93) rfl w1.heap.size ao m co' outL rfl (HOUT.out.alloc _) _ 1 1 [top] rfl (one_ints _ _ _ ht64) (by omega) (by have := HBQ.out.size; simp; omega) ?_)
          intro a2 c2 w2 ho2 hg2
          have hgw0 : g < wr.heap.size := HATQ.out.lt
          have hkg : w2.heap[g]? = wr.heap[g]? := by
            rw [hg2.block g (by simp; omega) (by intro e; have := HOUT.out.1.lt g (by rw [← e]); omega)]
            exact Below.heap_alloc _ _ _ hgw0
          have hat2 := HATQ.out.keep hkg
          have b2 : Below g wr w2 := Below.grown ((Below.refl g wr).alloc (by omega) _) hg2 (by simp; omega) (fun j hj => by have := HOUT.out.1.lt j hj; omega)
          have hcg := hat2.cell HQ.out.1
          rw [HPQ.out] at hcg
          have hcg1 := hcg.1
          have hcg2 := hcg.2
          have hcs : ∀ o u, (w2.setCell ⟨g, q, none⟩ u).cell? ⟨qb, o, none⟩ = w2.cell? ⟨qb, o, none⟩ := fun o u => cset_other9 (fun h => hne (congrArg Addr.block h))
          have HAT2 := hid hat2
          have HB2 := hid b2
          have HO2 := hid ho2
          have HSET := hid (hat2.set q (pq + 1))
          clear hkg hat2 b2 ho2 hg2 hcg
          have hlh := leap_hit (f := f) (by rw [← HF.out]; exact HLP.out) HMQ.out (by rw [HPQ.out, HVE.out]; exact HV.out)
          rw [HPQ.out] at hlh
          have HLH := hid hlh; clear hlh
          by_cases hend : pq + 1 = qn
          · have hendb : ((pq : Int) + 1 == (qn : Int)) = true := by simp; omega
            have HEND := hid hend; clear hend
            have HR2 := hid (HLH.out.1 (by have := HEND.out; have := HQN.out; omega))
            go_wp2
            go_ret2
            have hRR := HR2.out
            rw [hRR]
            exact ⟨a2, m + 1, c2, rfl, (HO2.out.keep (fun j h1 h2 => heap_setCell_other _ _ j _ (by show j ≠ g; omega))).low HBA2.out.size, HBA2.out.trans (((HBQ.out.trans HB2.out).setCell (p := ⟨g, q, none⟩) (Nat.le_refl _) _).mono hwg)⟩
          · have hendb : ((pq : Int) + 1 == (qn : Int)) = false := by simp; omega
            have hpn : (pq : Int) + 1 < (qn : Int) := by omega
            have HEND := hid hend; clear hend
            have hnc := HQC.out (pq + 1) (by have := HEND.out; omega)
            have hnc2 : w2.cell? ⟨qb, qo + (pq + 1), none⟩ = some (.int .i64 (ix (rx L q) (pq + 1))) := by
              rw [World.cell?_of_block (w := wr) (HB2.out.block qb hqg)]; exact hnc
            clear hnc
            have HR2 := hid (HLH.out.2 (by have := HEND.out; have := HQN.out; omega))
            have HRO := hid (HOKR.out.next (k := q) (v := pq + 1) (by rw [HLLEN.out]; exact HQ.out.1) (by have := HEND.out; have := HQN.out; omega) (by have h1 := HASC.out pq (by omega); have h2 := HVE.out; have h3 := HV.out; omega))
            have HN64 := hid (HNX.out (pq + 1) (by omega))
            go_wp2
            go_roundg f
            case measure => have := HF.out; omega
            case rel => exact ⟨s' + 1, ix (rx L q) (pq + 1), outL ++ [top], p.set q (pq + 1), a2, m + 1, c2, rfl, rfl, by go_num, HN64.out, HO2.out.keep (fun j h1 h2 => heap_setCell_other _ _ j _ (by show j ≠ g; omega)), by have := HSET.out; rwa [show ((pq + 1 : Nat) : Int) = (pq : Int) + 1 by omega] at this, (HBQ.out.trans HB2.out).setCell (p := ⟨g, q, none⟩) (Nat.le_refl _) _, HR2.out, HRO.out, by simp; have := HQ.out.2.2.1; omega, by have := HQ.out.2.2.2; have := HF.out; omega⟩
        · have hvb : (v == top) = false := by simp [hv]
          have HV := hid hv; clear hv
          go_wp2_with fail
          refine (implSeek _ qn qc (rx L q) _ top wr HQR.out).mono ?_
          rintro e w2' ⟨rfl, m3, rfl⟩
          obtain ⟨qq, hqq, hq1, hq2, hq3⟩ := seekF_nat (rx L q) pq top
          rw [hqq]
          obtain ⟨w2, hw2⟩ : ∃ w2 : World, w2 = wr.drewN m3 := ⟨_, rfl⟩
          rw [← hw2]
          have hgw0 : g < wr.heap.size := HATQ.out.lt
          have hat2 : AtA g w2 k p := by rw [hw2]; exact HATQ.out
          have b2 : Below g wr w2 := by rw [hw2]; exact below_drewN (Below.refl _ _) _
          have hcg := hat2.cell HQ.out.1
          have hcg2 := hcg.2
          obtain ⟨u0, hcg1⟩ : ∃ u0, w2.cell? ⟨g, q, none⟩ = some u0 := ⟨_, hcg.1⟩
          have hcs : ∀ o u, (w2.setCell ⟨g, q, none⟩ u).cell? ⟨qb, o, none⟩ = w2.cell? ⟨qb, o, none⟩ := fun o u => cset_other9 (fun h => hne (congrArg Addr.block h))
          have HO2 : Hid (Own w1.heap.size w2 ao m co' outL) := hid (by rw [hw2]; exact HOUT.out)
          have HAT2 := hid hat2
          have HB2 := hid b2
          have HSET := hid (hat2.set q qq)
          have HLH := hid (leap_seek (f := f) (by rw [← HF.out]; exact HLP.out) HMQ.out (by rw [HPQ.out, HVE.out]; exact HV.out) (by rw [HPQ.out]; exact hqq))
          have HQQ := hid (And.intro hqq (And.intro hq2 hq3))
          have hqqn : qq ≤ qn := by have := HQN.out; omega
          clear hat2 b2 hcg hqq hq2 hq3 hq1 hw2 hcq1
          by_cases hend : qq = qn
          · have hendb : ((qq : Int) == (qn : Int)) = true := by simp; omega
            have HEND := hid hend; clear hend
            have HR2 := hid (HLH.out.1 (by have := HEND.out; have := HQN.out; omega))
            go_wp2
            go_ret2
            have hRR := HR2.out
            rw [hRR]
            exact ⟨ao, m, co', rfl, (HO2.out.keep (fun j h1 h2 => heap_setCell_other _ _ j _ (by show j ≠ g; omega))).low HBA2.out.size, HBA2.out.trans (((HBQ.out.trans HB2.out).setCell (p := ⟨g, q, none⟩) (Nat.le_refl _) _).mono hwg)⟩
          · have hendb : ((qq : Int) == (qn : Int)) = false := by simp; omega
            have hpn : (qq : Int) < (qn : Int) := by omega
            have HEND := hid hend; clear hend
            have hnc2 : w2.cell? ⟨qb, qo + qq, none⟩ = some (.int .i64 (ix (rx L q) qq)) := by
              rw [World.cell?_of_block (w := wr) (HB2.out.block qb hqg)]; exact HQC.out qq (by omega)
            have HR2 := hid (HLH.out.2 (by have := HEND.out; have := HQN.out; omega))
            have HRO := hid (HOKR.out.next (k := q) (v := qq) (by rw [HLLEN.out]; exact HQ.out.1) (by have := HEND.out; have := HQN.out; omega) (HQQ.out.2.1 (by have := HQN.out; omega)).2)
            have HN64 := hid (HNX.out qq (by omega))
            go_wp2
            go_roundg f
            case measure => have := HF.out; omega
            case rel => exact ⟨s' + 1, ix (rx L q) qq, outL, p.set q qq, ao, m, co', rfl, rfl, by go_num, HN64.out, HO2.out.keep (fun j h1 h2 => heap_setCell_other _ _ j _ (by show j ≠ g; omega)), HSET.out, (HBQ.out.trans HB2.out).setCell (p := ⟨g, q, none⟩) (Nat.le_refl _) _, HR2.out, HRO.out, by have := HQ.out.2.2.1; omega, by have := HQ.out.2.2.2; have := HF.out; omega⟩
end Go.Proofs.Ytkhilfgkejienaa
