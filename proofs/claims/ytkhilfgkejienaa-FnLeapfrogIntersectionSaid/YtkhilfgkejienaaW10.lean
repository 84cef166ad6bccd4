/- Walks: the reference's order of the lists. -/
import Derived.Test.YtkhilfgkejienaaW9
import Derived.Test.YtkhilfgkejienaaW8
namespace Go.Proofs.Ytkhilfgkejienaa
set_option linter.unusedSimpArgs false
set_option linter.unusedVariables false
open Go.RowKit
/-- the order as values -/
def ixVals (xss : List (List Int)) (i : Nat) : List Value := (ordIx xss i).map fun j : Nat => Value.int .i64 (j : Int)
theorem ixVals_len (xss : List (List Int)) (i : Nat) : (ixVals xss i).length = i := by simp [ixVals, ordIx_len]
theorem ixVals_at {xss : List (List Int)} {i j : Nat} (h : j < i) : (ixVals xss i)[j]? = some (.int .i64 (ox (ordIx xss i) j : Nat)) := by
  have hl := ordIx_len xss i
  rw [ox_lt (by omega)]; simp [ixVals, hl, h]
theorem ixVals_succ {xss : List (List Int)} {i k : Nat} (h : insAt xss i i = k) : ixVals xss (i + 1) = ((ixVals xss i).take k ++ [.int .i64 (i : Int)]) ++ (ixVals xss i).drop k := by
  have h2 : insK (fun j => ix (rx xss ((ordIx xss i).getD j 0)) 0) (ix (rx xss i) 0) (ordIx xss i).length = k := by rw [ordIx_len]; exact h
  simp only [ixVals, ordIx]
  rw [h2]
  simp [List.map_append, List.map_take, List.map_drop]
/-- The call returns a new slice of values; nothing that was there has turned. -/
def GivesV (e : TypeId) (w : World) (vs : List Value) (en : Ending) (w' : World) : Prop :=
  ∃ a n c, en = .returned (.slice a n c) ∧ OwnV e w.heap.size w' a n c vs ∧ Below w.heap.size w w'

set_option maxHeartbeats 3200000 in
set_option maxRecDepth 100000 in
theorem specOrder {fz : Bool} {lo hi : Nat} (b off : Nat) (n c : Nat) (xss : List (List Int)) (w : World) (hI : RowsA fz lo hi w (some ⟨b, off, none⟩) n c xss) (hh : hi ≤ w.heap.size) (hn : n ≤ 1048576)
    (hpos : ∀ i, i < n → 0 < (rx xss i).length) :
    Calls Try.prog 20 #[.slice (some ⟨b, off, none⟩) n c] w (GivesV 3 w (ixVals xss n)) := by
  have hl := hI.len
  have HL := hid hl; clear hl
  obtain ⟨hdr, hH, hcell⟩ := rowsA_hdrs hI
  have HH := hid hH; clear hH
  have HC := hid hcell; clear hcell
  have HP := hid hpos; clear hpos
  go_enter Try.func20, Try.ntmps20
  go_wp2
  go_loopg [3, 4] n (fun gk v i wr => ∃ (k : Nat) (ao : Option Addr) (co : Nat), n - k ≤ gk ∧ i = .int .i64 k ∧ v = .slice ao k co ∧ k ≤ n ∧ OwnV 3 w.heap.size wr ao k co (ixVals xss k) ∧ Below w.heap.size w wr)
  case atStart => exact ⟨0, some ⟨w.heap.size, 0, none⟩, 0, by omega, rfl, rfl, by omega, ownV_empty _ _ _ _ (Nat.le_refl _) (at0 _ _), (Below.refl w.heap.size w).alloc (Nat.le_refl _) _⟩
  case round =>
    obtain ⟨k, ao, co, hgk, rfl, rfl, hk, hown, hbel⟩ := hrel
    have HO := hid hown; clear hown
    have HB := hid hbel; clear hbel
    by_cases hlt : k < n
    · have hc : wr.cell? ⟨b, off + k, none⟩ = some (hdr k) := by rw [(Keeps.of_below HB.out hh : Keeps lo hi w wr) |> fun hk => World.cell?_of_block (w := w) (HB.out.block b (by have := (hI.at hlt).2.1; omega))]; exact HC.out k hlt
      obtain ⟨ra, rn, rc, hhk, hrk⟩ := (HH.out.keep (Keeps.of_below HB.out hh)) k (by rw [HL.out]; exact hlt)
      rw [hhk] at hc
      have hrn : 0 < rn := by have := hrk.len; have := HP.out k hlt; omega
      obtain ⟨b1, o1, rfl, _, _, hc1, _⟩ := hrk.open hrn
      have hc10 := hc1 0 hrn
      simp only [Nat.add_zero] at hc10
      have HHK := hid hhk; clear hhk hc1 hrk
      go_wp2
      go_loopg [5] k (fun gj v wq => ∃ (j : Nat), j ≤ gj ∧ v = .int .i64 j ∧ j ≤ k ∧ insAt xss k k = insAt xss k j ∧ ∃ q, wq = wr.drewN q)
      case atStart => exact ⟨k, Nat.le_refl _, rfl, by omega, rfl, 0, rfl⟩
      case round =>
        obtain ⟨j, hgj, rfl, hj, hins, q, rfl⟩ := hrel
        have HI := hid hins; clear hins
        cases j with
        | zero =>
          go_wp2
          go_quiet (fail)
          go_wp2
          have hord := HO.out.vals
          have HORD := hid hord; clear hord
          have hzw : w.heap.size ≤ wr.heap.size := HB.out.size
          have hk16 : k ≤ 1048576 := by omega
          go_region_law (first
            | (refine stepAppV0 elemInt rfl (.tmp 38) (.tmp 41) rfl wr.heap.size _ _ rfl (ownV_empty _ _ wr.heap.size _ (by simp) (by first | exact at0 _ _ | exact at0' _ _ _ | exact at1 _ _ _)) _ _ _ _ rfl (valsTake (HORD.out.keep (Keeps.of_below (B := wr.heap.size) (by first | exact ((below_drewN (Below.refl wr.heap.size wr) _).alloc (by simp; try omega) _) | exact (((below_drewN (Below.refl wr.heap.size wr) _).alloc (by simp; try omega) _).alloc (by simp; try omega) _)) (Nat.le_refl _))) (Nat.zero_le _)) (by omega) (by simp; try omega) ?_; intro a51 c51 w51 h51 g51; have b51 : Below wr.heap.size wr w51 := Below.grown (by first | exact ((below_drewN (Below.refl wr.heap.size wr) _).alloc (by simp; try omega) _) | exact (((below_drewN (Below.refl wr.heap.size wr) _).alloc (by simp; try omega) _).alloc (by simp; try omega) _)) g51 (by simp; try omega) (fun k hk => by simp [Value.ownBlock] at hk; omega))
            | (refine stepAppV elemInt rfl (.tmp 42) (.tmp 44) rfl wr.heap.size _ _ _ _ rfl (by first | exact h51 | exact h51.alloc _) _ _ _ [.int .i64 (k : Int)] rfl (vals_one (lo := 0) (hi := w51.heap.size + 1) _ _ 3 _ rfl (by omega) (by have hz51 := g51.size; simp at hz51 ⊢; try omega) (by first | exact at0 _ _ | (rw [g51.block _ (by simp; try omega) (by simp [Value.ownBlock])]; first | exact at1 _ _ _ | exact at0' _ _ _))) (by omega) (by have := b51.size; simp; omega) ?_; intro a54 c54 w54 h54 g54; have b54 : Below wr.heap.size wr w54 := Below.grown (by first | exact b51 | exact b51.alloc b51.size _) g54 (by have := b51.size; simp; omega) (fun k hk => (h51.1.lt k hk).1))
            | (refine stepAppV elemInt rfl (.tmp 45) (.tmp 48) rfl wr.heap.size _ _ _ _ rfl h54 _ _ _ _ rfl (HORD.out.keep (Keeps.of_below b54 (Nat.le_refl _))) (by omega) b54.size ?_; intro a58 c58 w58 h58 g58; have b58 : Below wr.heap.size wr w58 := Below.grown b54 g58 b54.size (fun k hk => (h54.1.lt k hk).1)))
          all_goals
            have hfin : OwnV 3 w.heap.size w58 a58 (k + 1) c58 (ixVals xss (k + 1)) := by
              rw [ixVals_succ (k := 0) HI.out, Nat.add_comm k 1]
              exact h58.low hzw
            have HF := hid (And.intro hfin (HB.out.trans (b58.mono hzw)))
            clear hfin h51 h54 h58 g51 g54 g58 b51 b54 b58
            go_wp2
            go_roundg (n - (k + 1))
            case measure => omega
            case rel => exact ⟨k + 1, a58, c58, Nat.le_refl _, by go_num, by rw [Nat.add_comm k 1], by omega, HF.out.1, HF.out.2⟩
        | succ j =>
          have hoc := HO.out.vals
          obtain ⟨b2, o2, rfl, _, _, hc2⟩ := hoc.open (by omega)
          have hcj := hc2 j _ (ixVals_at (by omega))
          have hoxb := ox_bound (xss := xss) (i := k) (j := j) (by omega)
          have hcr : wr.cell? ⟨b, off + ox (ordIx xss k) j, none⟩ = some (hdr (ox (ordIx xss k) j)) := by
            rw [World.cell?_of_block (w := w) (HB.out.block b (by have := (hI.at hlt).2.1; omega))]; exact HC.out _ (by omega)
          obtain ⟨sa, sn, sc, hsv, hsr⟩ := (HH.out.keep (Keeps.of_below HB.out hh)) (ox (ordIx xss k) j) (by have := ox_bound (xss := xss) (i := k) (j := j) (by omega); have := HL.out; omega)
          rw [hsv] at hcr
          have hsn : 0 < sn := by have := hsr.len; have := HP.out (ox (ordIx xss k) j) (by have := ox_bound (xss := xss) (i := k) (j := j) (by omega); omega); omega
          obtain ⟨b3, o3, rfl, _, _, hc3, _⟩ := hsr.open hsn
          have hc30 := hc3 0 hsn
          simp only [Nat.add_zero] at hc30
          clear hc3 hc2 hsr hoc hsv
          by_cases hcmp : ix (rx xss k) 0 < ix (rx xss (ox (ordIx xss k) j)) 0
          · go_wp2
            go_quiet (fail)
            go_wp2
            go_roundg j
            case measure => omega
            case rel => exact ⟨j, Nat.le_refl _, by go_num, by omega, by rw [HI.out, insAt_step hcmp], by first | exact ⟨_, rfl⟩ | exact ⟨_, dd⟩⟩
          · go_wp2
            go_quiet (fail)
            go_wp2
            have hord := HO.out.vals
            have HORD := hid hord; clear hord
            have hzw : w.heap.size ≤ wr.heap.size := HB.out.size
            have hk16 : k ≤ 1048576 := by omega
            have hkco : k ≤ co := HORD.out.2.1
            have hjco : (j : Int) + 1 ≤ (co : Int) := by omega
            have hjk : (j : Int) + 1 ≤ (k : Int) := by omega
            have hj0 : (0 : Int) ≤ (j : Int) + 1 := by omega
            have hcnt : j + 1 + 1 + (k - (j + 1)) = k + 1 := by omega
            have HCN := hid hcnt; clear hcnt
            go_region_law (first
              | (refine stepAppV0 elemInt rfl (.tmp 38) (.tmp 41) rfl wr.heap.size _ _ rfl (ownV_empty _ _ wr.heap.size _ (by simp) (by first | exact at0 _ _ | exact at0' _ _ _ | exact at1 _ _ _)) _ _ _ _ rfl (valsTake (j := j + 1) (HORD.out.keep (Keeps.of_below (B := wr.heap.size) (by first | exact ((below_drewN (Below.refl wr.heap.size wr) _).alloc (by simp; try omega) _) | exact (((below_drewN (Below.refl wr.heap.size wr) _).alloc (by simp; try omega) _).alloc (by simp; try omega) _)) (Nat.le_refl _))) (by omega)) (by omega) (by simp; try omega) ?_; intro a51 c51 w51 h51 g51; have b51 : Below wr.heap.size wr w51 := Below.grown (by first | exact ((below_drewN (Below.refl wr.heap.size wr) _).alloc (by simp; try omega) _) | exact (((below_drewN (Below.refl wr.heap.size wr) _).alloc (by simp; try omega) _).alloc (by simp; try omega) _)) g51 (by simp; try omega) (fun k hk => by simp [Value.ownBlock] at hk; omega))
              | (refine stepAppV elemInt rfl (.tmp 42) (.tmp 44) rfl wr.heap.size _ _ _ _ rfl (by first | exact h51 | exact h51.alloc _) _ _ _ [.int .i64 (k : Int)] rfl (vals_one (lo := 0) (hi := w51.heap.size + 1) _ _ 3 _ rfl (by omega) (by have hz51 := g51.size; simp at hz51 ⊢; try omega) (by first | exact at0 _ _ | (rw [g51.block _ (by simp; try omega) (by simp [Value.ownBlock])]; first | exact at1 _ _ _ | exact at0' _ _ _))) (by omega) (by have := b51.size; simp; omega) ?_; intro a54 c54 w54 h54 g54; have b54 : Below wr.heap.size wr w54 := Below.grown (by first | exact b51 | exact b51.alloc b51.size _) g54 (by have := b51.size; simp; omega) (fun k hk => (h51.1.lt k hk).1))
              | (refine stepAppV elemInt rfl (.tmp 45) (.tmp 48) rfl wr.heap.size _ _ _ _ rfl h54 _ _ _ _ rfl (valsDrop (i := j + 1) (HORD.out.keep (Keeps.of_below b54 (Nat.le_refl _))) (by omega)) (by omega) b54.size ?_; intro a58 c58 w58 h58 g58; have b58 : Below wr.heap.size wr w58 := Below.grown b54 g58 b54.size (fun k hk => (h54.1.lt k hk).1)))
            all_goals
              have hfin : OwnV 3 w.heap.size w58 a58 (k + 1) c58 (ixVals xss (k + 1)) := by
                rw [ixVals_succ (k := j + 1) (by rw [HI.out]; exact insAt_stop (by unfold key0; omega)), ← HCN.out]
                exact h58.low hzw
              have HF := hid (And.intro hfin (HB.out.trans (b58.mono hzw)))
              clear hfin h51 h54 h58 g51 g54 g58 b51 b54 b58
              go_wp2
              all_goals
                go_roundg (n - (k + 1))
                case measure => omega
                case rel => exact ⟨k + 1, a58, c58, Nat.le_refl _, by go_num, by rw [HCN.out], by omega, HF.out.1, HF.out.2⟩
    · obtain rfl : k = n := by omega
      go_wp2
      go_ret
      exact ⟨ao, k, co, rfl, HO.out, HB.out⟩
end Go.Proofs.Ytkhilfgkejienaa
