/- The table of this seat's types. Printed by tytab.py. -/
import Derived.Test.YtdimcbollnggjaaZB
namespace Go.Proofs.Ytdimcbollnggjaa
open Go.RowKit
theorem ty2 : TyOK 2 ⟨1, false, [.d (.int 0)], [], some (.int .i64), [], false⟩ := tyLeaf (z := .int .i64 0) (b := 8) (by kernel_rfl) (by decide) ⟨_, _, rfl, ⟨zInt, fun _ _ => rfl⟩, rfl, rfl⟩ rfl Try.underlying2 (fun _ e => (nomatch e)) (fun _ _ e => (nomatch e))
theorem ty3 : TyOK 3 ⟨1, false, [.d (.int 0)], [], some (.int .i64), [], false⟩ := tyLeaf (z := .int .i64 0) (b := 8) (by kernel_rfl) (by decide) ⟨_, _, rfl, ⟨zInt, fun _ _ => rfl⟩, rfl, rfl⟩ rfl Try.underlying3 (fun _ e => (nomatch e)) (fun _ _ e => (nomatch e))
theorem ty4 : TyOK 4 ⟨1, false, [.d (.bool false)], [], some (.bool), [], false⟩ := tyLeaf (z := .bool false) (b := 1) (by kernel_rfl) (by decide) ⟨_, _, rfl, ⟨zBool, fun _ _ => rfl⟩, rfl, rfl⟩ rfl Try.underlying4 (fun _ e => (nomatch e)) (fun _ _ e => (nomatch e))
theorem ty5 : TyOK 5 ⟨1, false, [.d (.byte 0)], [], some (.int .u8), [], false⟩ := tyLeaf (z := .int .u8 0) (b := 1) (by kernel_rfl) (by decide) ⟨_, _, rfl, ⟨zByte, fun _ _ => rfl⟩, rfl, rfl⟩ rfl Try.underlying5 (fun _ e => (nomatch e)) (fun _ _ e => (nomatch e))
theorem ty6 : TyOK 6 ⟨1, false, [.d (.byte 0)], [], some (.int .u8), [], false⟩ := tyLeaf (z := .int .u8 0) (b := 1) (by kernel_rfl) (by decide) ⟨_, _, rfl, ⟨zByte, fun _ _ => rfl⟩, rfl, rfl⟩ rfl Try.underlying6 (fun _ e => (nomatch e)) (fun _ _ e => (nomatch e))
theorem ty7 : TyOK 7 ⟨4, true, [.d (.int 0), .d (.int 0), .d (.bool false), .d (.byte 0)], [(0, 2), (1, 3), (2, 4), (3, 6)], none, [(0, 1), (1, 1), (2, 1), (3, 1)], false⟩ := tyStruct (z := .agg #[.int .i64 0, .int .i64 0, .bool false, .int .u8 0]) (b := 24) (by kernel_rfl) (by decide) ⟨_, _, rfl, ⟨zInt, fun _ _ => rfl⟩, rfl, ⟨_, _, rfl, ⟨zInt, fun _ _ => rfl⟩, rfl, ⟨_, _, rfl, ⟨zBool, fun _ _ => rfl⟩, rfl, ⟨_, _, rfl, ⟨zByte, fun _ _ => rfl⟩, rfl, rfl⟩⟩⟩⟩ rfl Try.underlying7 (by kernel_rfl) (by kernel_rfl)
theorem ty8 : TyOK 8 ⟨4, true, [.d (.int 0), .d (.int 0), .d (.bool false), .d (.byte 0)], [(0, 2), (1, 3), (2, 4), (3, 6)], none, [(0, 1), (1, 1), (2, 1), (3, 1)], false⟩ := tyStruct (z := .agg #[.int .i64 0, .int .i64 0, .bool false, .int .u8 0]) (b := 24) (by kernel_rfl) (by decide) ⟨_, _, rfl, ⟨zInt, fun _ _ => rfl⟩, rfl, ⟨_, _, rfl, ⟨zInt, fun _ _ => rfl⟩, rfl, ⟨_, _, rfl, ⟨zBool, fun _ _ => rfl⟩, rfl, ⟨_, _, rfl, ⟨zByte, fun _ _ => rfl⟩, rfl, rfl⟩⟩⟩⟩ rfl Try.underlying8 (by kernel_rfl) (by kernel_rfl)
theorem ty9 : TyOK 9 ⟨1, false, [.d (.str ⟨#[]⟩)], [], some (.string), [], false⟩ := tyLeaf (z := .string ⟨#[]⟩) (b := 16) (by kernel_rfl) (by decide) ⟨_, _, rfl, ⟨zStr, fun _ _ => rfl⟩, rfl, rfl⟩ rfl Try.underlying9 (fun _ e => (nomatch e)) (fun _ _ e => (nomatch e))
theorem ty10 : TyOK 10 ⟨1, false, [.d (.str ⟨#[]⟩)], [], some (.string), [], false⟩ := tyLeaf (z := .string ⟨#[]⟩) (b := 16) (by kernel_rfl) (by decide) ⟨_, _, rfl, ⟨zStr, fun _ _ => rfl⟩, rfl, rfl⟩ rfl Try.underlying10 (fun _ e => (nomatch e)) (fun _ _ e => (nomatch e))
theorem ty11 : TyOK 11 ⟨1, false, [.d (.str ⟨#[]⟩)], [], some (.string), [], false⟩ := tyLeaf (z := .string ⟨#[]⟩) (b := 16) (by kernel_rfl) (by decide) ⟨_, _, rfl, ⟨zStr, fun _ _ => rfl⟩, rfl, rfl⟩ rfl Try.underlying11 (fun _ e => (nomatch e)) (fun _ _ e => (nomatch e))
theorem ty22 : TyOK 22 ⟨1, false, [.nil], [], some (.slice 50), [], false⟩ := tyLeaf (z := .slice none 0 0) (b := 24) (by kernel_rfl) (by decide) ⟨_, _, rfl, ⟨zNil, fun _ _ => rfl⟩, rfl, rfl⟩ rfl Try.underlying22 (fun _ e => (nomatch e)) (fun _ _ e => (nomatch e))
theorem ty23 : TyOK 23 ⟨1, false, [.nil], [], some (.slice 3), [], false⟩ := tyLeaf (z := .slice none 0 0) (b := 24) (by kernel_rfl) (by decide) ⟨_, _, rfl, ⟨zNil, fun _ _ => rfl⟩, rfl, rfl⟩ rfl Try.underlying23 (fun _ e => (nomatch e)) (fun _ _ e => (nomatch e))
theorem ty24 : TyOK 24 ⟨3, true, [.d (.int 0), .nil, .nil], [(0, 3), (1, 22), (2, 23)], none, [(0, 1), (1, 1), (2, 1)], false⟩ := tyStruct (z := .agg #[.int .i64 0, .slice none 0 0, .slice none 0 0]) (b := 56) (by kernel_rfl) (by decide) ⟨_, _, rfl, ⟨zInt, fun _ _ => rfl⟩, rfl, ⟨_, _, rfl, ⟨zNil, fun _ _ => rfl⟩, rfl, ⟨_, _, rfl, ⟨zNil, fun _ _ => rfl⟩, rfl, rfl⟩⟩⟩ rfl Try.underlying24 (by kernel_rfl) (by kernel_rfl)
theorem ty25 : TyOK 25 ⟨3, true, [.d (.int 0), .nil, .nil], [(0, 3), (1, 22), (2, 23)], none, [(0, 1), (1, 1), (2, 1)], false⟩ := tyStruct (z := .agg #[.int .i64 0, .slice none 0 0, .slice none 0 0]) (b := 56) (by kernel_rfl) (by decide) ⟨_, _, rfl, ⟨zInt, fun _ _ => rfl⟩, rfl, ⟨_, _, rfl, ⟨zNil, fun _ _ => rfl⟩, rfl, ⟨_, _, rfl, ⟨zNil, fun _ _ => rfl⟩, rfl, rfl⟩⟩⟩ rfl Try.underlying25 (by kernel_rfl) (by kernel_rfl)
theorem ty27 : TyOK 27 ⟨1, false, [.nil], [], some (.slice 23), [], false⟩ := tyLeaf (z := .slice none 0 0) (b := 24) (by kernel_rfl) (by decide) ⟨_, _, rfl, ⟨zNil, fun _ _ => rfl⟩, rfl, rfl⟩ rfl Try.underlying27 (fun _ e => (nomatch e)) (fun _ _ e => (nomatch e))
theorem ty29 : TyOK 29 ⟨1, false, [.nil], [], some (.slice 53), [], false⟩ := tyLeaf (z := .slice none 0 0) (b := 24) (by kernel_rfl) (by decide) ⟨_, _, rfl, ⟨zNil, fun _ _ => rfl⟩, rfl, rfl⟩ rfl Try.underlying29 (fun _ e => (nomatch e)) (fun _ _ e => (nomatch e))
theorem ty30 : TyOK 30 ⟨3, true, [.d (.int 0), .nil, .nil], [(0, 3), (1, 29), (2, 23)], none, [(0, 1), (1, 1), (2, 1)], false⟩ := tyStruct (z := .agg #[.int .i64 0, .slice none 0 0, .slice none 0 0]) (b := 56) (by kernel_rfl) (by decide) ⟨_, _, rfl, ⟨zInt, fun _ _ => rfl⟩, rfl, ⟨_, _, rfl, ⟨zNil, fun _ _ => rfl⟩, rfl, ⟨_, _, rfl, ⟨zNil, fun _ _ => rfl⟩, rfl, rfl⟩⟩⟩ rfl Try.underlying30 (by kernel_rfl) (by kernel_rfl)
theorem ty31 : TyOK 31 ⟨3, true, [.d (.int 0), .nil, .nil], [(0, 3), (1, 29), (2, 23)], none, [(0, 1), (1, 1), (2, 1)], false⟩ := tyStruct (z := .agg #[.int .i64 0, .slice none 0 0, .slice none 0 0]) (b := 56) (by kernel_rfl) (by decide) ⟨_, _, rfl, ⟨zInt, fun _ _ => rfl⟩, rfl, ⟨_, _, rfl, ⟨zNil, fun _ _ => rfl⟩, rfl, ⟨_, _, rfl, ⟨zNil, fun _ _ => rfl⟩, rfl, rfl⟩⟩⟩ rfl Try.underlying31 (by kernel_rfl) (by kernel_rfl)
theorem ty49 : TyOK 49 ⟨2, true, [.d (.str ⟨#[]⟩), .nil], [(0, 9), (1, 23)], none, [(0, 1), (1, 1)], false⟩ := tyStruct (z := .agg #[.string ⟨#[]⟩, .slice none 0 0]) (b := 40) (by kernel_rfl) (by decide) ⟨_, _, rfl, ⟨zStr, fun _ _ => rfl⟩, rfl, ⟨_, _, rfl, ⟨zNil, fun _ _ => rfl⟩, rfl, rfl⟩⟩ rfl Try.underlying49 (by kernel_rfl) (by kernel_rfl)
theorem ty50 : TyOK 50 ⟨2, true, [.d (.str ⟨#[]⟩), .nil], [(0, 9), (1, 23)], none, [(0, 1), (1, 1)], false⟩ := tyStruct (z := .agg #[.string ⟨#[]⟩, .slice none 0 0]) (b := 40) (by kernel_rfl) (by decide) ⟨_, _, rfl, ⟨zStr, fun _ _ => rfl⟩, rfl, ⟨_, _, rfl, ⟨zNil, fun _ _ => rfl⟩, rfl, rfl⟩⟩ rfl Try.underlying50 (by kernel_rfl) (by kernel_rfl)
theorem ty53 : TyOK 53 ⟨2, true, [.d (.str ⟨#[]⟩), .nil], [(0, 9), (1, 23)], none, [(0, 1), (1, 1)], false⟩ := tyStruct (z := .agg #[.string ⟨#[]⟩, .slice none 0 0]) (b := 40) (by kernel_rfl) (by decide) ⟨_, _, rfl, ⟨zStr, fun _ _ => rfl⟩, rfl, ⟨_, _, rfl, ⟨zNil, fun _ _ => rfl⟩, rfl, rfl⟩⟩ rfl Try.underlying53 (by kernel_rfl) (by kernel_rfl)
theorem ty56 : TyOK 56 ⟨1, false, [.nil], [], some (.slice 4), [], false⟩ := tyLeaf (z := .slice none 0 0) (b := 24) (by kernel_rfl) (by decide) ⟨_, _, rfl, ⟨zNil, fun _ _ => rfl⟩, rfl, rfl⟩ rfl Try.underlying56 (fun _ e => (nomatch e)) (fun _ _ e => (nomatch e))
theorem ty60 : TyOK 60 ⟨1, false, [.nil], [], some (.slice 5), [], false⟩ := tyLeaf (z := .slice none 0 0) (b := 24) (by kernel_rfl) (by decide) ⟨_, _, rfl, ⟨zNil, fun _ _ => rfl⟩, rfl, rfl⟩ rfl Try.underlying60 (fun _ e => (nomatch e)) (fun _ _ e => (nomatch e))
theorem ty65 : TyOK 65 ⟨0, true, [], [(0, 64)], none, [(0, 0)], false⟩ := tyStruct (z := .agg #[]) (b := 0) (by kernel_rfl) (by decide) rfl rfl Try.underlying65 (by kernel_rfl) (by kernel_rfl)
theorem ty66 : TyOK 66 ⟨0, true, [], [(0, 64)], none, [(0, 0)], false⟩ := tyStruct (z := .agg #[]) (b := 0) (by kernel_rfl) (by decide) rfl rfl Try.underlying66 (by kernel_rfl) (by kernel_rfl)
theorem ty69 : TyOK 69 ⟨1, false, [.d (.byte 0)], [], some (.int .u8), [], false⟩ := tyLeaf (z := .int .u8 0) (b := 1) (by kernel_rfl) (by decide) ⟨_, _, rfl, ⟨zByte, fun _ _ => rfl⟩, rfl, rfl⟩ rfl Try.underlying69 (fun _ e => (nomatch e)) (fun _ _ e => (nomatch e))
theorem ty70 : TyOK 70 ⟨1, false, [.d (.byte 0)], [], some (.int .u8), [], false⟩ := tyLeaf (z := .int .u8 0) (b := 1) (by kernel_rfl) (by decide) ⟨_, _, rfl, ⟨zByte, fun _ _ => rfl⟩, rfl, rfl⟩ rfl Try.underlying70 (fun _ e => (nomatch e)) (fun _ _ e => (nomatch e))
def tyT (T : TypeId) : Option TyI :=
  if T = 2 then some ⟨1, false, [.d (.int 0)], [], some (.int .i64), [], false⟩ else
  if T = 3 then some ⟨1, false, [.d (.int 0)], [], some (.int .i64), [], false⟩ else
  if T = 4 then some ⟨1, false, [.d (.bool false)], [], some (.bool), [], false⟩ else
  if T = 5 then some ⟨1, false, [.d (.byte 0)], [], some (.int .u8), [], false⟩ else
  if T = 6 then some ⟨1, false, [.d (.byte 0)], [], some (.int .u8), [], false⟩ else
  if T = 7 then some ⟨4, true, [.d (.int 0), .d (.int 0), .d (.bool false), .d (.byte 0)], [(0, 2), (1, 3), (2, 4), (3, 6)], none, [(0, 1), (1, 1), (2, 1), (3, 1)], false⟩ else
  if T = 8 then some ⟨4, true, [.d (.int 0), .d (.int 0), .d (.bool false), .d (.byte 0)], [(0, 2), (1, 3), (2, 4), (3, 6)], none, [(0, 1), (1, 1), (2, 1), (3, 1)], false⟩ else
  if T = 9 then some ⟨1, false, [.d (.str ⟨#[]⟩)], [], some (.string), [], false⟩ else
  if T = 10 then some ⟨1, false, [.d (.str ⟨#[]⟩)], [], some (.string), [], false⟩ else
  if T = 11 then some ⟨1, false, [.d (.str ⟨#[]⟩)], [], some (.string), [], false⟩ else
  if T = 22 then some ⟨1, false, [.nil], [], some (.slice 50), [], false⟩ else
  if T = 23 then some ⟨1, false, [.nil], [], some (.slice 3), [], false⟩ else
  if T = 24 then some ⟨3, true, [.d (.int 0), .nil, .nil], [(0, 3), (1, 22), (2, 23)], none, [(0, 1), (1, 1), (2, 1)], false⟩ else
  if T = 25 then some ⟨3, true, [.d (.int 0), .nil, .nil], [(0, 3), (1, 22), (2, 23)], none, [(0, 1), (1, 1), (2, 1)], false⟩ else
  if T = 27 then some ⟨1, false, [.nil], [], some (.slice 23), [], false⟩ else
  if T = 29 then some ⟨1, false, [.nil], [], some (.slice 53), [], false⟩ else
  if T = 30 then some ⟨3, true, [.d (.int 0), .nil, .nil], [(0, 3), (1, 29), (2, 23)], none, [(0, 1), (1, 1), (2, 1)], false⟩ else
  if T = 31 then some ⟨3, true, [.d (.int 0), .nil, .nil], [(0, 3), (1, 29), (2, 23)], none, [(0, 1), (1, 1), (2, 1)], false⟩ else
  if T = 49 then some ⟨2, true, [.d (.str ⟨#[]⟩), .nil], [(0, 9), (1, 23)], none, [(0, 1), (1, 1)], false⟩ else
  if T = 50 then some ⟨2, true, [.d (.str ⟨#[]⟩), .nil], [(0, 9), (1, 23)], none, [(0, 1), (1, 1)], false⟩ else
  if T = 53 then some ⟨2, true, [.d (.str ⟨#[]⟩), .nil], [(0, 9), (1, 23)], none, [(0, 1), (1, 1)], false⟩ else
  if T = 56 then some ⟨1, false, [.nil], [], some (.slice 4), [], false⟩ else
  if T = 60 then some ⟨1, false, [.nil], [], some (.slice 5), [], false⟩ else
  if T = 65 then some ⟨0, true, [], [(0, 64)], none, [(0, 0)], false⟩ else
  if T = 66 then some ⟨0, true, [], [(0, 64)], none, [(0, 0)], false⟩ else
  if T = 69 then some ⟨1, false, [.d (.byte 0)], [], some (.int .u8), [], false⟩ else
  if T = 70 then some ⟨1, false, [.d (.byte 0)], [], some (.int .u8), [], false⟩ else
  none
theorem tyT_ok : TabOK tyT := by
  intro T i h
  unfold tyT at h
  by_cases e2 : T = 2
  · rw [if_pos e2] at h; cases h; rw [e2]; exact ty2
  rw [if_neg e2] at h
  by_cases e3 : T = 3
  · rw [if_pos e3] at h; cases h; rw [e3]; exact ty3
  rw [if_neg e3] at h
  by_cases e4 : T = 4
  · rw [if_pos e4] at h; cases h; rw [e4]; exact ty4
  rw [if_neg e4] at h
  by_cases e5 : T = 5
  · rw [if_pos e5] at h; cases h; rw [e5]; exact ty5
  rw [if_neg e5] at h
  by_cases e6 : T = 6
  · rw [if_pos e6] at h; cases h; rw [e6]; exact ty6
  rw [if_neg e6] at h
  by_cases e7 : T = 7
  · rw [if_pos e7] at h; cases h; rw [e7]; exact ty7
  rw [if_neg e7] at h
  by_cases e8 : T = 8
  · rw [if_pos e8] at h; cases h; rw [e8]; exact ty8
  rw [if_neg e8] at h
  by_cases e9 : T = 9
  · rw [if_pos e9] at h; cases h; rw [e9]; exact ty9
  rw [if_neg e9] at h
  by_cases e10 : T = 10
  · rw [if_pos e10] at h; cases h; rw [e10]; exact ty10
  rw [if_neg e10] at h
  by_cases e11 : T = 11
  · rw [if_pos e11] at h; cases h; rw [e11]; exact ty11
  rw [if_neg e11] at h
  by_cases e22 : T = 22
  · rw [if_pos e22] at h; cases h; rw [e22]; exact ty22
  rw [if_neg e22] at h
  by_cases e23 : T = 23
  · rw [if_pos e23] at h; cases h; rw [e23]; exact ty23
  rw [if_neg e23] at h
  by_cases e24 : T = 24
  · rw [if_pos e24] at h; cases h; rw [e24]; exact ty24
  rw [if_neg e24] at h
  by_cases e25 : T = 25
  · rw [if_pos e25] at h; cases h; rw [e25]; exact ty25
  rw [if_neg e25] at h
  by_cases e27 : T = 27
  · rw [if_pos e27] at h; cases h; rw [e27]; exact ty27
  rw [if_neg e27] at h
  by_cases e29 : T = 29
  · rw [if_pos e29] at h; cases h; rw [e29]; exact ty29
  rw [if_neg e29] at h
  by_cases e30 : T = 30
  · rw [if_pos e30] at h; cases h; rw [e30]; exact ty30
  rw [if_neg e30] at h
  by_cases e31 : T = 31
  · rw [if_pos e31] at h; cases h; rw [e31]; exact ty31
  rw [if_neg e31] at h
  by_cases e49 : T = 49
  · rw [if_pos e49] at h; cases h; rw [e49]; exact ty49
  rw [if_neg e49] at h
  by_cases e50 : T = 50
  · rw [if_pos e50] at h; cases h; rw [e50]; exact ty50
  rw [if_neg e50] at h
  by_cases e53 : T = 53
  · rw [if_pos e53] at h; cases h; rw [e53]; exact ty53
  rw [if_neg e53] at h
  by_cases e56 : T = 56
  · rw [if_pos e56] at h; cases h; rw [e56]; exact ty56
  rw [if_neg e56] at h
  by_cases e60 : T = 60
  · rw [if_pos e60] at h; cases h; rw [e60]; exact ty60
  rw [if_neg e60] at h
  by_cases e65 : T = 65
  · rw [if_pos e65] at h; cases h; rw [e65]; exact ty65
  rw [if_neg e65] at h
  by_cases e66 : T = 66
  · rw [if_pos e66] at h; cases h; rw [e66]; exact ty66
  rw [if_neg e66] at h
  by_cases e69 : T = 69
  · rw [if_pos e69] at h; cases h; rw [e69]; exact ty69
  rw [if_neg e69] at h
  by_cases e70 : T = 70
  · rw [if_pos e70] at h; cases h; rw [e70]; exact ty70
  rw [if_neg e70] at h
  cases h
/-- the same types, where slices that are stored stay known as whole -/
def tyW (T : TypeId) : Option TyI := match tyT T with
  | some i => some ⟨i.size, i.agg, i.zero, i.flds, i.kd, i.pl, true⟩
  | none => none
theorem tyW_ok : TabOK tyW := by
  intro T i h
  unfold tyW at h
  split at h
  · rename_i i0 h0
    cases h
    have := tyT_ok T i0 h0
    exact ⟨this.info, this.agg, this.flat, this.kd, this.pl⟩
  · cases h
end Go.Proofs.Ytdimcbollnggjaa
