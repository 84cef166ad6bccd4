/- The table of this seat's types. Printed by tytab.py. -/
import Derived.Test.YtkhilfgkejienaaZB
namespace Go.Proofs.Ytkhilfgkejienaa
open Go.RowKit
theorem ty2 : TyOK 2 ⟨1, false, [.d (.int 0)], [], some (.int .i64), []⟩ := tyLeaf (z := .int .i64 0) (b := 8) (by kernel_rfl) (by decide) ⟨_, _, rfl, ⟨zInt, fun _ _ => rfl⟩, rfl, rfl⟩ rfl Try.underlying2 (fun _ e => (nomatch e)) (fun _ _ e => (nomatch e))
theorem ty3 : TyOK 3 ⟨1, false, [.d (.int 0)], [], some (.int .i64), []⟩ := tyLeaf (z := .int .i64 0) (b := 8) (by kernel_rfl) (by decide) ⟨_, _, rfl, ⟨zInt, fun _ _ => rfl⟩, rfl, rfl⟩ rfl Try.underlying3 (fun _ e => (nomatch e)) (fun _ _ e => (nomatch e))
theorem ty4 : TyOK 4 ⟨1, false, [.d (.bool false)], [], some (.bool), []⟩ := tyLeaf (z := .bool false) (b := 1) (by kernel_rfl) (by decide) ⟨_, _, rfl, ⟨zBool, fun _ _ => rfl⟩, rfl, rfl⟩ rfl Try.underlying4 (fun _ e => (nomatch e)) (fun _ _ e => (nomatch e))
theorem ty5 : TyOK 5 ⟨1, false, [.d (.byte 0)], [], some (.int .u8), []⟩ := tyLeaf (z := .int .u8 0) (b := 1) (by kernel_rfl) (by decide) ⟨_, _, rfl, ⟨zByte, fun _ _ => rfl⟩, rfl, rfl⟩ rfl Try.underlying5 (fun _ e => (nomatch e)) (fun _ _ e => (nomatch e))
theorem ty6 : TyOK 6 ⟨1, false, [.d (.byte 0)], [], some (.int .u8), []⟩ := tyLeaf (z := .int .u8 0) (b := 1) (by kernel_rfl) (by decide) ⟨_, _, rfl, ⟨zByte, fun _ _ => rfl⟩, rfl, rfl⟩ rfl Try.underlying6 (fun _ e => (nomatch e)) (fun _ _ e => (nomatch e))
theorem ty7 : TyOK 7 ⟨4, true, [.d (.int 0), .d (.int 0), .d (.bool false), .d (.byte 0)], [(0, 2), (1, 3), (2, 4), (3, 6)], none, [(0, 1), (1, 1), (2, 1), (3, 1)]⟩ := tyStruct (z := .agg #[.int .i64 0, .int .i64 0, .bool false, .int .u8 0]) (b := 24) (by kernel_rfl) (by decide) ⟨_, _, rfl, ⟨zInt, fun _ _ => rfl⟩, rfl, ⟨_, _, rfl, ⟨zInt, fun _ _ => rfl⟩, rfl, ⟨_, _, rfl, ⟨zBool, fun _ _ => rfl⟩, rfl, ⟨_, _, rfl, ⟨zByte, fun _ _ => rfl⟩, rfl, rfl⟩⟩⟩⟩ rfl Try.underlying7 (by kernel_rfl) (by kernel_rfl)
theorem ty8 : TyOK 8 ⟨4, true, [.d (.int 0), .d (.int 0), .d (.bool false), .d (.byte 0)], [(0, 2), (1, 3), (2, 4), (3, 6)], none, [(0, 1), (1, 1), (2, 1), (3, 1)]⟩ := tyStruct (z := .agg #[.int .i64 0, .int .i64 0, .bool false, .int .u8 0]) (b := 24) (by kernel_rfl) (by decide) ⟨_, _, rfl, ⟨zInt, fun _ _ => rfl⟩, rfl, ⟨_, _, rfl, ⟨zInt, fun _ _ => rfl⟩, rfl, ⟨_, _, rfl, ⟨zBool, fun _ _ => rfl⟩, rfl, ⟨_, _, rfl, ⟨zByte, fun _ _ => rfl⟩, rfl, rfl⟩⟩⟩⟩ rfl Try.underlying8 (by kernel_rfl) (by kernel_rfl)
theorem ty9 : TyOK 9 ⟨1, false, [.d (.str ⟨#[]⟩)], [], some (.string), []⟩ := tyLeaf (z := .string ⟨#[]⟩) (b := 16) (by kernel_rfl) (by decide) ⟨_, _, rfl, ⟨zStr, fun _ _ => rfl⟩, rfl, rfl⟩ rfl Try.underlying9 (fun _ e => (nomatch e)) (fun _ _ e => (nomatch e))
theorem ty10 : TyOK 10 ⟨1, false, [.d (.str ⟨#[]⟩)], [], some (.string), []⟩ := tyLeaf (z := .string ⟨#[]⟩) (b := 16) (by kernel_rfl) (by decide) ⟨_, _, rfl, ⟨zStr, fun _ _ => rfl⟩, rfl, rfl⟩ rfl Try.underlying10 (fun _ e => (nomatch e)) (fun _ _ e => (nomatch e))
theorem ty11 : TyOK 11 ⟨1, false, [.d (.str ⟨#[]⟩)], [], some (.string), []⟩ := tyLeaf (z := .string ⟨#[]⟩) (b := 16) (by kernel_rfl) (by decide) ⟨_, _, rfl, ⟨zStr, fun _ _ => rfl⟩, rfl, rfl⟩ rfl Try.underlying11 (fun _ e => (nomatch e)) (fun _ _ e => (nomatch e))
theorem ty22 : TyOK 22 ⟨1, false, [.nil], [], some (.slice 5), []⟩ := tyLeaf (z := .slice none 0 0) (b := 24) (by kernel_rfl) (by decide) ⟨_, _, rfl, ⟨zNil, fun _ _ => rfl⟩, rfl, rfl⟩ rfl Try.underlying22 (fun _ e => (nomatch e)) (fun _ _ e => (nomatch e))
theorem ty24 : TyOK 24 ⟨1, false, [.nil], [], some (.slice 26), []⟩ := tyLeaf (z := .slice none 0 0) (b := 24) (by kernel_rfl) (by decide) ⟨_, _, rfl, ⟨zNil, fun _ _ => rfl⟩, rfl, rfl⟩ rfl Try.underlying24 (fun _ e => (nomatch e)) (fun _ _ e => (nomatch e))
theorem ty26 : TyOK 26 ⟨1, false, [.nil], [], some (.slice 3), []⟩ := tyLeaf (z := .slice none 0 0) (b := 24) (by kernel_rfl) (by decide) ⟨_, _, rfl, ⟨zNil, fun _ _ => rfl⟩, rfl, rfl⟩ rfl Try.underlying26 (fun _ e => (nomatch e)) (fun _ _ e => (nomatch e))
theorem ty44 : TyOK 44 ⟨3, true, [.nil, .d (.int 0), .d (.int 0)], [(0, 22), (1, 3), (2, 3)], none, [(0, 1), (1, 1), (2, 1)]⟩ := tyStruct (z := .agg #[.slice none 0 0, .int .i64 0, .int .i64 0]) (b := 40) (by kernel_rfl) (by decide) ⟨_, _, rfl, ⟨zNil, fun _ _ => rfl⟩, rfl, ⟨_, _, rfl, ⟨zInt, fun _ _ => rfl⟩, rfl, ⟨_, _, rfl, ⟨zInt, fun _ _ => rfl⟩, rfl, rfl⟩⟩⟩ rfl Try.underlying44 (by kernel_rfl) (by kernel_rfl)
theorem ty45 : TyOK 45 ⟨3, true, [.nil, .d (.int 0), .d (.int 0)], [(0, 22), (1, 3), (2, 3)], none, [(0, 1), (1, 1), (2, 1)]⟩ := tyStruct (z := .agg #[.slice none 0 0, .int .i64 0, .int .i64 0]) (b := 40) (by kernel_rfl) (by decide) ⟨_, _, rfl, ⟨zNil, fun _ _ => rfl⟩, rfl, ⟨_, _, rfl, ⟨zInt, fun _ _ => rfl⟩, rfl, ⟨_, _, rfl, ⟨zInt, fun _ _ => rfl⟩, rfl, rfl⟩⟩⟩ rfl Try.underlying45 (by kernel_rfl) (by kernel_rfl)
theorem ty55 : TyOK 55 ⟨0, true, [], [(0, 54)], none, [(0, 0)]⟩ := tyStruct (z := .agg #[]) (b := 0) (by kernel_rfl) (by decide) rfl rfl Try.underlying55 (by kernel_rfl) (by kernel_rfl)
theorem ty56 : TyOK 56 ⟨0, true, [], [(0, 54)], none, [(0, 0)]⟩ := tyStruct (z := .agg #[]) (b := 0) (by kernel_rfl) (by decide) rfl rfl Try.underlying56 (by kernel_rfl) (by kernel_rfl)
theorem ty59 : TyOK 59 ⟨1, false, [.d (.byte 0)], [], some (.int .u8), []⟩ := tyLeaf (z := .int .u8 0) (b := 1) (by kernel_rfl) (by decide) ⟨_, _, rfl, ⟨zByte, fun _ _ => rfl⟩, rfl, rfl⟩ rfl Try.underlying59 (fun _ e => (nomatch e)) (fun _ _ e => (nomatch e))
theorem ty60 : TyOK 60 ⟨1, false, [.d (.byte 0)], [], some (.int .u8), []⟩ := tyLeaf (z := .int .u8 0) (b := 1) (by kernel_rfl) (by decide) ⟨_, _, rfl, ⟨zByte, fun _ _ => rfl⟩, rfl, rfl⟩ rfl Try.underlying60 (fun _ e => (nomatch e)) (fun _ _ e => (nomatch e))
def tyT (T : TypeId) : Option TyI :=
  if T = 2 then some ⟨1, false, [.d (.int 0)], [], some (.int .i64), []⟩ else
  if T = 3 then some ⟨1, false, [.d (.int 0)], [], some (.int .i64), []⟩ else
  if T = 4 then some ⟨1, false, [.d (.bool false)], [], some (.bool), []⟩ else
  if T = 5 then some ⟨1, false, [.d (.byte 0)], [], some (.int .u8), []⟩ else
  if T = 6 then some ⟨1, false, [.d (.byte 0)], [], some (.int .u8), []⟩ else
  if T = 7 then some ⟨4, true, [.d (.int 0), .d (.int 0), .d (.bool false), .d (.byte 0)], [(0, 2), (1, 3), (2, 4), (3, 6)], none, [(0, 1), (1, 1), (2, 1), (3, 1)]⟩ else
  if T = 8 then some ⟨4, true, [.d (.int 0), .d (.int 0), .d (.bool false), .d (.byte 0)], [(0, 2), (1, 3), (2, 4), (3, 6)], none, [(0, 1), (1, 1), (2, 1), (3, 1)]⟩ else
  if T = 9 then some ⟨1, false, [.d (.str ⟨#[]⟩)], [], some (.string), []⟩ else
  if T = 10 then some ⟨1, false, [.d (.str ⟨#[]⟩)], [], some (.string), []⟩ else
  if T = 11 then some ⟨1, false, [.d (.str ⟨#[]⟩)], [], some (.string), []⟩ else
  if T = 22 then some ⟨1, false, [.nil], [], some (.slice 5), []⟩ else
  if T = 24 then some ⟨1, false, [.nil], [], some (.slice 26), []⟩ else
  if T = 26 then some ⟨1, false, [.nil], [], some (.slice 3), []⟩ else
  if T = 44 then some ⟨3, true, [.nil, .d (.int 0), .d (.int 0)], [(0, 22), (1, 3), (2, 3)], none, [(0, 1), (1, 1), (2, 1)]⟩ else
  if T = 45 then some ⟨3, true, [.nil, .d (.int 0), .d (.int 0)], [(0, 22), (1, 3), (2, 3)], none, [(0, 1), (1, 1), (2, 1)]⟩ else
  if T = 55 then some ⟨0, true, [], [(0, 54)], none, [(0, 0)]⟩ else
  if T = 56 then some ⟨0, true, [], [(0, 54)], none, [(0, 0)]⟩ else
  if T = 59 then some ⟨1, false, [.d (.byte 0)], [], some (.int .u8), []⟩ else
  if T = 60 then some ⟨1, false, [.d (.byte 0)], [], some (.int .u8), []⟩ else
  none
theorem tyT_ok : TabOK tyT := by
  intro T i h
  unfold tyT at h
  by_cases e2 : T = 2
  · rw [if_pos e2] at h; cases h; rw [e2]; exact ty2
  rw [if_neg e2] at h
  by_cases e3 : T = 3
  · rw [if_pos e3] at h; cases h; rw [e3]; exact ty3
  rw [if_neg e3] at h
  by_cases e4 : T = 4
  · rw [if_pos e4] at h; cases h; rw [e4]; exact ty4
  rw [if_neg e4] at h
  by_cases e5 : T = 5
  · rw [if_pos e5] at h; cases h; rw [e5]; exact ty5
  rw [if_neg e5] at h
  by_cases e6 : T = 6
  · rw [if_pos e6] at h; cases h; rw [e6]; exact ty6
  rw [if_neg e6] at h
  by_cases e7 : T = 7
  · rw [if_pos e7] at h; cases h; rw [e7]; exact ty7
  rw [if_neg e7] at h
  by_cases e8 : T = 8
  · rw [if_pos e8] at h; cases h; rw [e8]; exact ty8
  rw [if_neg e8] at h
  by_cases e9 : T = 9
  · rw [if_pos e9] at h; cases h; rw [e9]; exact ty9
  rw [if_neg e9] at h
  by_cases e10 : T = 10
  · rw [if_pos e10] at h; cases h; rw [e10]; exact ty10
  rw [if_neg e10] at h
  by_cases e11 : T = 11
  · rw [if_pos e11] at h; cases h; rw [e11]; exact ty11
  rw [if_neg e11] at h
  by_cases e22 : T = 22
  · rw [if_pos e22] at h; cases h; rw [e22]; exact ty22
  rw [if_neg e22] at h
  by_cases e24 : T = 24
  · rw [if_pos e24] at h; cases h; rw [e24]; exact ty24
  rw [if_neg e24] at h
  by_cases e26 : T = 26
  · rw [if_pos e26] at h; cases h; rw [e26]; exact ty26
  rw [if_neg e26] at h
  by_cases e44 : T = 44
  · rw [if_pos e44] at h; cases h; rw [e44]; exact ty44
  rw [if_neg e44] at h
  by_cases e45 : T = 45
  · rw [if_pos e45] at h; cases h; rw [e45]; exact ty45
  rw [if_neg e45] at h
  by_cases e55 : T = 55
  · rw [if_pos e55] at h; cases h; rw [e55]; exact ty55
  rw [if_neg e55] at h
  by_cases e56 : T = 56
  · rw [if_pos e56] at h; cases h; rw [e56]; exact ty56
  rw [if_neg e56] at h
  by_cases e59 : T = 59
  · rw [if_pos e59] at h; cases h; rw [e59]; exact ty59
  rw [if_neg e59] at h
  by_cases e60 : T = 60
  · rw [if_pos e60] at h; cases h; rw [e60]; exact ty60
  rw [if_neg e60] at h
  cases h
end Go.Proofs.Ytkhilfgkejienaa
