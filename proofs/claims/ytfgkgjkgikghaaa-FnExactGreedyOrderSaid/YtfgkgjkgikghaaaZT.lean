/- The table of this seat's types. Printed by tytab.py. -/
import Derived.Test.YtfgkgjkgikghaaaZB
namespace Go.Proofs.Ytfgkgjkgikghaaa
open Go.RowKit
theorem ty2 : TyOK 2 ⟨1, false, [.d (.int 0)], [], some (.int .i64), []⟩ := tyLeaf (z := .int .i64 0) (b := 8) (by kernel_rfl) (by decide) ⟨_, _, rfl, ⟨zInt, fun _ _ => rfl⟩, rfl, rfl⟩ rfl Try.underlying2 (fun _ e => (nomatch e)) (fun _ _ e => (nomatch e))
theorem ty3 : TyOK 3 ⟨1, false, [.d (.int 0)], [], some (.int .i64), []⟩ := tyLeaf (z := .int .i64 0) (b := 8) (by kernel_rfl) (by decide) ⟨_, _, rfl, ⟨zInt, fun _ _ => rfl⟩, rfl, rfl⟩ rfl Try.underlying3 (fun _ e => (nomatch e)) (fun _ _ e => (nomatch e))
theorem ty4 : TyOK 4 ⟨1, false, [.d (.bool false)], [], some (.bool), []⟩ := tyLeaf (z := .bool false) (b := 1) (by kernel_rfl) (by decide) ⟨_, _, rfl, ⟨zBool, fun _ _ => rfl⟩, rfl, rfl⟩ rfl Try.underlying4 (fun _ e => (nomatch e)) (fun _ _ e => (nomatch e))
theorem ty5 : TyOK 5 ⟨1, false, [.d (.byte 0)], [], some (.int .u8), []⟩ := tyLeaf (z := .int .u8 0) (b := 1) (by kernel_rfl) (by decide) ⟨_, _, rfl, ⟨zByte, fun _ _ => rfl⟩, rfl, rfl⟩ rfl Try.underlying5 (fun _ e => (nomatch e)) (fun _ _ e => (nomatch e))
theorem ty6 : TyOK 6 ⟨1, false, [.d (.byte 0)], [], some (.int .u8), []⟩ := tyLeaf (z := .int .u8 0) (b := 1) (by kernel_rfl) (by decide) ⟨_, _, rfl, ⟨zByte, fun _ _ => rfl⟩, rfl, rfl⟩ rfl Try.underlying6 (fun _ e => (nomatch e)) (fun _ _ e => (nomatch e))
theorem ty7 : TyOK 7 ⟨4, true, [.d (.int 0), .d (.int 0), .d (.bool false), .d (.byte 0)], [(0, 2), (1, 3), (2, 4), (3, 6)], none, [(0, 1), (1, 1), (2, 1), (3, 1)]⟩ := tyStruct (z := .agg #[.int .i64 0, .int .i64 0, .bool false, .int .u8 0]) (b := 24) (by kernel_rfl) (by decide) ⟨_, _, rfl, ⟨zInt, fun _ _ => rfl⟩, rfl, ⟨_, _, rfl, ⟨zInt, fun _ _ => rfl⟩, rfl, ⟨_, _, rfl, ⟨zBool, fun _ _ => rfl⟩, rfl, ⟨_, _, rfl, ⟨zByte, fun _ _ => rfl⟩, rfl, rfl⟩⟩⟩⟩ rfl Try.underlying7 (by kernel_rfl) (by kernel_rfl)
theorem ty8 : TyOK 8 ⟨4, true, [.d (.int 0), .d (.int 0), .d (.bool false), .d (.byte 0)], [(0, 2), (1, 3), (2, 4), (3, 6)], none, [(0, 1), (1, 1), (2, 1), (3, 1)]⟩ := tyStruct (z := .agg #[.int .i64 0, .int .i64 0, .bool false, .int .u8 0]) (b := 24) (by kernel_rfl) (by decide) ⟨_, _, rfl, ⟨zInt, fun _ _ => rfl⟩, rfl, ⟨_, _, rfl, ⟨zInt, fun _ _ => rfl⟩, rfl, ⟨_, _, rfl, ⟨zBool, fun _ _ => rfl⟩, rfl, ⟨_, _, rfl, ⟨zByte, fun _ _ => rfl⟩, rfl, rfl⟩⟩⟩⟩ rfl Try.underlying8 (by kernel_rfl) (by kernel_rfl)
theorem ty9 : TyOK 9 ⟨1, false, [.d (.str ⟨#[]⟩)], [], some (.string), []⟩ := tyLeaf (z := .string ⟨#[]⟩) (b := 16) (by kernel_rfl) (by decide) ⟨_, _, rfl, ⟨zStr, fun _ _ => rfl⟩, rfl, rfl⟩ rfl Try.underlying9 (fun _ e => (nomatch e)) (fun _ _ e => (nomatch e))
theorem ty10 : TyOK 10 ⟨1, false, [.d (.str ⟨#[]⟩)], [], some (.string), []⟩ := tyLeaf (z := .string ⟨#[]⟩) (b := 16) (by kernel_rfl) (by decide) ⟨_, _, rfl, ⟨zStr, fun _ _ => rfl⟩, rfl, rfl⟩ rfl Try.underlying10 (fun _ e => (nomatch e)) (fun _ _ e => (nomatch e))
theorem ty11 : TyOK 11 ⟨1, false, [.d (.str ⟨#[]⟩)], [], some (.string), []⟩ := tyLeaf (z := .string ⟨#[]⟩) (b := 16) (by kernel_rfl) (by decide) ⟨_, _, rfl, ⟨zStr, fun _ _ => rfl⟩, rfl, rfl⟩ rfl Try.underlying11 (fun _ e => (nomatch e)) (fun _ _ e => (nomatch e))
theorem ty22 : TyOK 22 ⟨1, false, [.nil], [], some (.slice 52), []⟩ := tyLeaf (z := .slice none 0 0) (b := 24) (by kernel_rfl) (by decide) ⟨_, _, rfl, ⟨zNil, fun _ _ => rfl⟩, rfl, rfl⟩ rfl Try.underlying22 (fun _ e => (nomatch e)) (fun _ _ e => (nomatch e))
theorem ty23 : TyOK 23 ⟨1, false, [.nil], [], some (.slice 3), []⟩ := tyLeaf (z := .slice none 0 0) (b := 24) (by kernel_rfl) (by decide) ⟨_, _, rfl, ⟨zNil, fun _ _ => rfl⟩, rfl, rfl⟩ rfl Try.underlying23 (fun _ e => (nomatch e)) (fun _ _ e => (nomatch e))
theorem ty24 : TyOK 24 ⟨3, true, [.d (.int 0), .nil, .nil], [(0, 3), (1, 22), (2, 23)], none, [(0, 1), (1, 1), (2, 1)]⟩ := tyStruct (z := .agg #[.int .i64 0, .slice none 0 0, .slice none 0 0]) (b := 56) (by kernel_rfl) (by decide) ⟨_, _, rfl, ⟨zInt, fun _ _ => rfl⟩, rfl, ⟨_, _, rfl, ⟨zNil, fun _ _ => rfl⟩, rfl, ⟨_, _, rfl, ⟨zNil, fun _ _ => rfl⟩, rfl, rfl⟩⟩⟩ rfl Try.underlying24 (by kernel_rfl) (by kernel_rfl)
theorem ty25 : TyOK 25 ⟨3, true, [.d (.int 0), .nil, .nil], [(0, 3), (1, 22), (2, 23)], none, [(0, 1), (1, 1), (2, 1)]⟩ := tyStruct (z := .agg #[.int .i64 0, .slice none 0 0, .slice none 0 0]) (b := 56) (by kernel_rfl) (by decide) ⟨_, _, rfl, ⟨zInt, fun _ _ => rfl⟩, rfl, ⟨_, _, rfl, ⟨zNil, fun _ _ => rfl⟩, rfl, ⟨_, _, rfl, ⟨zNil, fun _ _ => rfl⟩, rfl, rfl⟩⟩⟩ rfl Try.underlying25 (by kernel_rfl) (by kernel_rfl)
theorem ty28 : TyOK 28 ⟨1, false, [.nil], [], some (.slice 55), []⟩ := tyLeaf (z := .slice none 0 0) (b := 24) (by kernel_rfl) (by decide) ⟨_, _, rfl, ⟨zNil, fun _ _ => rfl⟩, rfl, rfl⟩ rfl Try.underlying28 (fun _ e => (nomatch e)) (fun _ _ e => (nomatch e))
theorem ty29 : TyOK 29 ⟨3, true, [.d (.int 0), .nil, .nil], [(0, 3), (1, 28), (2, 23)], none, [(0, 1), (1, 1), (2, 1)]⟩ := tyStruct (z := .agg #[.int .i64 0, .slice none 0 0, .slice none 0 0]) (b := 56) (by kernel_rfl) (by decide) ⟨_, _, rfl, ⟨zInt, fun _ _ => rfl⟩, rfl, ⟨_, _, rfl, ⟨zNil, fun _ _ => rfl⟩, rfl, ⟨_, _, rfl, ⟨zNil, fun _ _ => rfl⟩, rfl, rfl⟩⟩⟩ rfl Try.underlying29 (by kernel_rfl) (by kernel_rfl)
theorem ty30 : TyOK 30 ⟨3, true, [.d (.int 0), .nil, .nil], [(0, 3), (1, 28), (2, 23)], none, [(0, 1), (1, 1), (2, 1)]⟩ := tyStruct (z := .agg #[.int .i64 0, .slice none 0 0, .slice none 0 0]) (b := 56) (by kernel_rfl) (by decide) ⟨_, _, rfl, ⟨zInt, fun _ _ => rfl⟩, rfl, ⟨_, _, rfl, ⟨zNil, fun _ _ => rfl⟩, rfl, ⟨_, _, rfl, ⟨zNil, fun _ _ => rfl⟩, rfl, rfl⟩⟩⟩ rfl Try.underlying30 (by kernel_rfl) (by kernel_rfl)
theorem ty51 : TyOK 51 ⟨2, true, [.d (.str ⟨#[]⟩), .nil], [(0, 9), (1, 23)], none, [(0, 1), (1, 1)]⟩ := tyStruct (z := .agg #[.string ⟨#[]⟩, .slice none 0 0]) (b := 40) (by kernel_rfl) (by decide) ⟨_, _, rfl, ⟨zStr, fun _ _ => rfl⟩, rfl, ⟨_, _, rfl, ⟨zNil, fun _ _ => rfl⟩, rfl, rfl⟩⟩ rfl Try.underlying51 (by kernel_rfl) (by kernel_rfl)
theorem ty52 : TyOK 52 ⟨2, true, [.d (.str ⟨#[]⟩), .nil], [(0, 9), (1, 23)], none, [(0, 1), (1, 1)]⟩ := tyStruct (z := .agg #[.string ⟨#[]⟩, .slice none 0 0]) (b := 40) (by kernel_rfl) (by decide) ⟨_, _, rfl, ⟨zStr, fun _ _ => rfl⟩, rfl, ⟨_, _, rfl, ⟨zNil, fun _ _ => rfl⟩, rfl, rfl⟩⟩ rfl Try.underlying52 (by kernel_rfl) (by kernel_rfl)
theorem ty55 : TyOK 55 ⟨2, true, [.d (.str ⟨#[]⟩), .nil], [(0, 9), (1, 23)], none, [(0, 1), (1, 1)]⟩ := tyStruct (z := .agg #[.string ⟨#[]⟩, .slice none 0 0]) (b := 40) (by kernel_rfl) (by decide) ⟨_, _, rfl, ⟨zStr, fun _ _ => rfl⟩, rfl, ⟨_, _, rfl, ⟨zNil, fun _ _ => rfl⟩, rfl, rfl⟩⟩ rfl Try.underlying55 (by kernel_rfl) (by kernel_rfl)
theorem ty59 : TyOK 59 ⟨1, false, [.nil], [], some (.slice 4), []⟩ := tyLeaf (z := .slice none 0 0) (b := 24) (by kernel_rfl) (by decide) ⟨_, _, rfl, ⟨zNil, fun _ _ => rfl⟩, rfl, rfl⟩ rfl Try.underlying59 (fun _ e => (nomatch e)) (fun _ _ e => (nomatch e))
theorem ty65 : TyOK 65 ⟨1, false, [.nil], [], some (.slice 5), []⟩ := tyLeaf (z := .slice none 0 0) (b := 24) (by kernel_rfl) (by decide) ⟨_, _, rfl, ⟨zNil, fun _ _ => rfl⟩, rfl, rfl⟩ rfl Try.underlying65 (fun _ e => (nomatch e)) (fun _ _ e => (nomatch e))
theorem ty70 : TyOK 70 ⟨0, true, [], [(0, 69)], none, [(0, 0)]⟩ := tyStruct (z := .agg #[]) (b := 0) (by kernel_rfl) (by decide) rfl rfl Try.underlying70 (by kernel_rfl) (by kernel_rfl)
theorem ty71 : TyOK 71 ⟨0, true, [], [(0, 69)], none, [(0, 0)]⟩ := tyStruct (z := .agg #[]) (b := 0) (by kernel_rfl) (by decide) rfl rfl Try.underlying71 (by kernel_rfl) (by kernel_rfl)
theorem ty74 : TyOK 74 ⟨1, false, [.d (.byte 0)], [], some (.int .u8), []⟩ := tyLeaf (z := .int .u8 0) (b := 1) (by kernel_rfl) (by decide) ⟨_, _, rfl, ⟨zByte, fun _ _ => rfl⟩, rfl, rfl⟩ rfl Try.underlying74 (fun _ e => (nomatch e)) (fun _ _ e => (nomatch e))
theorem ty75 : TyOK 75 ⟨1, false, [.d (.byte 0)], [], some (.int .u8), []⟩ := tyLeaf (z := .int .u8 0) (b := 1) (by kernel_rfl) (by decide) ⟨_, _, rfl, ⟨zByte, fun _ _ => rfl⟩, rfl, rfl⟩ rfl Try.underlying75 (fun _ e => (nomatch e)) (fun _ _ e => (nomatch e))
def tyT (T : TypeId) : Option TyI :=
  if T = 2 then some ⟨1, false, [.d (.int 0)], [], some (.int .i64), []⟩ else
  if T = 3 then some ⟨1, false, [.d (.int 0)], [], some (.int .i64), []⟩ else
  if T = 4 then some ⟨1, false, [.d (.bool false)], [], some (.bool), []⟩ else
  if T = 5 then some ⟨1, false, [.d (.byte 0)], [], some (.int .u8), []⟩ else
  if T = 6 then some ⟨1, false, [.d (.byte 0)], [], some (.int .u8), []⟩ else
  if T = 7 then some ⟨4, true, [.d (.int 0), .d (.int 0), .d (.bool false), .d (.byte 0)], [(0, 2), (1, 3), (2, 4), (3, 6)], none, [(0, 1), (1, 1), (2, 1), (3, 1)]⟩ else
  if T = 8 then some ⟨4, true, [.d (.int 0), .d (.int 0), .d (.bool false), .d (.byte 0)], [(0, 2), (1, 3), (2, 4), (3, 6)], none, [(0, 1), (1, 1), (2, 1), (3, 1)]⟩ else
  if T = 9 then some ⟨1, false, [.d (.str ⟨#[]⟩)], [], some (.string), []⟩ else
  if T = 10 then some ⟨1, false, [.d (.str ⟨#[]⟩)], [], some (.string), []⟩ else
  if T = 11 then some ⟨1, false, [.d (.str ⟨#[]⟩)], [], some (.string), []⟩ else
  if T = 22 then some ⟨1, false, [.nil], [], some (.slice 52), []⟩ else
  if T = 23 then some ⟨1, false, [.nil], [], some (.slice 3), []⟩ else
  if T = 24 then some ⟨3, true, [.d (.int 0), .nil, .nil], [(0, 3), (1, 22), (2, 23)], none, [(0, 1), (1, 1), (2, 1)]⟩ else
  if T = 25 then some ⟨3, true, [.d (.int 0), .nil, .nil], [(0, 3), (1, 22), (2, 23)], none, [(0, 1), (1, 1), (2, 1)]⟩ else
  if T = 28 then some ⟨1, false, [.nil], [], some (.slice 55), []⟩ else
  if T = 29 then some ⟨3, true, [.d (.int 0), .nil, .nil], [(0, 3), (1, 28), (2, 23)], none, [(0, 1), (1, 1), (2, 1)]⟩ else
  if T = 30 then some ⟨3, true, [.d (.int 0), .nil, .nil], [(0, 3), (1, 28), (2, 23)], none, [(0, 1), (1, 1), (2, 1)]⟩ else
  if T = 51 then some ⟨2, true, [.d (.str ⟨#[]⟩), .nil], [(0, 9), (1, 23)], none, [(0, 1), (1, 1)]⟩ else
  if T = 52 then some ⟨2, true, [.d (.str ⟨#[]⟩), .nil], [(0, 9), (1, 23)], none, [(0, 1), (1, 1)]⟩ else
  if T = 55 then some ⟨2, true, [.d (.str ⟨#[]⟩), .nil], [(0, 9), (1, 23)], none, [(0, 1), (1, 1)]⟩ else
  if T = 59 then some ⟨1, false, [.nil], [], some (.slice 4), []⟩ else
  if T = 65 then some ⟨1, false, [.nil], [], some (.slice 5), []⟩ else
  if T = 70 then some ⟨0, true, [], [(0, 69)], none, [(0, 0)]⟩ else
  if T = 71 then some ⟨0, true, [], [(0, 69)], none, [(0, 0)]⟩ else
  if T = 74 then some ⟨1, false, [.d (.byte 0)], [], some (.int .u8), []⟩ else
  if T = 75 then some ⟨1, false, [.d (.byte 0)], [], some (.int .u8), []⟩ else
  none
theorem tyT_ok : TabOK tyT := by
  intro T i h
  unfold tyT at h
  by_cases e2 : T = 2
  · rw [if_pos e2] at h; cases h; rw [e2]; exact ty2
  rw [if_neg e2] at h
  by_cases e3 : T = 3
  · rw [if_pos e3] at h; cases h; rw [e3]; exact ty3
  rw [if_neg e3] at h
  by_cases e4 : T = 4
  · rw [if_pos e4] at h; cases h; rw [e4]; exact ty4
  rw [if_neg e4] at h
  by_cases e5 : T = 5
  · rw [if_pos e5] at h; cases h; rw [e5]; exact ty5
  rw [if_neg e5] at h
  by_cases e6 : T = 6
  · rw [if_pos e6] at h; cases h; rw [e6]; exact ty6
  rw [if_neg e6] at h
  by_cases e7 : T = 7
  · rw [if_pos e7] at h; cases h; rw [e7]; exact ty7
  rw [if_neg e7] at h
  by_cases e8 : T = 8
  · rw [if_pos e8] at h; cases h; rw [e8]; exact ty8
  rw [if_neg e8] at h
  by_cases e9 : T = 9
  · rw [if_pos e9] at h; cases h; rw [e9]; exact ty9
  rw [if_neg e9] at h
  by_cases e10 : T = 10
  · rw [if_pos e10] at h; cases h; rw [e10]; exact ty10
  rw [if_neg e10] at h
  by_cases e11 : T = 11
  · rw [if_pos e11] at h; cases h; rw [e11]; exact ty11
  rw [if_neg e11] at h
  by_cases e22 : T = 22
  · rw [if_pos e22] at h; cases h; rw [e22]; exact ty22
  rw [if_neg e22] at h
  by_cases e23 : T = 23
  · rw [if_pos e23] at h; cases h; rw [e23]; exact ty23
  rw [if_neg e23] at h
  by_cases e24 : T = 24
  · rw [if_pos e24] at h; cases h; rw [e24]; exact ty24
  rw [if_neg e24] at h
  by_cases e25 : T = 25
  · rw [if_pos e25] at h; cases h; rw [e25]; exact ty25
  rw [if_neg e25] at h
  by_cases e28 : T = 28
  · rw [if_pos e28] at h; cases h; rw [e28]; exact ty28
  rw [if_neg e28] at h
  by_cases e29 : T = 29
  · rw [if_pos e29] at h; cases h; rw [e29]; exact ty29
  rw [if_neg e29] at h
  by_cases e30 : T = 30
  · rw [if_pos e30] at h; cases h; rw [e30]; exact ty30
  rw [if_neg e30] at h
  by_cases e51 : T = 51
  · rw [if_pos e51] at h; cases h; rw [e51]; exact ty51
  rw [if_neg e51] at h
  by_cases e52 : T = 52
  · rw [if_pos e52] at h; cases h; rw [e52]; exact ty52
  rw [if_neg e52] at h
  by_cases e55 : T = 55
  · rw [if_pos e55] at h; cases h; rw [e55]; exact ty55
  rw [if_neg e55] at h
  by_cases e59 : T = 59
  · rw [if_pos e59] at h; cases h; rw [e59]; exact ty59
  rw [if_neg e59] at h
  by_cases e65 : T = 65
  · rw [if_pos e65] at h; cases h; rw [e65]; exact ty65
  rw [if_neg e65] at h
  by_cases e70 : T = 70
  · rw [if_pos e70] at h; cases h; rw [e70]; exact ty70
  rw [if_neg e70] at h
  by_cases e71 : T = 71
  · rw [if_pos e71] at h; cases h; rw [e71]; exact ty71
  rw [if_neg e71] at h
  by_cases e74 : T = 74
  · rw [if_pos e74] at h; cases h; rw [e74]; exact ty74
  rw [if_neg e74] at h
  by_cases e75 : T = 75
  · rw [if_pos e75] at h; cases h; rw [e75]; exact ty75
  rw [if_neg e75] at h
  cases h
end Go.Proofs.Ytfgkgjkgikghaaa
