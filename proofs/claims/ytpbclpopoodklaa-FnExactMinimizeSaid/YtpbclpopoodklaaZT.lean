/- Lemmas for the proof of FnExactMaximize, part 5 of 56: no condition of their own. -/
import Derived.Test.YtpbclpopoodklaaZB
namespace Go.Proofs.Ytpbclpopoodklaa
open Go.RowKit
theorem ty2:TyOK 2 ⟨1,false,[.d (.int 0)],[],some (.int .i64),[],false,false⟩:=tyLeaf (z:=.int .i64 0) (b:=8) (by kernel_rfl) (by decide) ⟨_,_,rfl,⟨zInt,fun _ _=>rfl⟩,rfl,rfl⟩ rfl Try.underlying2 (fun _ e=>(by cases e)) (fun _ _ e=>(by cases e))
theorem ty3:TyOK 3 ⟨1,false,[.d (.int 0)],[],some (.int .i64),[],false,false⟩:=tyLeaf (z:=.int .i64 0) (b:=8) (by kernel_rfl) (by decide) ⟨_,_,rfl,⟨zInt,fun _ _=>rfl⟩,rfl,rfl⟩ rfl Try.underlying3 (fun _ e=>(by cases e)) (fun _ _ e=>(by cases e))
theorem ty4:TyOK 4 ⟨1,false,[.d (.bool false)],[],some (.bool),[],false,false⟩:=tyLeaf (z:=.bool false) (b:=1) (by kernel_rfl) (by decide) ⟨_,_,rfl,⟨zBool,fun _ _=>rfl⟩,rfl,rfl⟩ rfl Try.underlying4 (fun _ e=>(by cases e)) (fun _ _ e=>(by cases e))
theorem ty5:TyOK 5 ⟨1,false,[.d (.byte 0)],[],some (.int .u8),[],false,false⟩:=tyLeaf (z:=.int .u8 0) (b:=1) (by kernel_rfl) (by decide) ⟨_,_,rfl,⟨zByte,fun _ _=>rfl⟩,rfl,rfl⟩ rfl Try.underlying5 (fun _ e=>(by cases e)) (fun _ _ e=>(by cases e))
theorem ty6:TyOK 6 ⟨1,false,[.d (.byte 0)],[],some (.int .u8),[],false,false⟩:=tyLeaf (z:=.int .u8 0) (b:=1) (by kernel_rfl) (by decide) ⟨_,_,rfl,⟨zByte,fun _ _=>rfl⟩,rfl,rfl⟩ rfl Try.underlying6 (fun _ e=>(by cases e)) (fun _ _ e=>(by cases e))
theorem ty7:TyOK 7 ⟨4,true,[.d (.int 0),.d (.int 0),.d (.bool false),.d (.byte 0)],[(0,2),(1,3),(2,4),(3,6)],none,[(0,1),(1,1),(2,1),(3,1)],false,false⟩:=tyStruct (z:=.agg #[.int .i64 0,.int .i64 0,.bool false,.int .u8 0]) (b:=24) (by kernel_rfl) (by decide) ⟨_,_,rfl,⟨zInt,fun _ _=>rfl⟩,rfl,⟨_,_,rfl,⟨zInt,fun _ _=>rfl⟩,rfl,⟨_,_,rfl,⟨zBool,fun _ _=>rfl⟩,rfl,⟨_,_,rfl,⟨zByte,fun _ _=>rfl⟩,rfl,rfl⟩⟩⟩⟩ rfl Try.underlying7 (by kernel_rfl) (by kernel_rfl)
theorem ty8:TyOK 8 ⟨4,true,[.d (.int 0),.d (.int 0),.d (.bool false),.d (.byte 0)],[(0,2),(1,3),(2,4),(3,6)],none,[(0,1),(1,1),(2,1),(3,1)],false,false⟩:=tyStruct (z:=.agg #[.int .i64 0,.int .i64 0,.bool false,.int .u8 0]) (b:=24) (by kernel_rfl) (by decide) ⟨_,_,rfl,⟨zInt,fun _ _=>rfl⟩,rfl,⟨_,_,rfl,⟨zInt,fun _ _=>rfl⟩,rfl,⟨_,_,rfl,⟨zBool,fun _ _=>rfl⟩,rfl,⟨_,_,rfl,⟨zByte,fun _ _=>rfl⟩,rfl,rfl⟩⟩⟩⟩ rfl Try.underlying8 (by kernel_rfl) (by kernel_rfl)
theorem ty9:TyOK 9 ⟨1,false,[.d (.str ⟨#[]⟩)],[],some (.string),[],false,false⟩:=tyLeaf (z:=.string ⟨#[]⟩) (b:=16) (by kernel_rfl) (by decide) ⟨_,_,rfl,⟨zStr,fun _ _=>rfl⟩,rfl,rfl⟩ rfl Try.underlying9 (fun _ e=>(by cases e)) (fun _ _ e=>(by cases e))
theorem ty10:TyOK 10 ⟨1,false,[.d (.str ⟨#[]⟩)],[],some (.string),[],false,false⟩:=tyLeaf (z:=.string ⟨#[]⟩) (b:=16) (by kernel_rfl) (by decide) ⟨_,_,rfl,⟨zStr,fun _ _=>rfl⟩,rfl,rfl⟩ rfl Try.underlying10 (fun _ e=>(by cases e)) (fun _ _ e=>(by cases e))
theorem ty11:TyOK 11 ⟨1,false,[.d (.str ⟨#[]⟩)],[],some (.string),[],false,false⟩:=tyLeaf (z:=.string ⟨#[]⟩) (b:=16) (by kernel_rfl) (by decide) ⟨_,_,rfl,⟨zStr,fun _ _=>rfl⟩,rfl,rfl⟩ rfl Try.underlying11 (fun _ e=>(by cases e)) (fun _ _ e=>(by cases e))
theorem ty22:TyOK 22 ⟨1,false,[.nil],[],some (.slice 23),[],false,false⟩:=tyLeaf (z:=.slice none 0 0) (b:=24) (by kernel_rfl) (by decide) ⟨_,_,rfl,⟨zNil,fun _ _=>rfl⟩,rfl,rfl⟩ rfl Try.underlying22 (fun _ e=>(by cases e)) (fun _ _ e=>(by cases e))
theorem ty23:TyOK 23 ⟨1,false,[.nil],[],some (.slice 62),[],false,false⟩:=tyLeaf (z:=.slice none 0 0) (b:=24) (by kernel_rfl) (by decide) ⟨_,_,rfl,⟨zNil,fun _ _=>rfl⟩,rfl,rfl⟩ rfl Try.underlying23 (fun _ e=>(by cases e)) (fun _ _ e=>(by cases e))
theorem ty24:TyOK 24 ⟨3,true,[.nil,.nil,.nil],[(0,22),(1,23),(2,23)],none,[(0,1),(1,1),(2,1)],false,false⟩:=tyStruct (z:=.agg #[.slice none 0 0,.slice none 0 0,.slice none 0 0]) (b:=72) (by kernel_rfl) (by decide) ⟨_,_,rfl,⟨zNil,fun _ _=>rfl⟩,rfl,⟨_,_,rfl,⟨zNil,fun _ _=>rfl⟩,rfl,⟨_,_,rfl,⟨zNil,fun _ _=>rfl⟩,rfl,rfl⟩⟩⟩ rfl Try.underlying24 (by kernel_rfl) (by kernel_rfl)
theorem ty25:TyOK 25 ⟨3,true,[.nil,.nil,.nil],[(0,22),(1,23),(2,23)],none,[(0,1),(1,1),(2,1)],false,false⟩:=tyStruct (z:=.agg #[.slice none 0 0,.slice none 0 0,.slice none 0 0]) (b:=72) (by kernel_rfl) (by decide) ⟨_,_,rfl,⟨zNil,fun _ _=>rfl⟩,rfl,⟨_,_,rfl,⟨zNil,fun _ _=>rfl⟩,rfl,⟨_,_,rfl,⟨zNil,fun _ _=>rfl⟩,rfl,rfl⟩⟩⟩ rfl Try.underlying25 (by kernel_rfl) (by kernel_rfl)
theorem ty27:TyOK 27 ⟨1,false,[.nil],[],some (.slice 29),[],false,false⟩:=tyLeaf (z:=.slice none 0 0) (b:=24) (by kernel_rfl) (by decide) ⟨_,_,rfl,⟨zNil,fun _ _=>rfl⟩,rfl,rfl⟩ rfl Try.underlying27 (fun _ e=>(by cases e)) (fun _ _ e=>(by cases e))
theorem ty29:TyOK 29 ⟨1,false,[.nil],[],some (.slice 39),[],false,false⟩:=tyLeaf (z:=.slice none 0 0) (b:=24) (by kernel_rfl) (by decide) ⟨_,_,rfl,⟨zNil,fun _ _=>rfl⟩,rfl,rfl⟩ rfl Try.underlying29 (fun _ e=>(by cases e)) (fun _ _ e=>(by cases e))
theorem ty30:TyOK 30 ⟨3,true,[.nil,.nil,.nil],[(0,27),(1,29),(2,29)],none,[(0,1),(1,1),(2,1)],false,false⟩:=tyStruct (z:=.agg #[.slice none 0 0,.slice none 0 0,.slice none 0 0]) (b:=72) (by kernel_rfl) (by decide) ⟨_,_,rfl,⟨zNil,fun _ _=>rfl⟩,rfl,⟨_,_,rfl,⟨zNil,fun _ _=>rfl⟩,rfl,⟨_,_,rfl,⟨zNil,fun _ _=>rfl⟩,rfl,rfl⟩⟩⟩ rfl Try.underlying30 (by kernel_rfl) (by kernel_rfl)
theorem ty31:TyOK 31 ⟨3,true,[.nil,.nil,.nil],[(0,27),(1,29),(2,29)],none,[(0,1),(1,1),(2,1)],false,false⟩:=tyStruct (z:=.agg #[.slice none 0 0,.slice none 0 0,.slice none 0 0]) (b:=72) (by kernel_rfl) (by decide) ⟨_,_,rfl,⟨zNil,fun _ _=>rfl⟩,rfl,⟨_,_,rfl,⟨zNil,fun _ _=>rfl⟩,rfl,⟨_,_,rfl,⟨zNil,fun _ _=>rfl⟩,rfl,rfl⟩⟩⟩ rfl Try.underlying31 (by kernel_rfl) (by kernel_rfl)
theorem ty38:TyOK 38 ⟨2,true,[.d (.int 0),.d (.int 0)],[(0,3),(1,3)],none,[(0,1),(1,1)],false,false⟩:=tyStruct (z:=.agg #[.int .i64 0,.int .i64 0]) (b:=16) (by kernel_rfl) (by decide) ⟨_,_,rfl,⟨zInt,fun _ _=>rfl⟩,rfl,⟨_,_,rfl,⟨zInt,fun _ _=>rfl⟩,rfl,rfl⟩⟩ rfl Try.underlying38 (by kernel_rfl) (by kernel_rfl)
theorem ty39:TyOK 39 ⟨2,true,[.d (.int 0),.d (.int 0)],[(0,3),(1,3)],none,[(0,1),(1,1)],false,false⟩:=tyStruct (z:=.agg #[.int .i64 0,.int .i64 0]) (b:=16) (by kernel_rfl) (by decide) ⟨_,_,rfl,⟨zInt,fun _ _=>rfl⟩,rfl,⟨_,_,rfl,⟨zInt,fun _ _=>rfl⟩,rfl,rfl⟩⟩ rfl Try.underlying39 (by kernel_rfl) (by kernel_rfl)
theorem ty55:TyOK 55 ⟨1,false,[.nil],[],some (.slice 57),[],false,false⟩:=tyLeaf (z:=.slice none 0 0) (b:=24) (by kernel_rfl) (by decide) ⟨_,_,rfl,⟨zNil,fun _ _=>rfl⟩,rfl,rfl⟩ rfl Try.underlying55 (fun _ e=>(by cases e)) (fun _ _ e=>(by cases e))
theorem ty57:TyOK 57 ⟨1,false,[.nil],[],some (.slice 3),[],false,false⟩:=tyLeaf (z:=.slice none 0 0) (b:=24) (by kernel_rfl) (by decide) ⟨_,_,rfl,⟨zNil,fun _ _=>rfl⟩,rfl,rfl⟩ rfl Try.underlying57 (fun _ e=>(by cases e)) (fun _ _ e=>(by cases e))
theorem ty62:TyOK 62 ⟨2,true,[.d (.int 0),.d (.int 0)],[(0,3),(1,3)],none,[(0,1),(1,1)],false,false⟩:=tyStruct (z:=.agg #[.int .i64 0,.int .i64 0]) (b:=16) (by kernel_rfl) (by decide) ⟨_,_,rfl,⟨zInt,fun _ _=>rfl⟩,rfl,⟨_,_,rfl,⟨zInt,fun _ _=>rfl⟩,rfl,rfl⟩⟩ rfl Try.underlying62 (by kernel_rfl) (by kernel_rfl)
theorem ty81:TyOK 81 ⟨0,true,[],[(0,80)],none,[(0,0)],false,false⟩:=tyStruct (z:=.agg #[]) (b:=0) (by kernel_rfl) (by decide) rfl rfl Try.underlying81 (by kernel_rfl) (by kernel_rfl)
theorem ty82:TyOK 82 ⟨0,true,[],[(0,80)],none,[(0,0)],false,false⟩:=tyStruct (z:=.agg #[]) (b:=0) (by kernel_rfl) (by decide) rfl rfl Try.underlying82 (by kernel_rfl) (by kernel_rfl)
theorem ty85:TyOK 85 ⟨1,false,[.d (.byte 0)],[],some (.int .u8),[],false,false⟩:=tyLeaf (z:=.int .u8 0) (b:=1) (by kernel_rfl) (by decide) ⟨_,_,rfl,⟨zByte,fun _ _=>rfl⟩,rfl,rfl⟩ rfl Try.underlying85 (fun _ e=>(by cases e)) (fun _ _ e=>(by cases e))
theorem ty86:TyOK 86 ⟨1,false,[.d (.byte 0)],[],some (.int .u8),[],false,false⟩:=tyLeaf (z:=.int .u8 0) (b:=1) (by kernel_rfl) (by decide) ⟨_,_,rfl,⟨zByte,fun _ _=>rfl⟩,rfl,rfl⟩ rfl Try.underlying86 (fun _ e=>(by cases e)) (fun _ _ e=>(by cases e))
def tyT (T:TypeId):Option TyI :=
  if T=2 then some ⟨1,false,[.d (.int 0)],[],some (.int .i64),[],false,false⟩ else
  if T=3 then some ⟨1,false,[.d (.int 0)],[],some (.int .i64),[],false,false⟩ else
  if T=4 then some ⟨1,false,[.d (.bool false)],[],some (.bool),[],false,false⟩ else
  if T=5 then some ⟨1,false,[.d (.byte 0)],[],some (.int .u8),[],false,false⟩ else
  if T=6 then some ⟨1,false,[.d (.byte 0)],[],some (.int .u8),[],false,false⟩ else
  if T=7 then some ⟨4,true,[.d (.int 0),.d (.int 0),.d (.bool false),.d (.byte 0)],[(0,2),(1,3),(2,4),(3,6)],none,[(0,1),(1,1),(2,1),(3,1)],false,false⟩ else
  if T=8 then some ⟨4,true,[.d (.int 0),.d (.int 0),.d (.bool false),.d (.byte 0)],[(0,2),(1,3),(2,4),(3,6)],none,[(0,1),(1,1),(2,1),(3,1)],false,false⟩ else
  if T=9 then some ⟨1,false,[.d (.str ⟨#[]⟩)],[],some (.string),[],false,false⟩ else
  if T=10 then some ⟨1,false,[.d (.str ⟨#[]⟩)],[],some (.string),[],false,false⟩ else
  if T=11 then some ⟨1,false,[.d (.str ⟨#[]⟩)],[],some (.string),[],false,false⟩ else
  if T=22 then some ⟨1,false,[.nil],[],some (.slice 23),[],false,false⟩ else
  if T=23 then some ⟨1,false,[.nil],[],some (.slice 62),[],false,false⟩ else
  if T=24 then some ⟨3,true,[.nil,.nil,.nil],[(0,22),(1,23),(2,23)],none,[(0,1),(1,1),(2,1)],false,false⟩ else
  if T=25 then some ⟨3,true,[.nil,.nil,.nil],[(0,22),(1,23),(2,23)],none,[(0,1),(1,1),(2,1)],false,false⟩ else
  if T=27 then some ⟨1,false,[.nil],[],some (.slice 29),[],false,false⟩ else
  if T=29 then some ⟨1,false,[.nil],[],some (.slice 39),[],false,false⟩ else
  if T=30 then some ⟨3,true,[.nil,.nil,.nil],[(0,27),(1,29),(2,29)],none,[(0,1),(1,1),(2,1)],false,false⟩ else
  if T=31 then some ⟨3,true,[.nil,.nil,.nil],[(0,27),(1,29),(2,29)],none,[(0,1),(1,1),(2,1)],false,false⟩ else
  if T=38 then some ⟨2,true,[.d (.int 0),.d (.int 0)],[(0,3),(1,3)],none,[(0,1),(1,1)],false,false⟩ else
  if T=39 then some ⟨2,true,[.d (.int 0),.d (.int 0)],[(0,3),(1,3)],none,[(0,1),(1,1)],false,false⟩ else
  if T=55 then some ⟨1,false,[.nil],[],some (.slice 57),[],false,false⟩ else
  if T=57 then some ⟨1,false,[.nil],[],some (.slice 3),[],false,false⟩ else
  if T=62 then some ⟨2,true,[.d (.int 0),.d (.int 0)],[(0,3),(1,3)],none,[(0,1),(1,1)],false,false⟩ else
  if T=81 then some ⟨0,true,[],[(0,80)],none,[(0,0)],false,false⟩ else
  if T=82 then some ⟨0,true,[],[(0,80)],none,[(0,0)],false,false⟩ else
  if T=85 then some ⟨1,false,[.d (.byte 0)],[],some (.int .u8),[],false,false⟩ else
  if T=86 then some ⟨1,false,[.d (.byte 0)],[],some (.int .u8),[],false,false⟩ else
  none
theorem tyT_ok:TabOK tyT:=by
  intro T i h
  unfold tyT at h
  by_cases e2:T=2
  · rw [if_pos e2] at h;cases h;rw [e2];exact ty2
  rw [if_neg e2] at h
  by_cases e3:T=3
  · rw [if_pos e3] at h;cases h;rw [e3];exact ty3
  rw [if_neg e3] at h
  by_cases e4:T=4
  · rw [if_pos e4] at h;cases h;rw [e4];exact ty4
  rw [if_neg e4] at h
  by_cases e5:T=5
  · rw [if_pos e5] at h;cases h;rw [e5];exact ty5
  rw [if_neg e5] at h
  by_cases e6:T=6
  · rw [if_pos e6] at h;cases h;rw [e6];exact ty6
  rw [if_neg e6] at h
  by_cases e7:T=7
  · rw [if_pos e7] at h;cases h;rw [e7];exact ty7
  rw [if_neg e7] at h
  by_cases e8:T=8
  · rw [if_pos e8] at h;cases h;rw [e8];exact ty8
  rw [if_neg e8] at h
  by_cases e9:T=9
  · rw [if_pos e9] at h;cases h;rw [e9];exact ty9
  rw [if_neg e9] at h
  by_cases e10:T=10
  · rw [if_pos e10] at h;cases h;rw [e10];exact ty10
  rw [if_neg e10] at h
  by_cases e11:T=11
  · rw [if_pos e11] at h;cases h;rw [e11];exact ty11
  rw [if_neg e11] at h
  by_cases e22:T=22
  · rw [if_pos e22] at h;cases h;rw [e22];exact ty22
  rw [if_neg e22] at h
  by_cases e23:T=23
  · rw [if_pos e23] at h;cases h;rw [e23];exact ty23
  rw [if_neg e23] at h
  by_cases e24:T=24
  · rw [if_pos e24] at h;cases h;rw [e24];exact ty24
  rw [if_neg e24] at h
  by_cases e25:T=25
  · rw [if_pos e25] at h;cases h;rw [e25];exact ty25
  rw [if_neg e25] at h
  by_cases e27:T=27
  · rw [if_pos e27] at h;cases h;rw [e27];exact ty27
  rw [if_neg e27] at h
  by_cases e29:T=29
  · rw [if_pos e29] at h;cases h;rw [e29];exact ty29
  rw [if_neg e29] at h
  by_cases e30:T=30
  · rw [if_pos e30] at h;cases h;rw [e30];exact ty30
  rw [if_neg e30] at h
  by_cases e31:T=31
  · rw [if_pos e31] at h;cases h;rw [e31];exact ty31
  rw [if_neg e31] at h
  by_cases e38:T=38
  · rw [if_pos e38] at h;cases h;rw [e38];exact ty38
  rw [if_neg e38] at h
  by_cases e39:T=39
  · rw [if_pos e39] at h;cases h;rw [e39];exact ty39
  rw [if_neg e39] at h
  by_cases e55:T=55
  · rw [if_pos e55] at h;cases h;rw [e55];exact ty55
  rw [if_neg e55] at h
  by_cases e57:T=57
  · rw [if_pos e57] at h;cases h;rw [e57];exact ty57
  rw [if_neg e57] at h
  by_cases e62:T=62
  · rw [if_pos e62] at h;cases h;rw [e62];exact ty62
  rw [if_neg e62] at h
  by_cases e81:T=81
  · rw [if_pos e81] at h;cases h;rw [e81];exact ty81
  rw [if_neg e81] at h
  by_cases e82:T=82
  · rw [if_pos e82] at h;cases h;rw [e82];exact ty82
  rw [if_neg e82] at h
  by_cases e85:T=85
  · rw [if_pos e85] at h;cases h;rw [e85];exact ty85
  rw [if_neg e85] at h
  by_cases e86:T=86
  · rw [if_pos e86] at h;cases h;rw [e86];exact ty86
  rw [if_neg e86] at h
  cases h
def tyW (T:TypeId):Option TyI:=match tyT T with
  | some i=>some ⟨i.size,i.agg,i.zero,i.flds,i.kd,i.pl,true,false⟩
  | none=>none
theorem tyW_ok:TabOK tyW:=by
  intro T i h
  unfold tyW at h
  split at h
  · rename_i i0 h0
    cases h
    have:=tyT_ok T i0 h0
    exact ⟨this.info,this.agg,this.flat,this.kd,this.pl⟩
  · cases h
def tyS (T:TypeId):Option TyI:=match tyT T with
  | some i=>some ⟨i.size,i.agg,i.zero,i.flds,i.kd,i.pl,true,true⟩
  | none=>none
end Go.Proofs.Ytpbclpopoodklaa
