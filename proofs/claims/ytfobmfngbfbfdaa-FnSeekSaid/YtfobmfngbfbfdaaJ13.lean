/- Lemmas for the proof of FnIteration, part 7 of 22: no condition of their own. -/
import Derived.Test.YtfobmfngbfbfdaaJ12
namespace Go.Proofs.Ytfobmfngbfbfdaa
open Go.RowKit
theorem ty2:TyOK 2 ⟨1,false,[.d (.int 0)],[],some (.int .i64),[],false,false⟩:=tyLeaf (z:=.int .i64 0) (b:=8) (by kernel_rfl) (by decide) ⟨_,_,rfl,⟨zInt,fun _ _=>rfl⟩,rfl,rfl⟩ rfl Try.underlying2 (fun _ e=>(by cases e)) (fun _ _ e=>(by cases e))
theorem ty3:TyOK 3 ⟨1,false,[.d (.int 0)],[],some (.int .i64),[],false,false⟩:=tyLeaf (z:=.int .i64 0) (b:=8) (by kernel_rfl) (by decide) ⟨_,_,rfl,⟨zInt,fun _ _=>rfl⟩,rfl,rfl⟩ rfl Try.underlying3 (fun _ e=>(by cases e)) (fun _ _ e=>(by cases e))
theorem ty4:TyOK 4 ⟨1,false,[.d (.bool false)],[],some (.bool),[],false,false⟩:=tyLeaf (z:=.bool false) (b:=1) (by kernel_rfl) (by decide) ⟨_,_,rfl,⟨zBool,fun _ _=>rfl⟩,rfl,rfl⟩ rfl Try.underlying4 (fun _ e=>(by cases e)) (fun _ _ e=>(by cases e))
theorem ty5:TyOK 5 ⟨1,false,[.d (.byte 0)],[],some (.int .u8),[],false,false⟩:=tyLeaf (z:=.int .u8 0) (b:=1) (by kernel_rfl) (by decide) ⟨_,_,rfl,⟨zByte,fun _ _=>rfl⟩,rfl,rfl⟩ rfl Try.underlying5 (fun _ e=>(by cases e)) (fun _ _ e=>(by cases e))
theorem ty6:TyOK 6 ⟨1,false,[.d (.byte 0)],[],some (.int .u8),[],false,false⟩:=tyLeaf (z:=.int .u8 0) (b:=1) (by kernel_rfl) (by decide) ⟨_,_,rfl,⟨zByte,fun _ _=>rfl⟩,rfl,rfl⟩ rfl Try.underlying6 (fun _ e=>(by cases e)) (fun _ _ e=>(by cases e))
theorem ty7:TyOK 7 ⟨4,true,[.d (.int 0),.d (.int 0),.d (.bool false),.d (.byte 0)],[(0,2),(1,3),(2,4),(3,6)],none,[(0,1),(1,1),(2,1),(3,1)],false,false⟩:=tyStruct (z:=.agg #[.int .i64 0,.int .i64 0,.bool false,.int .u8 0]) (b:=24) (by kernel_rfl) (by decide) ⟨_,_,rfl,⟨zInt,fun _ _=>rfl⟩,rfl,⟨_,_,rfl,⟨zInt,fun _ _=>rfl⟩,rfl,⟨_,_,rfl,⟨zBool,fun _ _=>rfl⟩,rfl,⟨_,_,rfl,⟨zByte,fun _ _=>rfl⟩,rfl,rfl⟩⟩⟩⟩ rfl Try.underlying7 (by kernel_rfl) (by kernel_rfl)
theorem ty8:TyOK 8 ⟨4,true,[.d (.int 0),.d (.int 0),.d (.bool false),.d (.byte 0)],[(0,2),(1,3),(2,4),(3,6)],none,[(0,1),(1,1),(2,1),(3,1)],false,false⟩:=tyStruct (z:=.agg #[.int .i64 0,.int .i64 0,.bool false,.int .u8 0]) (b:=24) (by kernel_rfl) (by decide) ⟨_,_,rfl,⟨zInt,fun _ _=>rfl⟩,rfl,⟨_,_,rfl,⟨zInt,fun _ _=>rfl⟩,rfl,⟨_,_,rfl,⟨zBool,fun _ _=>rfl⟩,rfl,⟨_,_,rfl,⟨zByte,fun _ _=>rfl⟩,rfl,rfl⟩⟩⟩⟩ rfl Try.underlying8 (by kernel_rfl) (by kernel_rfl)
theorem ty9:TyOK 9 ⟨1,false,[.d (.str ⟨#[]⟩)],[],some (.string),[],false,false⟩:=tyLeaf (z:=.string ⟨#[]⟩) (b:=16) (by kernel_rfl) (by decide) ⟨_,_,rfl,⟨zStr,fun _ _=>rfl⟩,rfl,rfl⟩ rfl Try.underlying9 (fun _ e=>(by cases e)) (fun _ _ e=>(by cases e))
theorem ty10:TyOK 10 ⟨1,false,[.d (.str ⟨#[]⟩)],[],some (.string),[],false,false⟩:=tyLeaf (z:=.string ⟨#[]⟩) (b:=16) (by kernel_rfl) (by decide) ⟨_,_,rfl,⟨zStr,fun _ _=>rfl⟩,rfl,rfl⟩ rfl Try.underlying10 (fun _ e=>(by cases e)) (fun _ _ e=>(by cases e))
theorem ty11:TyOK 11 ⟨1,false,[.d (.str ⟨#[]⟩)],[],some (.string),[],false,false⟩:=tyLeaf (z:=.string ⟨#[]⟩) (b:=16) (by kernel_rfl) (by decide) ⟨_,_,rfl,⟨zStr,fun _ _=>rfl⟩,rfl,rfl⟩ rfl Try.underlying11 (fun _ e=>(by cases e)) (fun _ _ e=>(by cases e))
theorem ty22:TyOK 22 ⟨1,false,[.nil],[],some (.slice 5),[],false,false⟩:=tyLeaf (z:=.slice none 0 0) (b:=24) (by kernel_rfl) (by decide) ⟨_,_,rfl,⟨zNil,fun _ _=>rfl⟩,rfl,rfl⟩ rfl Try.underlying22 (fun _ e=>(by cases e)) (fun _ _ e=>(by cases e))
theorem ty24:TyOK 24 ⟨1,false,[.nil],[],some (.slice 27),[],false,false⟩:=tyLeaf (z:=.slice none 0 0) (b:=24) (by kernel_rfl) (by decide) ⟨_,_,rfl,⟨zNil,fun _ _=>rfl⟩,rfl,rfl⟩ rfl Try.underlying24 (fun _ e=>(by cases e)) (fun _ _ e=>(by cases e))
theorem ty25:TyOK 25 ⟨2,true,[.d (.int 0),.nil],[(0,3),(1,24)],none,[(0,1),(1,1)],false,false⟩:=tyStruct (z:=.agg #[.int .i64 0,.slice none 0 0]) (b:=32) (by kernel_rfl) (by decide) ⟨_,_,rfl,⟨zInt,fun _ _=>rfl⟩,rfl,⟨_,_,rfl,⟨zNil,fun _ _=>rfl⟩,rfl,rfl⟩⟩ rfl Try.underlying25 (by kernel_rfl) (by kernel_rfl)
theorem ty26:TyOK 26 ⟨2,true,[.d (.int 0),.nil],[(0,3),(1,24)],none,[(0,1),(1,1)],false,false⟩:=tyStruct (z:=.agg #[.int .i64 0,.slice none 0 0]) (b:=32) (by kernel_rfl) (by decide) ⟨_,_,rfl,⟨zInt,fun _ _=>rfl⟩,rfl,⟨_,_,rfl,⟨zNil,fun _ _=>rfl⟩,rfl,rfl⟩⟩ rfl Try.underlying26 (by kernel_rfl) (by kernel_rfl)
theorem ty27:TyOK 27 ⟨1,false,[.nil],[],some (.slice 3),[],false,false⟩:=tyLeaf (z:=.slice none 0 0) (b:=24) (by kernel_rfl) (by decide) ⟨_,_,rfl,⟨zNil,fun _ _=>rfl⟩,rfl,rfl⟩ rfl Try.underlying27 (fun _ e=>(by cases e)) (fun _ _ e=>(by cases e))
theorem ty28:TyOK 28 ⟨5,true,[.d (.int 0),.nil,.nil,.nil,.nil],[(0,26),(2,27),(3,27),(4,27)],none,[(0,2),(2,1),(3,1),(4,1)],false,false⟩:=tyStruct (z:=.agg #[.int .i64 0,.slice none 0 0,.slice none 0 0,.slice none 0 0,.slice none 0 0]) (b:=104) (by kernel_rfl) (by decide) ⟨_,_,rfl,⟨zInt,fun _ _=>rfl⟩,rfl,⟨_,_,rfl,⟨zNil,fun _ _=>rfl⟩,rfl,⟨_,_,rfl,⟨zNil,fun _ _=>rfl⟩,rfl,⟨_,_,rfl,⟨zNil,fun _ _=>rfl⟩,rfl,⟨_,_,rfl,⟨zNil,fun _ _=>rfl⟩,rfl,rfl⟩⟩⟩⟩⟩ rfl Try.underlying28 (by kernel_rfl) (by kernel_rfl)
theorem ty29:TyOK 29 ⟨5,true,[.d (.int 0),.nil,.nil,.nil,.nil],[(0,26),(2,27),(3,27),(4,27)],none,[(0,2),(2,1),(3,1),(4,1)],false,false⟩:=tyStruct (z:=.agg #[.int .i64 0,.slice none 0 0,.slice none 0 0,.slice none 0 0,.slice none 0 0]) (b:=104) (by kernel_rfl) (by decide) ⟨_,_,rfl,⟨zInt,fun _ _=>rfl⟩,rfl,⟨_,_,rfl,⟨zNil,fun _ _=>rfl⟩,rfl,⟨_,_,rfl,⟨zNil,fun _ _=>rfl⟩,rfl,⟨_,_,rfl,⟨zNil,fun _ _=>rfl⟩,rfl,⟨_,_,rfl,⟨zNil,fun _ _=>rfl⟩,rfl,rfl⟩⟩⟩⟩⟩ rfl Try.underlying29 (by kernel_rfl) (by kernel_rfl)
theorem ty49:TyOK 49 ⟨2,true,[.d (.int 0),.nil],[(0,3),(1,24)],none,[(0,1),(1,1)],false,false⟩:=tyStruct (z:=.agg #[.int .i64 0,.slice none 0 0]) (b:=32) (by kernel_rfl) (by decide) ⟨_,_,rfl,⟨zInt,fun _ _=>rfl⟩,rfl,⟨_,_,rfl,⟨zNil,fun _ _=>rfl⟩,rfl,rfl⟩⟩ rfl Try.underlying49 (by kernel_rfl) (by kernel_rfl)
theorem ty59:TyOK 59 ⟨3,true,[.nil,.d (.int 0),.d (.int 0)],[(0,22),(1,3),(2,3)],none,[(0,1),(1,1),(2,1)],false,false⟩:=tyStruct (z:=.agg #[.slice none 0 0,.int .i64 0,.int .i64 0]) (b:=40) (by kernel_rfl) (by decide) ⟨_,_,rfl,⟨zNil,fun _ _=>rfl⟩,rfl,⟨_,_,rfl,⟨zInt,fun _ _=>rfl⟩,rfl,⟨_,_,rfl,⟨zInt,fun _ _=>rfl⟩,rfl,rfl⟩⟩⟩ rfl Try.underlying59 (by kernel_rfl) (by kernel_rfl)
theorem ty60:TyOK 60 ⟨3,true,[.nil,.d (.int 0),.d (.int 0)],[(0,22),(1,3),(2,3)],none,[(0,1),(1,1),(2,1)],false,false⟩:=tyStruct (z:=.agg #[.slice none 0 0,.int .i64 0,.int .i64 0]) (b:=40) (by kernel_rfl) (by decide) ⟨_,_,rfl,⟨zNil,fun _ _=>rfl⟩,rfl,⟨_,_,rfl,⟨zInt,fun _ _=>rfl⟩,rfl,⟨_,_,rfl,⟨zInt,fun _ _=>rfl⟩,rfl,rfl⟩⟩⟩ rfl Try.underlying60 (by kernel_rfl) (by kernel_rfl)
theorem ty90:TyOK 90 ⟨0,true,[],[(0,89)],none,[(0,0)],false,false⟩:=tyStruct (z:=.agg #[]) (b:=0) (by kernel_rfl) (by decide) rfl rfl Try.underlying90 (by kernel_rfl) (by kernel_rfl)
theorem ty91:TyOK 91 ⟨0,true,[],[(0,89)],none,[(0,0)],false,false⟩:=tyStruct (z:=.agg #[]) (b:=0) (by kernel_rfl) (by decide) rfl rfl Try.underlying91 (by kernel_rfl) (by kernel_rfl)
theorem ty94:TyOK 94 ⟨1,false,[.d (.byte 0)],[],some (.int .u8),[],false,false⟩:=tyLeaf (z:=.int .u8 0) (b:=1) (by kernel_rfl) (by decide) ⟨_,_,rfl,⟨zByte,fun _ _=>rfl⟩,rfl,rfl⟩ rfl Try.underlying94 (fun _ e=>(by cases e)) (fun _ _ e=>(by cases e))
theorem ty95:TyOK 95 ⟨1,false,[.d (.byte 0)],[],some (.int .u8),[],false,false⟩:=tyLeaf (z:=.int .u8 0) (b:=1) (by kernel_rfl) (by decide) ⟨_,_,rfl,⟨zByte,fun _ _=>rfl⟩,rfl,rfl⟩ rfl Try.underlying95 (fun _ e=>(by cases e)) (fun _ _ e=>(by cases e))
def tyT (T:TypeId):Option TyI :=
 if T=2 then some ⟨1,false,[.d (.int 0)],[],some (.int .i64),[],false,false⟩ else
 if T=3 then some ⟨1,false,[.d (.int 0)],[],some (.int .i64),[],false,false⟩ else
 if T=4 then some ⟨1,false,[.d (.bool false)],[],some (.bool),[],false,false⟩ else
 if T=5 then some ⟨1,false,[.d (.byte 0)],[],some (.int .u8),[],false,false⟩ else
 if T=6 then some ⟨1,false,[.d (.byte 0)],[],some (.int .u8),[],false,false⟩ else
 if T=7 then some ⟨4,true,[.d (.int 0),.d (.int 0),.d (.bool false),.d (.byte 0)],[(0,2),(1,3),(2,4),(3,6)],none,[(0,1),(1,1),(2,1),(3,1)],false,false⟩ else
 if T=8 then some ⟨4,true,[.d (.int 0),.d (.int 0),.d (.bool false),.d (.byte 0)],[(0,2),(1,3),(2,4),(3,6)],none,[(0,1),(1,1),(2,1),(3,1)],false,false⟩ else
 if T=9 then some ⟨1,false,[.d (.str ⟨#[]⟩)],[],some (.string),[],false,false⟩ else
 if T=10 then some ⟨1,false,[.d (.str ⟨#[]⟩)],[],some (.string),[],false,false⟩ else
 if T=11 then some ⟨1,false,[.d (.str ⟨#[]⟩)],[],some (.string),[],false,false⟩ else
 if T=22 then some ⟨1,false,[.nil],[],some (.slice 5),[],false,false⟩ else
 if T=24 then some ⟨1,false,[.nil],[],some (.slice 27),[],false,false⟩ else
 if T=25 then some ⟨2,true,[.d (.int 0),.nil],[(0,3),(1,24)],none,[(0,1),(1,1)],false,false⟩ else
 if T=26 then some ⟨2,true,[.d (.int 0),.nil],[(0,3),(1,24)],none,[(0,1),(1,1)],false,false⟩ else
 if T=27 then some ⟨1,false,[.nil],[],some (.slice 3),[],false,false⟩ else
 if T=28 then some ⟨5,true,[.d (.int 0),.nil,.nil,.nil,.nil],[(0,26),(2,27),(3,27),(4,27)],none,[(0,2),(2,1),(3,1),(4,1)],false,false⟩ else
 if T=29 then some ⟨5,true,[.d (.int 0),.nil,.nil,.nil,.nil],[(0,26),(2,27),(3,27),(4,27)],none,[(0,2),(2,1),(3,1),(4,1)],false,false⟩ else
 if T=49 then some ⟨2,true,[.d (.int 0),.nil],[(0,3),(1,24)],none,[(0,1),(1,1)],false,false⟩ else
 if T=59 then some ⟨3,true,[.nil,.d (.int 0),.d (.int 0)],[(0,22),(1,3),(2,3)],none,[(0,1),(1,1),(2,1)],false,false⟩ else
 if T=60 then some ⟨3,true,[.nil,.d (.int 0),.d (.int 0)],[(0,22),(1,3),(2,3)],none,[(0,1),(1,1),(2,1)],false,false⟩ else
 if T=90 then some ⟨0,true,[],[(0,89)],none,[(0,0)],false,false⟩ else
 if T=91 then some ⟨0,true,[],[(0,89)],none,[(0,0)],false,false⟩ else
 if T=94 then some ⟨1,false,[.d (.byte 0)],[],some (.int .u8),[],false,false⟩ else
 if T=95 then some ⟨1,false,[.d (.byte 0)],[],some (.int .u8),[],false,false⟩ else
 none
theorem tyT_ok:TabOK tyT:=by
 intro T i h
 unfold tyT at h
 by_cases e2:T=2
 ·rw [if_pos e2] at h;cases h;rw [e2];exact ty2
 rw [if_neg e2] at h
 by_cases e3:T=3
 ·rw [if_pos e3] at h;cases h;rw [e3];exact ty3
 rw [if_neg e3] at h
 by_cases e4:T=4
 ·rw [if_pos e4] at h;cases h;rw [e4];exact ty4
 rw [if_neg e4] at h
 by_cases e5:T=5
 ·rw [if_pos e5] at h;cases h;rw [e5];exact ty5
 rw [if_neg e5] at h
 by_cases e6:T=6
 ·rw [if_pos e6] at h;cases h;rw [e6];exact ty6
 rw [if_neg e6] at h
 by_cases e7:T=7
 ·rw [if_pos e7] at h;cases h;rw [e7];exact ty7
 rw [if_neg e7] at h
 by_cases e8:T=8
 ·rw [if_pos e8] at h;cases h;rw [e8];exact ty8
 rw [if_neg e8] at h
 by_cases e9:T=9
 ·rw [if_pos e9] at h;cases h;rw [e9];exact ty9
 rw [if_neg e9] at h
 by_cases e10:T=10
 ·rw [if_pos e10] at h;cases h;rw [e10];exact ty10
 rw [if_neg e10] at h
 by_cases e11:T=11
 ·rw [if_pos e11] at h;cases h;rw [e11];exact ty11
 rw [if_neg e11] at h
 by_cases e22:T=22
 ·rw [if_pos e22] at h;cases h;rw [e22];exact ty22
 rw [if_neg e22] at h
 by_cases e24:T=24
 ·rw [if_pos e24] at h;cases h;rw [e24];exact ty24
 rw [if_neg e24] at h
 by_cases e25:T=25
 ·rw [if_pos e25] at h;cases h;rw [e25];exact ty25
 rw [if_neg e25] at h
 by_cases e26:T=26
 ·rw [if_pos e26] at h;cases h;rw [e26];exact ty26
 rw [if_neg e26] at h
 by_cases e27:T=27
 ·rw [if_pos e27] at h;cases h;rw [e27];exact ty27
 rw [if_neg e27] at h
 by_cases e28:T=28
 ·rw [if_pos e28] at h;cases h;rw [e28];exact ty28
 rw [if_neg e28] at h
 by_cases e29:T=29
 ·rw [if_pos e29] at h;cases h;rw [e29];exact ty29
 rw [if_neg e29] at h
 by_cases e49:T=49
 ·rw [if_pos e49] at h;cases h;rw [e49];exact ty49
 rw [if_neg e49] at h
 by_cases e59:T=59
 ·rw [if_pos e59] at h;cases h;rw [e59];exact ty59
 rw [if_neg e59] at h
 by_cases e60:T=60
 ·rw [if_pos e60] at h;cases h;rw [e60];exact ty60
 rw [if_neg e60] at h
 by_cases e90:T=90
 ·rw [if_pos e90] at h;cases h;rw [e90];exact ty90
 rw [if_neg e90] at h
 by_cases e91:T=91
 ·rw [if_pos e91] at h;cases h;rw [e91];exact ty91
 rw [if_neg e91] at h
 by_cases e94:T=94
 ·rw [if_pos e94] at h;cases h;rw [e94];exact ty94
 rw [if_neg e94] at h
 by_cases e95:T=95
 ·rw [if_pos e95] at h;cases h;rw [e95];exact ty95
 rw [if_neg e95] at h
 cases h
def tyW (T:TypeId):Option TyI:=match tyT T with
 | some i=>some ⟨i.size,i.agg,i.zero,i.flds,i.kd,i.pl,true,false⟩
 | none=>none
theorem tyW_ok:TabOK tyW:=by
 intro T i h
 unfold tyW at h
 split at h
 ·rename_i i0 h0
  cases h
  have:=tyT_ok T i0 h0
  exact ⟨this.info,this.agg,this.flat,this.kd,this.pl⟩
 ·cases h
def tyS (T:TypeId):Option TyI:=match tyT T with
 | some i=>some ⟨i.size,i.agg,i.zero,i.flds,i.kd,i.pl,true,true⟩
 | none=>none
theorem tyS_ok:TabOK tyS:=by
 intro T i h
 unfold tyS at h
 split at h
 ·rename_i i0 h0
  cases h
  have:=tyT_ok T i0 h0
  exact ⟨this.info,this.agg,this.flat,this.kd,this.pl⟩
 ·cases h
end Go.Proofs.Ytfobmfngbfbfdaa
