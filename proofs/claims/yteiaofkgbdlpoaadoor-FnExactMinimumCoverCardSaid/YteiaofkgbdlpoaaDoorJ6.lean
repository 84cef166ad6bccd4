/- Lemmas for the proof of FnExactMaximumPacking, part 6 of 27: no condition of their own. -/
import Derived.Test.YteiaofkgbdlpoaaDoorJ5
import Derived.Test.YteiaofkgbdlpoaaDoorJ2
import Derived.Orders
namespace Go.Proofs.YteiaofkgbdlpoaaDoor
open Go.RowKit
theorem ty2:TyOK 2 ⟨1,false,[.d (.int 0)],[],some (.int .i64),[],false,false⟩:=tyLeaf (z:=.int .i64 0) (b:=8) (by kernel_rfl) (by decide) ⟨_,_,rfl,⟨zInt,fun _ _=>rfl⟩,rfl,rfl⟩ rfl Tryd.underlying2 (fun _ e=>(by cases e)) (fun _ _ e=>(by cases e))
theorem ty3:TyOK 3 ⟨1,false,[.d (.int 0)],[],some (.int .i64),[],false,false⟩:=tyLeaf (z:=.int .i64 0) (b:=8) (by kernel_rfl) (by decide) ⟨_,_,rfl,⟨zInt,fun _ _=>rfl⟩,rfl,rfl⟩ rfl Tryd.underlying3 (fun _ e=>(by cases e)) (fun _ _ e=>(by cases e))
theorem ty4:TyOK 4 ⟨1,false,[.d (.bool false)],[],some (.bool),[],false,false⟩:=tyLeaf (z:=.bool false) (b:=1) (by kernel_rfl) (by decide) ⟨_,_,rfl,⟨zBool,fun _ _=>rfl⟩,rfl,rfl⟩ rfl Tryd.underlying4 (fun _ e=>(by cases e)) (fun _ _ e=>(by cases e))
theorem ty5:TyOK 5 ⟨1,false,[.d (.byte 0)],[],some (.int .u8),[],false,false⟩:=tyLeaf (z:=.int .u8 0) (b:=1) (by kernel_rfl) (by decide) ⟨_,_,rfl,⟨zByte,fun _ _=>rfl⟩,rfl,rfl⟩ rfl Tryd.underlying5 (fun _ e=>(by cases e)) (fun _ _ e=>(by cases e))
theorem ty6:TyOK 6 ⟨1,false,[.d (.byte 0)],[],some (.int .u8),[],false,false⟩:=tyLeaf (z:=.int .u8 0) (b:=1) (by kernel_rfl) (by decide) ⟨_,_,rfl,⟨zByte,fun _ _=>rfl⟩,rfl,rfl⟩ rfl Tryd.underlying6 (fun _ e=>(by cases e)) (fun _ _ e=>(by cases e))
theorem ty7:TyOK 7 ⟨4,true,[.d (.int 0),.d (.int 0),.d (.bool false),.d (.byte 0)],[(0,2),(1,3),(2,4),(3,6)],none,[(0,1),(1,1),(2,1),(3,1)],false,false⟩:=tyStruct (z:=.agg #[.int .i64 0,.int .i64 0,.bool false,.int .u8 0]) (b:=24) (by kernel_rfl) (by decide) ⟨_,_,rfl,⟨zInt,fun _ _=>rfl⟩,rfl,⟨_,_,rfl,⟨zInt,fun _ _=>rfl⟩,rfl,⟨_,_,rfl,⟨zBool,fun _ _=>rfl⟩,rfl,⟨_,_,rfl,⟨zByte,fun _ _=>rfl⟩,rfl,rfl⟩⟩⟩⟩ rfl Tryd.underlying7 (by kernel_rfl) (by kernel_rfl)
theorem ty8:TyOK 8 ⟨4,true,[.d (.int 0),.d (.int 0),.d (.bool false),.d (.byte 0)],[(0,2),(1,3),(2,4),(3,6)],none,[(0,1),(1,1),(2,1),(3,1)],false,false⟩:=tyStruct (z:=.agg #[.int .i64 0,.int .i64 0,.bool false,.int .u8 0]) (b:=24) (by kernel_rfl) (by decide) ⟨_,_,rfl,⟨zInt,fun _ _=>rfl⟩,rfl,⟨_,_,rfl,⟨zInt,fun _ _=>rfl⟩,rfl,⟨_,_,rfl,⟨zBool,fun _ _=>rfl⟩,rfl,⟨_,_,rfl,⟨zByte,fun _ _=>rfl⟩,rfl,rfl⟩⟩⟩⟩ rfl Tryd.underlying8 (by kernel_rfl) (by kernel_rfl)
theorem ty9:TyOK 9 ⟨1,false,[.d (.str ⟨#[]⟩)],[],some (.string),[],false,false⟩:=tyLeaf (z:=.string ⟨#[]⟩) (b:=16) (by kernel_rfl) (by decide) ⟨_,_,rfl,⟨zStr,fun _ _=>rfl⟩,rfl,rfl⟩ rfl Tryd.underlying9 (fun _ e=>(by cases e)) (fun _ _ e=>(by cases e))
theorem ty10:TyOK 10 ⟨1,false,[.d (.str ⟨#[]⟩)],[],some (.string),[],false,false⟩:=tyLeaf (z:=.string ⟨#[]⟩) (b:=16) (by kernel_rfl) (by decide) ⟨_,_,rfl,⟨zStr,fun _ _=>rfl⟩,rfl,rfl⟩ rfl Tryd.underlying10 (fun _ e=>(by cases e)) (fun _ _ e=>(by cases e))
theorem ty11:TyOK 11 ⟨1,false,[.d (.str ⟨#[]⟩)],[],some (.string),[],false,false⟩:=tyLeaf (z:=.string ⟨#[]⟩) (b:=16) (by kernel_rfl) (by decide) ⟨_,_,rfl,⟨zStr,fun _ _=>rfl⟩,rfl,rfl⟩ rfl Tryd.underlying11 (fun _ e=>(by cases e)) (fun _ _ e=>(by cases e))
theorem ty22:TyOK 22 ⟨1,false,[.nil],[],some (.slice 67),[],false,false⟩:=tyLeaf (z:=.slice none 0 0) (b:=24) (by kernel_rfl) (by decide) ⟨_,_,rfl,⟨zNil,fun _ _=>rfl⟩,rfl,rfl⟩ rfl Tryd.underlying22 (fun _ e=>(by cases e)) (fun _ _ e=>(by cases e))
theorem ty23:TyOK 23 ⟨1,false,[.nil],[],some (.slice 3),[],false,false⟩:=tyLeaf (z:=.slice none 0 0) (b:=24) (by kernel_rfl) (by decide) ⟨_,_,rfl,⟨zNil,fun _ _=>rfl⟩,rfl,rfl⟩ rfl Tryd.underlying23 (fun _ e=>(by cases e)) (fun _ _ e=>(by cases e))
theorem ty24:TyOK 24 ⟨3,true,[.d (.int 0),.nil,.nil],[(0,3),(1,22),(2,23)],none,[(0,1),(1,1),(2,1)],false,false⟩:=tyStruct (z:=.agg #[.int .i64 0,.slice none 0 0,.slice none 0 0]) (b:=56) (by kernel_rfl) (by decide) ⟨_,_,rfl,⟨zInt,fun _ _=>rfl⟩,rfl,⟨_,_,rfl,⟨zNil,fun _ _=>rfl⟩,rfl,⟨_,_,rfl,⟨zNil,fun _ _=>rfl⟩,rfl,rfl⟩⟩⟩ rfl Tryd.underlying24 (by kernel_rfl) (by kernel_rfl)
theorem ty25:TyOK 25 ⟨3,true,[.d (.int 0),.nil,.nil],[(0,3),(1,22),(2,23)],none,[(0,1),(1,1),(2,1)],false,false⟩:=tyStruct (z:=.agg #[.int .i64 0,.slice none 0 0,.slice none 0 0]) (b:=56) (by kernel_rfl) (by decide) ⟨_,_,rfl,⟨zInt,fun _ _=>rfl⟩,rfl,⟨_,_,rfl,⟨zNil,fun _ _=>rfl⟩,rfl,⟨_,_,rfl,⟨zNil,fun _ _=>rfl⟩,rfl,rfl⟩⟩⟩ rfl Tryd.underlying25 (by kernel_rfl) (by kernel_rfl)
theorem ty27:TyOK 27 ⟨1,false,[.nil],[],some (.slice 28),[],false,false⟩:=tyLeaf (z:=.slice none 0 0) (b:=24) (by kernel_rfl) (by decide) ⟨_,_,rfl,⟨zNil,fun _ _=>rfl⟩,rfl,rfl⟩ rfl Tryd.underlying27 (fun _ e=>(by cases e)) (fun _ _ e=>(by cases e))
theorem ty28:TyOK 28 ⟨1,false,[.nil],[],some (.slice 43),[],false,false⟩:=tyLeaf (z:=.slice none 0 0) (b:=24) (by kernel_rfl) (by decide) ⟨_,_,rfl,⟨zNil,fun _ _=>rfl⟩,rfl,rfl⟩ rfl Tryd.underlying28 (fun _ e=>(by cases e)) (fun _ _ e=>(by cases e))
theorem ty29:TyOK 29 ⟨3,true,[.nil,.nil,.nil],[(0,27),(1,28),(2,28)],none,[(0,1),(1,1),(2,1)],false,false⟩:=tyStruct (z:=.agg #[.slice none 0 0,.slice none 0 0,.slice none 0 0]) (b:=72) (by kernel_rfl) (by decide) ⟨_,_,rfl,⟨zNil,fun _ _=>rfl⟩,rfl,⟨_,_,rfl,⟨zNil,fun _ _=>rfl⟩,rfl,⟨_,_,rfl,⟨zNil,fun _ _=>rfl⟩,rfl,rfl⟩⟩⟩ rfl Tryd.underlying29 (by kernel_rfl) (by kernel_rfl)
theorem ty30:TyOK 30 ⟨3,true,[.nil,.nil,.nil],[(0,27),(1,28),(2,28)],none,[(0,1),(1,1),(2,1)],false,false⟩:=tyStruct (z:=.agg #[.slice none 0 0,.slice none 0 0,.slice none 0 0]) (b:=72) (by kernel_rfl) (by decide) ⟨_,_,rfl,⟨zNil,fun _ _=>rfl⟩,rfl,⟨_,_,rfl,⟨zNil,fun _ _=>rfl⟩,rfl,⟨_,_,rfl,⟨zNil,fun _ _=>rfl⟩,rfl,rfl⟩⟩⟩ rfl Tryd.underlying30 (by kernel_rfl) (by kernel_rfl)
theorem ty33:TyOK 33 ⟨1,false,[.nil],[],some (.slice 54),[],false,false⟩:=tyLeaf (z:=.slice none 0 0) (b:=24) (by kernel_rfl) (by decide) ⟨_,_,rfl,⟨zNil,fun _ _=>rfl⟩,rfl,rfl⟩ rfl Tryd.underlying33 (fun _ e=>(by cases e)) (fun _ _ e=>(by cases e))
theorem ty34:TyOK 34 ⟨3,true,[.d (.int 0),.nil,.nil],[(0,3),(1,33),(2,23)],none,[(0,1),(1,1),(2,1)],false,false⟩:=tyStruct (z:=.agg #[.int .i64 0,.slice none 0 0,.slice none 0 0]) (b:=56) (by kernel_rfl) (by decide) ⟨_,_,rfl,⟨zInt,fun _ _=>rfl⟩,rfl,⟨_,_,rfl,⟨zNil,fun _ _=>rfl⟩,rfl,⟨_,_,rfl,⟨zNil,fun _ _=>rfl⟩,rfl,rfl⟩⟩⟩ rfl Tryd.underlying34 (by kernel_rfl) (by kernel_rfl)
theorem ty35:TyOK 35 ⟨3,true,[.d (.int 0),.nil,.nil],[(0,3),(1,33),(2,23)],none,[(0,1),(1,1),(2,1)],false,false⟩:=tyStruct (z:=.agg #[.int .i64 0,.slice none 0 0,.slice none 0 0]) (b:=56) (by kernel_rfl) (by decide) ⟨_,_,rfl,⟨zInt,fun _ _=>rfl⟩,rfl,⟨_,_,rfl,⟨zNil,fun _ _=>rfl⟩,rfl,⟨_,_,rfl,⟨zNil,fun _ _=>rfl⟩,rfl,rfl⟩⟩⟩ rfl Tryd.underlying35 (by kernel_rfl) (by kernel_rfl)
theorem ty42:TyOK 42 ⟨2,true,[.d (.int 0),.d (.int 0)],[(0,3),(1,3)],none,[(0,1),(1,1)],false,false⟩:=tyStruct (z:=.agg #[.int .i64 0,.int .i64 0]) (b:=16) (by kernel_rfl) (by decide) ⟨_,_,rfl,⟨zInt,fun _ _=>rfl⟩,rfl,⟨_,_,rfl,⟨zInt,fun _ _=>rfl⟩,rfl,rfl⟩⟩ rfl Tryd.underlying42 (by kernel_rfl) (by kernel_rfl)
theorem ty43:TyOK 43 ⟨2,true,[.d (.int 0),.d (.int 0)],[(0,3),(1,3)],none,[(0,1),(1,1)],false,false⟩:=tyStruct (z:=.agg #[.int .i64 0,.int .i64 0]) (b:=16) (by kernel_rfl) (by decide) ⟨_,_,rfl,⟨zInt,fun _ _=>rfl⟩,rfl,⟨_,_,rfl,⟨zInt,fun _ _=>rfl⟩,rfl,rfl⟩⟩ rfl Tryd.underlying43 (by kernel_rfl) (by kernel_rfl)
theorem ty53:TyOK 53 ⟨2,true,[.d (.str ⟨#[]⟩),.nil],[(0,9),(1,23)],none,[(0,1),(1,1)],false,false⟩:=tyStruct (z:=.agg #[.string ⟨#[]⟩,.slice none 0 0]) (b:=40) (by kernel_rfl) (by decide) ⟨_,_,rfl,⟨zStr,fun _ _=>rfl⟩,rfl,⟨_,_,rfl,⟨zNil,fun _ _=>rfl⟩,rfl,rfl⟩⟩ rfl Tryd.underlying53 (by kernel_rfl) (by kernel_rfl)
theorem ty54:TyOK 54 ⟨2,true,[.d (.str ⟨#[]⟩),.nil],[(0,9),(1,23)],none,[(0,1),(1,1)],false,false⟩:=tyStruct (z:=.agg #[.string ⟨#[]⟩,.slice none 0 0]) (b:=40) (by kernel_rfl) (by decide) ⟨_,_,rfl,⟨zStr,fun _ _=>rfl⟩,rfl,⟨_,_,rfl,⟨zNil,fun _ _=>rfl⟩,rfl,rfl⟩⟩ rfl Tryd.underlying54 (by kernel_rfl) (by kernel_rfl)
theorem ty67:TyOK 67 ⟨2,true,[.d (.str ⟨#[]⟩),.nil],[(0,9),(1,23)],none,[(0,1),(1,1)],false,false⟩:=tyStruct (z:=.agg #[.string ⟨#[]⟩,.slice none 0 0]) (b:=40) (by kernel_rfl) (by decide) ⟨_,_,rfl,⟨zStr,fun _ _=>rfl⟩,rfl,⟨_,_,rfl,⟨zNil,fun _ _=>rfl⟩,rfl,rfl⟩⟩ rfl Tryd.underlying67 (by kernel_rfl) (by kernel_rfl)
theorem ty72:TyOK 72 ⟨1,false,[.nil],[],some (.slice 4),[],false,false⟩:=tyLeaf (z:=.slice none 0 0) (b:=24) (by kernel_rfl) (by decide) ⟨_,_,rfl,⟨zNil,fun _ _=>rfl⟩,rfl,rfl⟩ rfl Tryd.underlying72 (fun _ e=>(by cases e)) (fun _ _ e=>(by cases e))
theorem ty83:TyOK 83 ⟨1,false,[.nil],[],some (.slice 5),[],false,false⟩:=tyLeaf (z:=.slice none 0 0) (b:=24) (by kernel_rfl) (by decide) ⟨_,_,rfl,⟨zNil,fun _ _=>rfl⟩,rfl,rfl⟩ rfl Tryd.underlying83 (fun _ e=>(by cases e)) (fun _ _ e=>(by cases e))
theorem ty90:TyOK 90 ⟨1,false,[.nil],[],some (.slice 23),[],false,false⟩:=tyLeaf (z:=.slice none 0 0) (b:=24) (by kernel_rfl) (by decide) ⟨_,_,rfl,⟨zNil,fun _ _=>rfl⟩,rfl,rfl⟩ rfl Tryd.underlying90 (fun _ e=>(by cases e)) (fun _ _ e=>(by cases e))
theorem ty106:TyOK 106 ⟨0,true,[],[(0,105)],none,[(0,0)],false,false⟩:=tyStruct (z:=.agg #[]) (b:=0) (by kernel_rfl) (by decide) rfl rfl Tryd.underlying106 (by kernel_rfl) (by kernel_rfl)
theorem ty107:TyOK 107 ⟨0,true,[],[(0,105)],none,[(0,0)],false,false⟩:=tyStruct (z:=.agg #[]) (b:=0) (by kernel_rfl) (by decide) rfl rfl Tryd.underlying107 (by kernel_rfl) (by kernel_rfl)
theorem ty110:TyOK 110 ⟨1,false,[.d (.byte 0)],[],some (.int .u8),[],false,false⟩:=tyLeaf (z:=.int .u8 0) (b:=1) (by kernel_rfl) (by decide) ⟨_,_,rfl,⟨zByte,fun _ _=>rfl⟩,rfl,rfl⟩ rfl Tryd.underlying110 (fun _ e=>(by cases e)) (fun _ _ e=>(by cases e))
theorem ty111:TyOK 111 ⟨1,false,[.d (.byte 0)],[],some (.int .u8),[],false,false⟩:=tyLeaf (z:=.int .u8 0) (b:=1) (by kernel_rfl) (by decide) ⟨_,_,rfl,⟨zByte,fun _ _=>rfl⟩,rfl,rfl⟩ rfl Tryd.underlying111 (fun _ e=>(by cases e)) (fun _ _ e=>(by cases e))
def tyT (T:TypeId):Option TyI :=
 if T=2 then some ⟨1,false,[.d (.int 0)],[],some (.int .i64),[],false,false⟩ else
 if T=3 then some ⟨1,false,[.d (.int 0)],[],some (.int .i64),[],false,false⟩ else
 if T=4 then some ⟨1,false,[.d (.bool false)],[],some (.bool),[],false,false⟩ else
 if T=5 then some ⟨1,false,[.d (.byte 0)],[],some (.int .u8),[],false,false⟩ else
 if T=6 then some ⟨1,false,[.d (.byte 0)],[],some (.int .u8),[],false,false⟩ else
 if T=7 then some ⟨4,true,[.d (.int 0),.d (.int 0),.d (.bool false),.d (.byte 0)],[(0,2),(1,3),(2,4),(3,6)],none,[(0,1),(1,1),(2,1),(3,1)],false,false⟩ else
 if T=8 then some ⟨4,true,[.d (.int 0),.d (.int 0),.d (.bool false),.d (.byte 0)],[(0,2),(1,3),(2,4),(3,6)],none,[(0,1),(1,1),(2,1),(3,1)],false,false⟩ else
 if T=9 then some ⟨1,false,[.d (.str ⟨#[]⟩)],[],some (.string),[],false,false⟩ else
 if T=10 then some ⟨1,false,[.d (.str ⟨#[]⟩)],[],some (.string),[],false,false⟩ else
 if T=11 then some ⟨1,false,[.d (.str ⟨#[]⟩)],[],some (.string),[],false,false⟩ else
 if T=22 then some ⟨1,false,[.nil],[],some (.slice 67),[],false,false⟩ else
 if T=23 then some ⟨1,false,[.nil],[],some (.slice 3),[],false,false⟩ else
 if T=24 then some ⟨3,true,[.d (.int 0),.nil,.nil],[(0,3),(1,22),(2,23)],none,[(0,1),(1,1),(2,1)],false,false⟩ else
 if T=25 then some ⟨3,true,[.d (.int 0),.nil,.nil],[(0,3),(1,22),(2,23)],none,[(0,1),(1,1),(2,1)],false,false⟩ else
 if T=27 then some ⟨1,false,[.nil],[],some (.slice 28),[],false,false⟩ else
 if T=28 then some ⟨1,false,[.nil],[],some (.slice 43),[],false,false⟩ else
 if T=29 then some ⟨3,true,[.nil,.nil,.nil],[(0,27),(1,28),(2,28)],none,[(0,1),(1,1),(2,1)],false,false⟩ else
 if T=30 then some ⟨3,true,[.nil,.nil,.nil],[(0,27),(1,28),(2,28)],none,[(0,1),(1,1),(2,1)],false,false⟩ else
 if T=33 then some ⟨1,false,[.nil],[],some (.slice 54),[],false,false⟩ else
 if T=34 then some ⟨3,true,[.d (.int 0),.nil,.nil],[(0,3),(1,33),(2,23)],none,[(0,1),(1,1),(2,1)],false,false⟩ else
 if T=35 then some ⟨3,true,[.d (.int 0),.nil,.nil],[(0,3),(1,33),(2,23)],none,[(0,1),(1,1),(2,1)],false,false⟩ else
 if T=42 then some ⟨2,true,[.d (.int 0),.d (.int 0)],[(0,3),(1,3)],none,[(0,1),(1,1)],false,false⟩ else
 if T=43 then some ⟨2,true,[.d (.int 0),.d (.int 0)],[(0,3),(1,3)],none,[(0,1),(1,1)],false,false⟩ else
 if T=53 then some ⟨2,true,[.d (.str ⟨#[]⟩),.nil],[(0,9),(1,23)],none,[(0,1),(1,1)],false,false⟩ else
 if T=54 then some ⟨2,true,[.d (.str ⟨#[]⟩),.nil],[(0,9),(1,23)],none,[(0,1),(1,1)],false,false⟩ else
 if T=67 then some ⟨2,true,[.d (.str ⟨#[]⟩),.nil],[(0,9),(1,23)],none,[(0,1),(1,1)],false,false⟩ else
 if T=72 then some ⟨1,false,[.nil],[],some (.slice 4),[],false,false⟩ else
 if T=83 then some ⟨1,false,[.nil],[],some (.slice 5),[],false,false⟩ else
 if T=90 then some ⟨1,false,[.nil],[],some (.slice 23),[],false,false⟩ else
 if T=106 then some ⟨0,true,[],[(0,105)],none,[(0,0)],false,false⟩ else
 if T=107 then some ⟨0,true,[],[(0,105)],none,[(0,0)],false,false⟩ else
 if T=110 then some ⟨1,false,[.d (.byte 0)],[],some (.int .u8),[],false,false⟩ else
 if T=111 then some ⟨1,false,[.d (.byte 0)],[],some (.int .u8),[],false,false⟩ else
 none
theorem tyT_ok:TabOK tyT:=by
 intro T i h
 unfold tyT at h
 by_cases e2:T=2
 ·rw [if_pos e2] at h;cases h;rw [e2];exact ty2
 rw [if_neg e2] at h
 by_cases e3:T=3
 ·rw [if_pos e3] at h;cases h;rw [e3];exact ty3
 rw [if_neg e3] at h
 by_cases e4:T=4
 ·rw [if_pos e4] at h;cases h;rw [e4];exact ty4
 rw [if_neg e4] at h
 by_cases e5:T=5
 ·rw [if_pos e5] at h;cases h;rw [e5];exact ty5
 rw [if_neg e5] at h
 by_cases e6:T=6
 ·rw [if_pos e6] at h;cases h;rw [e6];exact ty6
 rw [if_neg e6] at h
 by_cases e7:T=7
 ·rw [if_pos e7] at h;cases h;rw [e7];exact ty7
 rw [if_neg e7] at h
 by_cases e8:T=8
 ·rw [if_pos e8] at h;cases h;rw [e8];exact ty8
 rw [if_neg e8] at h
 by_cases e9:T=9
 ·rw [if_pos e9] at h;cases h;rw [e9];exact ty9
 rw [if_neg e9] at h
 by_cases e10:T=10
 ·rw [if_pos e10] at h;cases h;rw [e10];exact ty10
 rw [if_neg e10] at h
 by_cases e11:T=11
 ·rw [if_pos e11] at h;cases h;rw [e11];exact ty11
 rw [if_neg e11] at h
 by_cases e22:T=22
 ·rw [if_pos e22] at h;cases h;rw [e22];exact ty22
 rw [if_neg e22] at h
 by_cases e23:T=23
 ·rw [if_pos e23] at h;cases h;rw [e23];exact ty23
 rw [if_neg e23] at h
 by_cases e24:T=24
 ·rw [if_pos e24] at h;cases h;rw [e24];exact ty24
 rw [if_neg e24] at h
 by_cases e25:T=25
 ·rw [if_pos e25] at h;cases h;rw [e25];exact ty25
 rw [if_neg e25] at h
 by_cases e27:T=27
 ·rw [if_pos e27] at h;cases h;rw [e27];exact ty27
 rw [if_neg e27] at h
 by_cases e28:T=28
 ·rw [if_pos e28] at h;cases h;rw [e28];exact ty28
 rw [if_neg e28] at h
 by_cases e29:T=29
 ·rw [if_pos e29] at h;cases h;rw [e29];exact ty29
 rw [if_neg e29] at h
 by_cases e30:T=30
 ·rw [if_pos e30] at h;cases h;rw [e30];exact ty30
 rw [if_neg e30] at h
 by_cases e33:T=33
 ·rw [if_pos e33] at h;cases h;rw [e33];exact ty33
 rw [if_neg e33] at h
 by_cases e34:T=34
 ·rw [if_pos e34] at h;cases h;rw [e34];exact ty34
 rw [if_neg e34] at h
 by_cases e35:T=35
 ·rw [if_pos e35] at h;cases h;rw [e35];exact ty35
 rw [if_neg e35] at h
 by_cases e42:T=42
 ·rw [if_pos e42] at h;cases h;rw [e42];exact ty42
 rw [if_neg e42] at h
 by_cases e43:T=43
 ·rw [if_pos e43] at h;cases h;rw [e43];exact ty43
 rw [if_neg e43] at h
 by_cases e53:T=53
 ·rw [if_pos e53] at h;cases h;rw [e53];exact ty53
 rw [if_neg e53] at h
 by_cases e54:T=54
 ·rw [if_pos e54] at h;cases h;rw [e54];exact ty54
 rw [if_neg e54] at h
 by_cases e67:T=67
 ·rw [if_pos e67] at h;cases h;rw [e67];exact ty67
 rw [if_neg e67] at h
 by_cases e72:T=72
 ·rw [if_pos e72] at h;cases h;rw [e72];exact ty72
 rw [if_neg e72] at h
 by_cases e83:T=83
 ·rw [if_pos e83] at h;cases h;rw [e83];exact ty83
 rw [if_neg e83] at h
 by_cases e90:T=90
 ·rw [if_pos e90] at h;cases h;rw [e90];exact ty90
 rw [if_neg e90] at h
 by_cases e106:T=106
 ·rw [if_pos e106] at h;cases h;rw [e106];exact ty106
 rw [if_neg e106] at h
 by_cases e107:T=107
 ·rw [if_pos e107] at h;cases h;rw [e107];exact ty107
 rw [if_neg e107] at h
 by_cases e110:T=110
 ·rw [if_pos e110] at h;cases h;rw [e110];exact ty110
 rw [if_neg e110] at h
 by_cases e111:T=111
 ·rw [if_pos e111] at h;cases h;rw [e111];exact ty111
 rw [if_neg e111] at h
 cases h
def tyW (T:TypeId):Option TyI:=match tyT T with
 | some i=>some ⟨i.size,i.agg,i.zero,i.flds,i.kd,i.pl,true,false⟩
 | none=>none
theorem tyW_ok:TabOK tyW:=by
 intro T i h
 unfold tyW at h
 split at h
 ·rename_i i0 h0
  cases h
  have:=tyT_ok T i0 h0
  exact ⟨this.info,this.agg,this.flat,this.kd,this.pl⟩
 ·cases h
def tyS (T:TypeId):Option TyI:=match tyT T with
 | some i=>some ⟨i.size,i.agg,i.zero,i.flds,i.kd,i.pl,true,true⟩
 | none=>none
theorem tyS_ok:TabOK tyS:=by
 intro T i h
 unfold tyS at h
 split at h
 ·rename_i i0 h0
  cases h
  have:=tyT_ok T i0 h0
  exact ⟨this.info,this.agg,this.flat,this.kd,this.pl⟩
 ·cases h
end Go.Proofs.YteiaofkgbdlpoaaDoor
namespace Go.Proofs.YteiaofkgbdlpoaaDoor
set_option linter.unusedSimpArgs false
set_option linter.unusedVariables false
open Go.RowKit
section
variable {P:Program} {ops:Array Oper} {Q:Exit→Act→World→Prop}
def notDone (ops:Array Oper) (listed:Array Bool):List Nat:=(List.range ops.size).filter fun i=>!listed.getD i true
theorem notDone_set {listed:Array Bool} {i:Nat} (hi:i<ops.size) (hs:listed.size=ops.size) (hf:listed.getD i true=false) :
 (notDone ops (listed.setIfInBounds i true)).length<(notDone ops listed).length:=by
 unfold notDone
 have hsub:∀ j,(!(listed.setIfInBounds i true).getD j true)=((!listed.getD j true) && decide (j ≠ i)):=by
  intro j
  by_cases e:i=j
  ·subst e;simp [show i<listed.size by omega]
  ·rw [getD_set_ne true e];simp [show j ≠ i from fun h=>e h.symm]
 have hmem:i∈(List.range ops.size).filter fun j=>!listed.getD j true:=List.mem_filter.2 ⟨List.mem_range.2 hi,by rw [hf];rfl⟩
 have h1:((List.range ops.size).filter fun j=>!(listed.setIfInBounds i true).getD j true)=(((List.range ops.size).filter fun j=>!listed.getD j true).filter fun j=>decide (j ≠ i)):=by
  rw [List.filter_filter];congr 1;funext j;rw [hsub j,Bool.and_comm]
 rw [h1]
 exact List.length_filter_lt_length_iff_exists.2 ⟨i,hmem,by simp⟩
theorem wp_region_inv {id:Nat} {a:Act} {w:World} (hm:P.follows .mixedOrders=true) (Inv:(Nat→Bool)→Act→World→Prop)
 (hback:∀ i o,ops[i]? = some o→∀ e∈o.after,Region.binds .any e=true→e.on<i)
 (h0:Inv (fun _=>false) a w.drew)
 (hs:∀ (d:Nat→Bool) a' w' i o,ops[i]? = some o→d i=false→(∀ e∈o.after,Region.binds .any e=true→d e.on=true) →
  (∀ j o',ops[j]? = some o'→d j=true→∀ e∈o'.after,Region.binds .any e=true→d e.on=true)→(∀ j,ops.size≤j→d j=false)→Inv d a' w'→wpOp P ops Q i (fun a'' w''=>Inv (fun j=>if j=i then true else d j) a'' w'') a' w')
 (he:∀ (d:Nat→Bool) a' w',(∀ i,i<ops.size→d i=true)→(∀ j,ops.size≤j→d j=false)→Inv d a' w'→Q .normal a' w') :
 (Code.region id ops true).wp P Q a w:=by
 have all:∀ (listed:Array Bool),listed.size=ops.size→Region.ready .any ops listed=[]→∀ i,i<ops.size→listed.getD i false=true:=by
  intro listed hsz hr i
  induction i using Nat.strongRecOn with
  | ind i ih =>
   intro hi
   cases hd:listed.getD i false with
   | true=>rfl
   | false =>
    exfalso
    have hmem:i∈Region.ready .any ops listed:=mem_ready.2 ⟨by
     have h1:i<listed.size:=by omega
     simp [Array.getD,h1] at hd ⊢;exact hd,ops[i],by simp [hi],fun e he' hb=>by
     have hlt:=hback i ops[i] (by simp [hi]) e he' hb
     exact ih _ hlt (by omega)⟩
    rw [hr] at hmem;cases hmem
 have key:∀ (fuel:Nat) (listed:Array Bool) (a':Act) (w':World),listed.size=ops.size→(notDone ops listed).length≤fuel →
  (∀ j o',ops[j]? = some o'→listed.getD j false=true→∀ e∈o'.after,Region.binds .any e=true→listed.getD e.on false=true)→Inv (fun i=>listed.getD i false) a' w'→wpAny P .any ops Q fuel listed a' w':=by
  intro fuel
  induction fuel with
  | zero =>
   intro listed a' w' hsz hc hcl hI
   have hnil:notDone ops listed=[]:=List.eq_nil_of_length_eq_zero (by omega)
   have hr:Region.ready .any ops listed=[]:=by
    cases hr:Region.ready .any ops listed with
    | nil=>rfl
    | cons x xs =>
     have hx:x∈Region.ready .any ops listed:=by rw [hr];simp
     obtain ⟨h1,o,ho,_⟩:=mem_ready.1 hx
     have:x∈notDone ops listed:=List.mem_filter.2 ⟨List.mem_range.2 (Array.getElem?_eq_some_iff.1 ho).1,by rw [h1];rfl⟩
     rw [hnil] at this;cases this
   exact ⟨hr,he _ _ _ (all listed hsz hr) (fun j hj=>by simp [Array.getD,show ¬ j<listed.size by omega]) hI⟩
  | succ fuel ih =>
   intro listed a' w' hsz hc hcl hI
   refine ⟨fun hr=>he _ _ _ (all listed hsz hr) (fun j hj=>by simp [Array.getD,show ¬ j<listed.size by omega]) hI,fun i hi=>?_⟩
   obtain ⟨h1,o,ho,h2⟩:=mem_ready.1 hi
   have hlt:=(Array.getElem?_eq_some_iff.1 ho).1
   have hd:listed.getD i false=false:=by
    have h3:i<listed.size:=by omega
    simp [Array.getD,h3] at h1 ⊢;exact h1
   refine wpOp_mono (fun a'' w'' hI'=>ih (listed.setIfInBounds i true) a'' w'' (by simpa using hsz) ?_ ?_ ?_) (hs _ a' w' i o ho hd h2 hcl (fun j hj=>by simp [Array.getD,show ¬ j<listed.size by omega]) hI)
   ·have:=notDone_set hlt hsz h1;omega
   ·intro j o' ho' hj e he' hb
    by_cases hji:i=j
    ·subst hji
     rw [ho] at ho';cases ho'
     by_cases hei:i=e.on
     ·rw [← hei];simp [show i<listed.size by omega]
     ·rw [getD_set_ne false hei];exact h2 e he' hb
    ·rw [getD_set_ne false hji] at hj
     by_cases hei:i=e.on
     ·rw [← hei];simp [show i<listed.size by omega]
     ·rw [getD_set_ne false hei];exact hcl j o' ho' hj e he' hb
   ·have heq:(fun j=>if j=i then true else listed.getD j false)=(fun j=>(listed.setIfInBounds i true).getD j false):=by
     symm
     funext j
     by_cases e:i=j
     ·subst e;simp [show i<listed.size by omega]
     ·rw [getD_set_ne false e];simp [show ¬ j=i from fun h=>e h.symm]
    exact heq ▸ hI'
 refine wp_region_any hm (key _ _ _ _ (by simp) ?_ ?_ ?_)
 ·unfold notDone;exact Nat.le_trans (List.length_filter_le _ _) (by simp)
 ·intro j o' ho' hj;exfalso
  by_cases hjs:j<ops.size <;> simp [Array.getD,hjs] at hj
 ·have:(fun i=>(Array.replicate ops.size false).getD i false)=fun _=>false:=by
   funext i
   by_cases h:i<ops.size <;> simp [Array.getD,h]
  rw [this];exact h0
def reachF (ops:Array Oper):Nat→Nat→Nat→Bool
 | 0,_,_=>false
 | f+1,k,j=>match ops[k]? with
  | some o=>o.after.toList.any fun e=>Region.binds .any e && (e.on == j || reachF ops f e.on j)
  | none=>false
theorem reachF_done {d:Nat→Bool} (hcl:∀ j o',ops[j]? = some o'→d j=true→∀ e∈o'.after,Region.binds .any e=true→d e.on=true) :
 ∀ (f k j:Nat),(∀ o,ops[k]? = some o→∀ e∈o.after,Region.binds .any e=true→d e.on=true)→reachF ops f k j=true→d j=true:=by
 intro f
 induction f with
 | zero=>intro k j _ h;simp [reachF] at h
 | succ f ih =>
  intro k j hk h
  unfold reachF at h
  cases ho:ops[k]? with
  | none=>rw [ho] at h;cases h
  | some o =>
   rw [ho] at h
   simp only [List.any_eq_true,Bool.and_eq_true,Bool.or_eq_true,beq_iff_eq] at h
   obtain ⟨e,he,hb,h1⟩:=h
   have hd:=hk o ho e (by simpa using he) hb
   rcases h1 with rfl | h1
   ·exact hd
   ·exact ih e.on j (fun o' ho'=>hcl e.on o' ho' hd) h1
structure GrowChk (ops:Array Oper) (n N:Nat):Prop where
 pos:0<n
 le:n≤ops.size
 back:∀ i o,ops[i]? = some o→∀ e∈o.after,Region.binds .any e=true→e.on<i
 guard:∀ i o,i<n→ops[i]? = some o→o.guard=none
 dst:∀ i o,i<n→ops[i]? = some o→∃ t,o.dst=some t∧t<N
 apart:∀ i j o o' t,i<n→j<n→i ≠ j→ops[i]? = some o→ops[j]? = some o'→o.dst=some t→o'.dst ≠ some t
 tail:∀ i j,n≤i→i<ops.size→j<i→reachF ops ops.size i j=true
def GrowFr (ops:Array Oper) (n:Nat) (a a':Act):Prop:=a'.defers=a.defers∧a'.tmps.size=a.tmps.size∧∀ t,(∀ i o,i<n→ops[i]? = some o→o.dst ≠ some t)→a'.tmps.getD t undef=a.tmps.getD t undef
def notDstB (ops:Array Oper) (n t:Nat):Bool:=(List.range n).all fun i=>match ops[i]? with | some o=>decide (o.dst ≠ some t) | none=>true
theorem GrowFr.at {n:Nat} {a a':Act} (h:GrowFr ops n a a') (t:Nat) (hb:notDstB ops n t=true):a'.tmps.getD t undef=a.tmps.getD t undef:=by
 refine h.2.2 t fun i o hi ho=>?_
 simp only [notDstB,List.all_eq_true,List.mem_range] at hb
 have:=hb i hi
 rw [ho] at this
 simpa using this
theorem GrowFr.ev {n:Nat} {a a':Act} (h:GrowFr ops n a a') (t:Nat) (hb:notDstB ops n t=true) {v:Value} (hv:a.tmps.getD t undef=v):a'.eval (.tmp t)=v:=by
 rw [← hv];exact h.at t hb
end
end Go.Proofs.YteiaofkgbdlpoaaDoor
