/- Lemmas for the proof of FnCoverDuality, part 4 of 26: no condition of their own. -/
import Derived.Test.YtkohkoiegmcghaaDoorJ3
import Derived.Test.YtkohkoiegmcghaaDoorJ1
import Derived.Orders
namespace Go.Proofs.YtkohkoiegmcghaaDoor
open Go.RowKit
theorem ty2:TyOK 2 ⟨1,false,[.d (.int 0)],[],some (.int .i64),[],false,false⟩:=tyLeaf (z:=.int .i64 0) (b:=8) (by kernel_rfl) (by decide) ⟨_,_,rfl,⟨zInt,fun _ _=>rfl⟩,rfl,rfl⟩ rfl Tryd.underlying2 (fun _ e=>(by cases e)) (fun _ _ e=>(by cases e))
theorem ty3:TyOK 3 ⟨1,false,[.d (.int 0)],[],some (.int .i64),[],false,false⟩:=tyLeaf (z:=.int .i64 0) (b:=8) (by kernel_rfl) (by decide) ⟨_,_,rfl,⟨zInt,fun _ _=>rfl⟩,rfl,rfl⟩ rfl Tryd.underlying3 (fun _ e=>(by cases e)) (fun _ _ e=>(by cases e))
theorem ty4:TyOK 4 ⟨1,false,[.d (.bool false)],[],some (.bool),[],false,false⟩:=tyLeaf (z:=.bool false) (b:=1) (by kernel_rfl) (by decide) ⟨_,_,rfl,⟨zBool,fun _ _=>rfl⟩,rfl,rfl⟩ rfl Tryd.underlying4 (fun _ e=>(by cases e)) (fun _ _ e=>(by cases e))
theorem ty5:TyOK 5 ⟨1,false,[.d (.byte 0)],[],some (.int .u8),[],false,false⟩:=tyLeaf (z:=.int .u8 0) (b:=1) (by kernel_rfl) (by decide) ⟨_,_,rfl,⟨zByte,fun _ _=>rfl⟩,rfl,rfl⟩ rfl Tryd.underlying5 (fun _ e=>(by cases e)) (fun _ _ e=>(by cases e))
theorem ty6:TyOK 6 ⟨1,false,[.d (.byte 0)],[],some (.int .u8),[],false,false⟩:=tyLeaf (z:=.int .u8 0) (b:=1) (by kernel_rfl) (by decide) ⟨_,_,rfl,⟨zByte,fun _ _=>rfl⟩,rfl,rfl⟩ rfl Tryd.underlying6 (fun _ e=>(by cases e)) (fun _ _ e=>(by cases e))
theorem ty7:TyOK 7 ⟨4,true,[.d (.int 0),.d (.int 0),.d (.bool false),.d (.byte 0)],[(0,2),(1,3),(2,4),(3,6)],none,[(0,1),(1,1),(2,1),(3,1)],false,false⟩:=tyStruct (z:=.agg #[.int .i64 0,.int .i64 0,.bool false,.int .u8 0]) (b:=24) (by kernel_rfl) (by decide) ⟨_,_,rfl,⟨zInt,fun _ _=>rfl⟩,rfl,⟨_,_,rfl,⟨zInt,fun _ _=>rfl⟩,rfl,⟨_,_,rfl,⟨zBool,fun _ _=>rfl⟩,rfl,⟨_,_,rfl,⟨zByte,fun _ _=>rfl⟩,rfl,rfl⟩⟩⟩⟩ rfl Tryd.underlying7 (by kernel_rfl) (by kernel_rfl)
theorem ty8:TyOK 8 ⟨4,true,[.d (.int 0),.d (.int 0),.d (.bool false),.d (.byte 0)],[(0,2),(1,3),(2,4),(3,6)],none,[(0,1),(1,1),(2,1),(3,1)],false,false⟩:=tyStruct (z:=.agg #[.int .i64 0,.int .i64 0,.bool false,.int .u8 0]) (b:=24) (by kernel_rfl) (by decide) ⟨_,_,rfl,⟨zInt,fun _ _=>rfl⟩,rfl,⟨_,_,rfl,⟨zInt,fun _ _=>rfl⟩,rfl,⟨_,_,rfl,⟨zBool,fun _ _=>rfl⟩,rfl,⟨_,_,rfl,⟨zByte,fun _ _=>rfl⟩,rfl,rfl⟩⟩⟩⟩ rfl Tryd.underlying8 (by kernel_rfl) (by kernel_rfl)
theorem ty9:TyOK 9 ⟨1,false,[.d (.str ⟨#[]⟩)],[],some (.string),[],false,false⟩:=tyLeaf (z:=.string ⟨#[]⟩) (b:=16) (by kernel_rfl) (by decide) ⟨_,_,rfl,⟨zStr,fun _ _=>rfl⟩,rfl,rfl⟩ rfl Tryd.underlying9 (fun _ e=>(by cases e)) (fun _ _ e=>(by cases e))
theorem ty10:TyOK 10 ⟨1,false,[.d (.str ⟨#[]⟩)],[],some (.string),[],false,false⟩:=tyLeaf (z:=.string ⟨#[]⟩) (b:=16) (by kernel_rfl) (by decide) ⟨_,_,rfl,⟨zStr,fun _ _=>rfl⟩,rfl,rfl⟩ rfl Tryd.underlying10 (fun _ e=>(by cases e)) (fun _ _ e=>(by cases e))
theorem ty11:TyOK 11 ⟨1,false,[.d (.str ⟨#[]⟩)],[],some (.string),[],false,false⟩:=tyLeaf (z:=.string ⟨#[]⟩) (b:=16) (by kernel_rfl) (by decide) ⟨_,_,rfl,⟨zStr,fun _ _=>rfl⟩,rfl,rfl⟩ rfl Tryd.underlying11 (fun _ e=>(by cases e)) (fun _ _ e=>(by cases e))
theorem ty22:TyOK 22 ⟨1,false,[.nil],[],some (.slice 5),[],false,false⟩:=tyLeaf (z:=.slice none 0 0) (b:=24) (by kernel_rfl) (by decide) ⟨_,_,rfl,⟨zNil,fun _ _=>rfl⟩,rfl,rfl⟩ rfl Tryd.underlying22 (fun _ e=>(by cases e)) (fun _ _ e=>(by cases e))
theorem ty24:TyOK 24 ⟨1,false,[.nil],[],some (.slice 57),[],false,false⟩:=tyLeaf (z:=.slice none 0 0) (b:=24) (by kernel_rfl) (by decide) ⟨_,_,rfl,⟨zNil,fun _ _=>rfl⟩,rfl,rfl⟩ rfl Tryd.underlying24 (fun _ e=>(by cases e)) (fun _ _ e=>(by cases e))
theorem ty25:TyOK 25 ⟨1,false,[.nil],[],some (.slice 3),[],false,false⟩:=tyLeaf (z:=.slice none 0 0) (b:=24) (by kernel_rfl) (by decide) ⟨_,_,rfl,⟨zNil,fun _ _=>rfl⟩,rfl,rfl⟩ rfl Tryd.underlying25 (fun _ e=>(by cases e)) (fun _ _ e=>(by cases e))
theorem ty26:TyOK 26 ⟨3,true,[.d (.int 0),.nil,.nil],[(0,3),(1,24),(2,25)],none,[(0,1),(1,1),(2,1)],false,false⟩:=tyStruct (z:=.agg #[.int .i64 0,.slice none 0 0,.slice none 0 0]) (b:=56) (by kernel_rfl) (by decide) ⟨_,_,rfl,⟨zInt,fun _ _=>rfl⟩,rfl,⟨_,_,rfl,⟨zNil,fun _ _=>rfl⟩,rfl,⟨_,_,rfl,⟨zNil,fun _ _=>rfl⟩,rfl,rfl⟩⟩⟩ rfl Tryd.underlying26 (by kernel_rfl) (by kernel_rfl)
theorem ty27:TyOK 27 ⟨3,true,[.d (.int 0),.nil,.nil],[(0,3),(1,24),(2,25)],none,[(0,1),(1,1),(2,1)],false,false⟩:=tyStruct (z:=.agg #[.int .i64 0,.slice none 0 0,.slice none 0 0]) (b:=56) (by kernel_rfl) (by decide) ⟨_,_,rfl,⟨zInt,fun _ _=>rfl⟩,rfl,⟨_,_,rfl,⟨zNil,fun _ _=>rfl⟩,rfl,⟨_,_,rfl,⟨zNil,fun _ _=>rfl⟩,rfl,rfl⟩⟩⟩ rfl Tryd.underlying27 (by kernel_rfl) (by kernel_rfl)
theorem ty28:TyOK 28 ⟨1,false,[.nil],[],some (.slice 33),[],false,false⟩:=tyLeaf (z:=.slice none 0 0) (b:=24) (by kernel_rfl) (by decide) ⟨_,_,rfl,⟨zNil,fun _ _=>rfl⟩,rfl,rfl⟩ rfl Tryd.underlying28 (fun _ e=>(by cases e)) (fun _ _ e=>(by cases e))
theorem ty32:TyOK 32 ⟨2,true,[.d (.int 0),.d (.int 0)],[(0,3),(1,3)],none,[(0,1),(1,1)],false,false⟩:=tyStruct (z:=.agg #[.int .i64 0,.int .i64 0]) (b:=16) (by kernel_rfl) (by decide) ⟨_,_,rfl,⟨zInt,fun _ _=>rfl⟩,rfl,⟨_,_,rfl,⟨zInt,fun _ _=>rfl⟩,rfl,rfl⟩⟩ rfl Tryd.underlying32 (by kernel_rfl) (by kernel_rfl)
theorem ty33:TyOK 33 ⟨2,true,[.d (.int 0),.d (.int 0)],[(0,3),(1,3)],none,[(0,1),(1,1)],false,false⟩:=tyStruct (z:=.agg #[.int .i64 0,.int .i64 0]) (b:=16) (by kernel_rfl) (by decide) ⟨_,_,rfl,⟨zInt,fun _ _=>rfl⟩,rfl,⟨_,_,rfl,⟨zInt,fun _ _=>rfl⟩,rfl,rfl⟩⟩ rfl Tryd.underlying33 (by kernel_rfl) (by kernel_rfl)
theorem ty41:TyOK 41 ⟨1,false,[.nil],[],some (.slice 28),[],false,false⟩:=tyLeaf (z:=.slice none 0 0) (b:=24) (by kernel_rfl) (by decide) ⟨_,_,rfl,⟨zNil,fun _ _=>rfl⟩,rfl,rfl⟩ rfl Tryd.underlying41 (fun _ e=>(by cases e)) (fun _ _ e=>(by cases e))
theorem ty42:TyOK 42 ⟨3,true,[.nil,.nil,.nil],[(0,41),(1,28),(2,28)],none,[(0,1),(1,1),(2,1)],false,false⟩:=tyStruct (z:=.agg #[.slice none 0 0,.slice none 0 0,.slice none 0 0]) (b:=72) (by kernel_rfl) (by decide) ⟨_,_,rfl,⟨zNil,fun _ _=>rfl⟩,rfl,⟨_,_,rfl,⟨zNil,fun _ _=>rfl⟩,rfl,⟨_,_,rfl,⟨zNil,fun _ _=>rfl⟩,rfl,rfl⟩⟩⟩ rfl Tryd.underlying42 (by kernel_rfl) (by kernel_rfl)
theorem ty43:TyOK 43 ⟨3,true,[.nil,.nil,.nil],[(0,41),(1,28),(2,28)],none,[(0,1),(1,1),(2,1)],false,false⟩:=tyStruct (z:=.agg #[.slice none 0 0,.slice none 0 0,.slice none 0 0]) (b:=72) (by kernel_rfl) (by decide) ⟨_,_,rfl,⟨zNil,fun _ _=>rfl⟩,rfl,⟨_,_,rfl,⟨zNil,fun _ _=>rfl⟩,rfl,⟨_,_,rfl,⟨zNil,fun _ _=>rfl⟩,rfl,rfl⟩⟩⟩ rfl Tryd.underlying43 (by kernel_rfl) (by kernel_rfl)
theorem ty56:TyOK 56 ⟨2,true,[.d (.str ⟨#[]⟩),.nil],[(0,9),(1,25)],none,[(0,1),(1,1)],false,false⟩:=tyStruct (z:=.agg #[.string ⟨#[]⟩,.slice none 0 0]) (b:=40) (by kernel_rfl) (by decide) ⟨_,_,rfl,⟨zStr,fun _ _=>rfl⟩,rfl,⟨_,_,rfl,⟨zNil,fun _ _=>rfl⟩,rfl,rfl⟩⟩ rfl Tryd.underlying56 (by kernel_rfl) (by kernel_rfl)
theorem ty57:TyOK 57 ⟨2,true,[.d (.str ⟨#[]⟩),.nil],[(0,9),(1,25)],none,[(0,1),(1,1)],false,false⟩:=tyStruct (z:=.agg #[.string ⟨#[]⟩,.slice none 0 0]) (b:=40) (by kernel_rfl) (by decide) ⟨_,_,rfl,⟨zStr,fun _ _=>rfl⟩,rfl,⟨_,_,rfl,⟨zNil,fun _ _=>rfl⟩,rfl,rfl⟩⟩ rfl Tryd.underlying57 (by kernel_rfl) (by kernel_rfl)
theorem ty72:TyOK 72 ⟨3,true,[.nil,.d (.int 0),.d (.int 0)],[(0,22),(1,3),(2,3)],none,[(0,1),(1,1),(2,1)],false,false⟩:=tyStruct (z:=.agg #[.slice none 0 0,.int .i64 0,.int .i64 0]) (b:=40) (by kernel_rfl) (by decide) ⟨_,_,rfl,⟨zNil,fun _ _=>rfl⟩,rfl,⟨_,_,rfl,⟨zInt,fun _ _=>rfl⟩,rfl,⟨_,_,rfl,⟨zInt,fun _ _=>rfl⟩,rfl,rfl⟩⟩⟩ rfl Tryd.underlying72 (by kernel_rfl) (by kernel_rfl)
theorem ty73:TyOK 73 ⟨3,true,[.nil,.d (.int 0),.d (.int 0)],[(0,22),(1,3),(2,3)],none,[(0,1),(1,1),(2,1)],false,false⟩:=tyStruct (z:=.agg #[.slice none 0 0,.int .i64 0,.int .i64 0]) (b:=40) (by kernel_rfl) (by decide) ⟨_,_,rfl,⟨zNil,fun _ _=>rfl⟩,rfl,⟨_,_,rfl,⟨zInt,fun _ _=>rfl⟩,rfl,⟨_,_,rfl,⟨zInt,fun _ _=>rfl⟩,rfl,rfl⟩⟩⟩ rfl Tryd.underlying73 (by kernel_rfl) (by kernel_rfl)
theorem ty76:TyOK 76 ⟨1,false,[.nil],[],some (.slice 9),[],false,false⟩:=tyLeaf (z:=.slice none 0 0) (b:=24) (by kernel_rfl) (by decide) ⟨_,_,rfl,⟨zNil,fun _ _=>rfl⟩,rfl,rfl⟩ rfl Tryd.underlying76 (fun _ e=>(by cases e)) (fun _ _ e=>(by cases e))
theorem ty82:TyOK 82 ⟨1,false,[.nil],[],some (.slice 4),[],false,false⟩:=tyLeaf (z:=.slice none 0 0) (b:=24) (by kernel_rfl) (by decide) ⟨_,_,rfl,⟨zNil,fun _ _=>rfl⟩,rfl,rfl⟩ rfl Tryd.underlying82 (fun _ e=>(by cases e)) (fun _ _ e=>(by cases e))
theorem ty110:TyOK 110 ⟨0,true,[],[(0,109)],none,[(0,0)],false,false⟩:=tyStruct (z:=.agg #[]) (b:=0) (by kernel_rfl) (by decide) rfl rfl Tryd.underlying110 (by kernel_rfl) (by kernel_rfl)
theorem ty111:TyOK 111 ⟨0,true,[],[(0,109)],none,[(0,0)],false,false⟩:=tyStruct (z:=.agg #[]) (b:=0) (by kernel_rfl) (by decide) rfl rfl Tryd.underlying111 (by kernel_rfl) (by kernel_rfl)
theorem ty114:TyOK 114 ⟨1,false,[.d (.byte 0)],[],some (.int .u8),[],false,false⟩:=tyLeaf (z:=.int .u8 0) (b:=1) (by kernel_rfl) (by decide) ⟨_,_,rfl,⟨zByte,fun _ _=>rfl⟩,rfl,rfl⟩ rfl Tryd.underlying114 (fun _ e=>(by cases e)) (fun _ _ e=>(by cases e))
theorem ty115:TyOK 115 ⟨1,false,[.d (.byte 0)],[],some (.int .u8),[],false,false⟩:=tyLeaf (z:=.int .u8 0) (b:=1) (by kernel_rfl) (by decide) ⟨_,_,rfl,⟨zByte,fun _ _=>rfl⟩,rfl,rfl⟩ rfl Tryd.underlying115 (fun _ e=>(by cases e)) (fun _ _ e=>(by cases e))
def tyT (T:TypeId):Option TyI :=
 if T=2 then some ⟨1,false,[.d (.int 0)],[],some (.int .i64),[],false,false⟩ else
 if T=3 then some ⟨1,false,[.d (.int 0)],[],some (.int .i64),[],false,false⟩ else
 if T=4 then some ⟨1,false,[.d (.bool false)],[],some (.bool),[],false,false⟩ else
 if T=5 then some ⟨1,false,[.d (.byte 0)],[],some (.int .u8),[],false,false⟩ else
 if T=6 then some ⟨1,false,[.d (.byte 0)],[],some (.int .u8),[],false,false⟩ else
 if T=7 then some ⟨4,true,[.d (.int 0),.d (.int 0),.d (.bool false),.d (.byte 0)],[(0,2),(1,3),(2,4),(3,6)],none,[(0,1),(1,1),(2,1),(3,1)],false,false⟩ else
 if T=8 then some ⟨4,true,[.d (.int 0),.d (.int 0),.d (.bool false),.d (.byte 0)],[(0,2),(1,3),(2,4),(3,6)],none,[(0,1),(1,1),(2,1),(3,1)],false,false⟩ else
 if T=9 then some ⟨1,false,[.d (.str ⟨#[]⟩)],[],some (.string),[],false,false⟩ else
 if T=10 then some ⟨1,false,[.d (.str ⟨#[]⟩)],[],some (.string),[],false,false⟩ else
 if T=11 then some ⟨1,false,[.d (.str ⟨#[]⟩)],[],some (.string),[],false,false⟩ else
 if T=22 then some ⟨1,false,[.nil],[],some (.slice 5),[],false,false⟩ else
 if T=24 then some ⟨1,false,[.nil],[],some (.slice 57),[],false,false⟩ else
 if T=25 then some ⟨1,false,[.nil],[],some (.slice 3),[],false,false⟩ else
 if T=26 then some ⟨3,true,[.d (.int 0),.nil,.nil],[(0,3),(1,24),(2,25)],none,[(0,1),(1,1),(2,1)],false,false⟩ else
 if T=27 then some ⟨3,true,[.d (.int 0),.nil,.nil],[(0,3),(1,24),(2,25)],none,[(0,1),(1,1),(2,1)],false,false⟩ else
 if T=28 then some ⟨1,false,[.nil],[],some (.slice 33),[],false,false⟩ else
 if T=32 then some ⟨2,true,[.d (.int 0),.d (.int 0)],[(0,3),(1,3)],none,[(0,1),(1,1)],false,false⟩ else
 if T=33 then some ⟨2,true,[.d (.int 0),.d (.int 0)],[(0,3),(1,3)],none,[(0,1),(1,1)],false,false⟩ else
 if T=41 then some ⟨1,false,[.nil],[],some (.slice 28),[],false,false⟩ else
 if T=42 then some ⟨3,true,[.nil,.nil,.nil],[(0,41),(1,28),(2,28)],none,[(0,1),(1,1),(2,1)],false,false⟩ else
 if T=43 then some ⟨3,true,[.nil,.nil,.nil],[(0,41),(1,28),(2,28)],none,[(0,1),(1,1),(2,1)],false,false⟩ else
 if T=56 then some ⟨2,true,[.d (.str ⟨#[]⟩),.nil],[(0,9),(1,25)],none,[(0,1),(1,1)],false,false⟩ else
 if T=57 then some ⟨2,true,[.d (.str ⟨#[]⟩),.nil],[(0,9),(1,25)],none,[(0,1),(1,1)],false,false⟩ else
 if T=72 then some ⟨3,true,[.nil,.d (.int 0),.d (.int 0)],[(0,22),(1,3),(2,3)],none,[(0,1),(1,1),(2,1)],false,false⟩ else
 if T=73 then some ⟨3,true,[.nil,.d (.int 0),.d (.int 0)],[(0,22),(1,3),(2,3)],none,[(0,1),(1,1),(2,1)],false,false⟩ else
 if T=76 then some ⟨1,false,[.nil],[],some (.slice 9),[],false,false⟩ else
 if T=82 then some ⟨1,false,[.nil],[],some (.slice 4),[],false,false⟩ else
 if T=110 then some ⟨0,true,[],[(0,109)],none,[(0,0)],false,false⟩ else
 if T=111 then some ⟨0,true,[],[(0,109)],none,[(0,0)],false,false⟩ else
 if T=114 then some ⟨1,false,[.d (.byte 0)],[],some (.int .u8),[],false,false⟩ else
 if T=115 then some ⟨1,false,[.d (.byte 0)],[],some (.int .u8),[],false,false⟩ else
 none
theorem tyT_ok:TabOK tyT:=by
 intro T i h
 unfold tyT at h
 by_cases e2:T=2
 ·rw [if_pos e2] at h;cases h;rw [e2];exact ty2
 rw [if_neg e2] at h
 by_cases e3:T=3
 ·rw [if_pos e3] at h;cases h;rw [e3];exact ty3
 rw [if_neg e3] at h
 by_cases e4:T=4
 ·rw [if_pos e4] at h;cases h;rw [e4];exact ty4
 rw [if_neg e4] at h
 by_cases e5:T=5
 ·rw [if_pos e5] at h;cases h;rw [e5];exact ty5
 rw [if_neg e5] at h
 by_cases e6:T=6
 ·rw [if_pos e6] at h;cases h;rw [e6];exact ty6
 rw [if_neg e6] at h
 by_cases e7:T=7
 ·rw [if_pos e7] at h;cases h;rw [e7];exact ty7
 rw [if_neg e7] at h
 by_cases e8:T=8
 ·rw [if_pos e8] at h;cases h;rw [e8];exact ty8
 rw [if_neg e8] at h
 by_cases e9:T=9
 ·rw [if_pos e9] at h;cases h;rw [e9];exact ty9
 rw [if_neg e9] at h
 by_cases e10:T=10
 ·rw [if_pos e10] at h;cases h;rw [e10];exact ty10
 rw [if_neg e10] at h
 by_cases e11:T=11
 ·rw [if_pos e11] at h;cases h;rw [e11];exact ty11
 rw [if_neg e11] at h
 by_cases e22:T=22
 ·rw [if_pos e22] at h;cases h;rw [e22];exact ty22
 rw [if_neg e22] at h
 by_cases e24:T=24
 ·rw [if_pos e24] at h;cases h;rw [e24];exact ty24
 rw [if_neg e24] at h
 by_cases e25:T=25
 ·rw [if_pos e25] at h;cases h;rw [e25];exact ty25
 rw [if_neg e25] at h
 by_cases e26:T=26
 ·rw [if_pos e26] at h;cases h;rw [e26];exact ty26
 rw [if_neg e26] at h
 by_cases e27:T=27
 ·rw [if_pos e27] at h;cases h;rw [e27];exact ty27
 rw [if_neg e27] at h
 by_cases e28:T=28
 ·rw [if_pos e28] at h;cases h;rw [e28];exact ty28
 rw [if_neg e28] at h
 by_cases e32:T=32
 ·rw [if_pos e32] at h;cases h;rw [e32];exact ty32
 rw [if_neg e32] at h
 by_cases e33:T=33
 ·rw [if_pos e33] at h;cases h;rw [e33];exact ty33
 rw [if_neg e33] at h
 by_cases e41:T=41
 ·rw [if_pos e41] at h;cases h;rw [e41];exact ty41
 rw [if_neg e41] at h
 by_cases e42:T=42
 ·rw [if_pos e42] at h;cases h;rw [e42];exact ty42
 rw [if_neg e42] at h
 by_cases e43:T=43
 ·rw [if_pos e43] at h;cases h;rw [e43];exact ty43
 rw [if_neg e43] at h
 by_cases e56:T=56
 ·rw [if_pos e56] at h;cases h;rw [e56];exact ty56
 rw [if_neg e56] at h
 by_cases e57:T=57
 ·rw [if_pos e57] at h;cases h;rw [e57];exact ty57
 rw [if_neg e57] at h
 by_cases e72:T=72
 ·rw [if_pos e72] at h;cases h;rw [e72];exact ty72
 rw [if_neg e72] at h
 by_cases e73:T=73
 ·rw [if_pos e73] at h;cases h;rw [e73];exact ty73
 rw [if_neg e73] at h
 by_cases e76:T=76
 ·rw [if_pos e76] at h;cases h;rw [e76];exact ty76
 rw [if_neg e76] at h
 by_cases e82:T=82
 ·rw [if_pos e82] at h;cases h;rw [e82];exact ty82
 rw [if_neg e82] at h
 by_cases e110:T=110
 ·rw [if_pos e110] at h;cases h;rw [e110];exact ty110
 rw [if_neg e110] at h
 by_cases e111:T=111
 ·rw [if_pos e111] at h;cases h;rw [e111];exact ty111
 rw [if_neg e111] at h
 by_cases e114:T=114
 ·rw [if_pos e114] at h;cases h;rw [e114];exact ty114
 rw [if_neg e114] at h
 by_cases e115:T=115
 ·rw [if_pos e115] at h;cases h;rw [e115];exact ty115
 rw [if_neg e115] at h
 cases h
def tyW (T:TypeId):Option TyI:=match tyT T with
 | some i=>some ⟨i.size,i.agg,i.zero,i.flds,i.kd,i.pl,true,false⟩
 | none=>none
theorem tyW_ok:TabOK tyW:=by
 intro T i h
 unfold tyW at h
 split at h
 ·rename_i i0 h0
  cases h
  have:=tyT_ok T i0 h0
  exact ⟨this.info,this.agg,this.flat,this.kd,this.pl⟩
 ·cases h
def tyS (T:TypeId):Option TyI:=match tyT T with
 | some i=>some ⟨i.size,i.agg,i.zero,i.flds,i.kd,i.pl,true,true⟩
 | none=>none
theorem tyS_ok:TabOK tyS:=by
 intro T i h
 unfold tyS at h
 split at h
 ·rename_i i0 h0
  cases h
  have:=tyT_ok T i0 h0
  exact ⟨this.info,this.agg,this.flat,this.kd,this.pl⟩
 ·cases h
end Go.Proofs.YtkohkoiegmcghaaDoor
namespace Go.Proofs.YtkohkoiegmcghaaDoor
set_option linter.unusedSimpArgs false
set_option linter.unusedVariables false
open Go.RowKit
def AscTo (xs:List Int) (k:Nat):Prop:=∀ i,i+1<k→ix xs i<ix xs (i+1)
noncomputable def ascB (xs:List Int):Bool:=@decide (AscTo xs xs.length) (Classical.propDecidable _)
open Classical in
noncomputable def firstIx (p:Nat→Prop):Nat→Nat
 | 0=>0
 | n+1=>if firstIx p n<n then firstIx p n else if p n then n else n+1
theorem firstIx_le (p:Nat→Prop) (n:Nat):firstIx p n≤n:=by
 induction n with
 | zero=>simp [firstIx]
 | succ n ih =>simp only [firstIx];split;· omega
               split <;> omega
theorem firstIx_none {p:Nat→Prop} {n:Nat} (h:∀ i,i<n→¬ p i):firstIx p n=n:=by
 induction n with
 | zero=>simp [firstIx]
 | succ n ih=>simp only [firstIx];rw [if_neg (by rw [ih fun i hi=>h i (by omega)];omega),if_neg (h n (by omega))]
theorem firstIx_eq {p:Nat→Prop} {n i:Nat} (hi:i<n) (hp:p i) (h:∀ j,j<i→¬ p j):firstIx p n=i:=by
 induction n with
 | zero=>omega
 | succ n ih =>
  simp only [firstIx]
  by_cases e:i=n
  ·subst e;rw [firstIx_none h,if_neg (by omega),if_pos hp]
  ·have:=ih (by omega);rw [this,if_pos (by omega)]
noncomputable def findF (xs:List Int) (v:Int):Int:=if firstIx (fun i=>ix xs i=v) xs.length<xs.length then (firstIx (fun i=>ix xs i=v) xs.length:Nat) else -1
theorem findF_none {xs:List Int} {v:Int} (h:∀ i,i<xs.length→ix xs i ≠ v):findF xs v = -1:=by
 unfold findF;rw [firstIx_none h,if_neg (by omega)]
theorem findF_eq {xs:List Int} {v:Int} {i:Nat} (hi:i<xs.length) (hp:ix xs i=v) (h:∀ j,j<i→ix xs j ≠ v):findF xs v=i:=by
 unfold findF;rw [firstIx_eq (p:=fun i=>ix xs i=v) hi hp h,if_pos hi]
noncomputable def seekF (xs:List Int) (from' v:Int):Int:=(firstIx (fun i=>from'≤(i:Int)∧v≤ix xs i) xs.length:Nat)
set_option maxHeartbeats 400000 in
theorem implIndexOf {fz:Bool} {lo hi:Nat} (a:Option Addr) (n c:Nat) (xs:List Int) (v:Int) (w:World) (h:IntsA fz lo hi w a n c xs) :
 Calls Tryd.prog 74 #[.slice a n c,.int .i64 v] w (Gives w (.int .i64 (findF xs v))):=by
 have hl:=h.len
 have hs:=h.small
 go_enter Tryd.func74,Tryd.ntmps74
 go_wp2
 go_loopw [9] (fun i wr=>∃ k:Nat,i=.int .i64 k∧k≤n∧(∀ j,j<k→ix xs j ≠ v)∧∃ m,wr=w.drewN m) (fun i _=>n - (intOf i).toNat)
 case atStart=>exact ⟨0,rfl,by omega,fun i hi=>by omega,0,rfl⟩
 case round =>
  obtain ⟨k,rfl,hk2,hA,m,rfl⟩:=hrel
  have HA:=hid hA;clear hA
  have HL:=hid hl;clear hl
  by_cases hlt:k<n
  ·obtain ⟨b,off,rfl,_,_,hc,_⟩:=h.open (by omega)
   have c0:=hc k (by omega)
   clear hc
   by_cases he:ix xs k=v
   ·have hb:(ix xs k == v)=true:=by simp [he]
    have He:=hid he;clear he
    go_wp2
    go_ret
    exact ⟨ret_int (findF_eq (by rw [HL.out];exact hlt) He.out HA.out).symm,_,rfl⟩
   ·have hb:(ix xs k == v)=false:=by simp [he]
    go_wp2
    go_roundw
    case rel=>exact ⟨k+1,by go_num,by omega,fun i hi=>by
     by_cases e:i=k
     ·subst e;assumption
     ·exact HA.out i (by omega),by first | exact ⟨_,rfl⟩ | exact ⟨_,dd⟩⟩
    case measure=>simp [intOf];omega
  ·go_wp2
   go_ret
   exact ⟨ret_int (findF_none (by rw [HL.out];intro i hi;exact HA.out i (by omega))).symm,_,rfl⟩
set_option maxHeartbeats 400000 in
theorem specFind {fz:Bool} {lo hi:Nat} (a:Option Addr) (n c:Nat) (xs:List Int) (v:Int) (w:World) (h:IntsA fz lo hi w a n c xs) :
 Calls Tryd.prog 43 #[.slice a n c,.int .i64 v] w (Gives w (.int .i64 (findF xs v))):=by
 have hl:=h.len
 have hs:=h.small
 go_enter Tryd.func43,Tryd.ntmps43
 go_wp2
 go_loopw [5] (fun i wr=>∃ k:Nat,i=.int .i64 k∧k≤n∧(∀ j,j<k→ix xs j ≠ v)∧∃ m,wr=w.drewN m) (fun i _=>n - (intOf i).toNat)
 case atStart=>exact ⟨0,rfl,by omega,fun i hi=>by omega,0,rfl⟩
 case round =>
  obtain ⟨k,rfl,hk2,hA,m,rfl⟩:=hrel
  have HA:=hid hA;clear hA
  have HL:=hid hl;clear hl
  by_cases hlt:k<n
  ·obtain ⟨b,off,rfl,_,_,hc,_⟩:=h.open (by omega)
   have c0:=hc k (by omega)
   clear hc
   by_cases he:ix xs k=v
   ·have hb:(ix xs k == v)=true:=by simp [he]
    have He:=hid he;clear he
    go_wp2
    go_ret
    exact ⟨ret_int (findF_eq (by rw [HL.out];exact hlt) He.out HA.out).symm,_,rfl⟩
   ·have hb:(ix xs k == v)=false:=by simp [he]
    go_wp2
    go_roundw
    case rel=>exact ⟨k+1,by go_num,by omega,fun i hi=>by
     by_cases e:i=k
     ·subst e;assumption
     ·exact HA.out i (by omega),by first | exact ⟨_,rfl⟩ | exact ⟨_,dd⟩⟩
    case measure=>simp [intOf];omega
  ·go_wp2
   go_ret
   exact ⟨ret_int (findF_none (by rw [HL.out];intro i hi;exact HA.out i (by omega))).symm,_,rfl⟩
theorem implHasInt {fz:Bool} {lo hi:Nat} (a:Option Addr) (n c:Nat) (xs:List Int) (v:Int) (w:World) (h:IntsA fz lo hi w a n c xs) :
 Calls Tryd.prog 60 #[.slice a n c,.int .i64 v] w (Gives w (.bool (decide (0≤findF xs v)))):=by
 go_enter Tryd.func60,Tryd.ntmps60
 go_wp2_with (go_at_call 74;refine (implIndexOf a n c xs v w h).mono ?_;rintro e w' ⟨rfl,m,rfl⟩)
 go_ret
 exact ⟨rfl,_,rfl⟩
def lens (xss:List (List Int)):Nat→Nat
 | 0=>0
 | k+1=>lens xss k+(rx xss k).length
noncomputable def szF (xss:List (List Int)) (left:Int):Int:=if (xss.length+lens xss xss.length:Nat)≤left then left - (xss.length+lens xss xss.length:Nat) else -1
end Go.Proofs.YtkohkoiegmcghaaDoor
namespace Go.Proofs.YtkohkoiegmcghaaDoor
set_option linter.unusedSimpArgs false
set_option linter.unusedVariables false
open Go.RowKit
theorem implWithin (x lo hi:Int) (w:World):Calls Tryd.prog 56 #[.int .i64 x,.int .i64 lo,.int .i64 hi] w (Gives w (.bool (decide (lo≤x∧x≤hi)))):=by
 by_cases h1:lo≤x
 ·by_cases h2:x≤hi
  ·have hd:decide (lo≤x∧x≤hi)=true:=by simp;omega
   rw [hd]
   go_enter Tryd.func56,Tryd.ntmps56
   go_wp2
   go_ret
   exact ⟨rfl,0,rfl⟩
  ·have hd:decide (lo≤x∧x≤hi)=false:=by simp;omega
   rw [hd]
   go_enter Tryd.func56,Tryd.ntmps56
   go_wp2
   go_ret
   exact ⟨rfl,0,rfl⟩
 ·have hd:decide (lo≤x∧x≤hi)=false:=by simp;omega
  rw [hd]
  go_enter Tryd.func56,Tryd.ntmps56
  go_wp2
  go_ret
  exact ⟨rfl,0,rfl⟩
theorem specIn (x lo hi:Int) (w:World):Calls Tryd.prog 41 #[.int .i64 x,.int .i64 lo,.int .i64 hi] w (Gives w (.bool (decide (lo≤x∧x≤hi)))):=by
 by_cases h1:lo≤x
 ·by_cases h2:x≤hi
  ·have hd:decide (lo≤x∧x≤hi)=true:=by simp;omega
   rw [hd]
   go_enter Tryd.func41,Tryd.ntmps41
   go_wp2
   go_ret
   exact ⟨rfl,0,rfl⟩
  ·have hd:decide (lo≤x∧x≤hi)=false:=by simp;omega
   rw [hd]
   go_enter Tryd.func41,Tryd.ntmps41
   go_wp2
   go_ret
   exact ⟨rfl,0,rfl⟩
 ·have hd:decide (lo≤x∧x≤hi)=false:=by simp;omega
  rw [hd]
  go_enter Tryd.func41,Tryd.ntmps41
  go_wp2
  go_ret
  exact ⟨rfl,0,rfl⟩
theorem IntsA.take {fz:Bool} {lo hi:Nat} {w:World} {a:Option Addr} {n c:Nat} {xs:List Int} (h:IntsA fz lo hi w a n c xs) {j:Nat} (hj:j≤n):IntsA fz lo hi w a j c (xs.take j):=by
 obtain ⟨h1,h2,h3,h4,h5,h6⟩:=h
 refine ⟨by simp;omega,by omega,h3,fun z hz=>h4 z (List.mem_of_mem_take hz),fun hn=>?_,h6⟩
 obtain ⟨b,off,ha,hl,hb,hc⟩:=h5 (by omega)
 refine ⟨b,off,ha,hl,hb,fun i hi=>?_⟩
 obtain ⟨g1,g2⟩:=hc i (by omega)
 refine ⟨?_,g2⟩
 rw [g1];simp [ix,hi]
def SetTo (xs:List Int) (n:Int) (k:Nat):Prop:=∀ i,i<k→(0≤ix xs i∧ix xs i≤n - 1)∧¬ 0≤findF (xs.take i) (ix xs i)
open Classical in
noncomputable def setB (xs:List Int) (n:Int):Bool:=decide (SetTo xs n xs.length)
theorem setB_true {xs:List Int} {n:Int} (h:SetTo xs n xs.length):setB xs n=true:=by simp [setB,h]
theorem setB_false {xs:List Int} {n:Int} {i:Nat} (hi:i<xs.length) (h:¬ ((0≤ix xs i∧ix xs i≤n - 1)∧¬ 0≤findF (xs.take i) (ix xs i))):setB xs n=false:=by
 simp only [setB,decide_eq_false_iff_not];intro hh;exact h (hh i hi)
theorem SetTo.succ {xs:List Int} {n:Int} {k:Nat} (h:SetTo xs n k) (h1:(0≤ix xs k∧ix xs k≤n - 1)∧¬ 0≤findF (xs.take k) (ix xs k)):SetTo xs n (k+1):=by
 intro i hi
 by_cases e:i=k
 ·subst e;exact h1
 ·exact h i (by omega)
set_option maxHeartbeats 800000 in
theorem implIsSet {fz:Bool} {lo hi:Nat} (a:Option Addr) (n c:Nat) (xs:List Int) (v:Int) (w:World) (hI:IntsA fz lo hi w a n c xs) (hv0:0≤v) (hv1:v≤9223372036854775807) :
 Calls Tryd.prog 57 #[.slice a n c,.int .i64 v] w (Gives w (.bool (setB xs v))):=by
 have hl:=hI.len
 have hs:=hI.small
 have hnc:=hI.2.1
 have hcm:=hI.2.2.1
 have HL:=hid hl;clear hl
 go_enter Tryd.func57,Tryd.ntmps57
 go_wp2
 go_loopw [9] (fun i wr=>∃ k:Nat,i=.int .i64 k∧k≤n∧Hid (SetTo xs v k)∧∃ m,wr=w.drewN m) (fun i _=>n - (intOf i).toNat)
 case atStart=>exact ⟨0,rfl,by omega,hid (fun i hi=>by omega),0,rfl⟩
 case round =>
  obtain ⟨k,rfl,hk,HT,m,rfl⟩:=hrel
  by_cases hlt:k<n
  ·obtain ⟨b,off,rfl,_,_,hc,_⟩:=hI.open (by omega)
   have c0:=hc k hlt
   have hJ:=hI.take (j:=k) (by omega)
   have HC:=hid hc;clear hc
   have hx:=hI.at hlt
   generalize hxe:ix xs k=x at *
   have HX:=hid hxe;clear hxe
   have HJ:=hid hJ;clear hJ
   go_wp2_with fail
   refine (implWithin x 0 (v - 1) _).mono ?_
   rintro e w1 ⟨rfl,m1,rfl⟩
   by_cases hw:0≤x∧x≤v - 1
   ·have hd:decide (0≤x∧x≤v - 1)=true:=by simpa using hw
    rw [hd]
    go_wp2_with fail
    refine (implHasInt _ k c (xs.take k) x _ (HJ.out.drewN _)).mono ?_
    rintro e w2 ⟨rfl,m2,rfl⟩
    by_cases hf:0≤findF (xs.take k) x
    ·have hd2:decide (0≤findF (xs.take k) x)=true:=by simpa using hf
     rw [hd2]
     have hF:=hid (setB_false (xs:=xs) (n:=v) (i:=k) (by rw [HL.out];exact hlt) (by rw [HX.out];exact fun h=>h.2 hf))
     clear hf
     go_wp2_with fail
     go_ret
     exact ⟨by rw [hF.out];rfl,by first | exact ⟨_,rfl⟩ | exact ⟨_,dd⟩⟩
    ·have hd2:decide (0≤findF (xs.take k) x)=false:=by simpa using hf
     rw [hd2]
     have HT2:=hid (HT.out.succ (by rw [HX.out];exact ⟨hw,hf⟩))
     clear hf
     go_wp2_with fail
     go_roundw
     case rel=>exact ⟨k+1,by go_num,by omega,HT2,by first | exact ⟨_,rfl⟩ | exact ⟨_,dd⟩⟩
     case measure=>simp [intOf];omega
   ·have hd:decide (0≤x∧x≤v - 1)=false:=by simpa using hw
    rw [hd]
    have hF:=hid (setB_false (xs:=xs) (n:=v) (i:=k) (by rw [HL.out];exact hlt) (by rw [HX.out];exact fun h=>hw h.1))
    go_wp2_with fail
    go_ret
    exact ⟨by rw [hF.out];rfl,by first | exact ⟨_,rfl⟩ | exact ⟨_,dd⟩⟩
  ·go_wp2
   go_ret
   obtain rfl:k=n:=by omega
   exact ⟨by rw [setB_true (by rw [HL.out];exact HT.out)];rfl,by first | exact ⟨_,rfl⟩ | exact ⟨_,dd⟩⟩
noncomputable def permB (xs:List Int):Bool:=decide (xs.length≤5) && setB xs xs.length
end Go.Proofs.YtkohkoiegmcghaaDoor
namespace Go.Proofs.YtkohkoiegmcghaaDoor
set_option linter.unusedSimpArgs false
set_option linter.unusedVariables false
open Go.RowKit
def cmpI (x y:Int):Int:=if x<y then -1 else if y<x then 1 else 0
def ValTo (xs:List Int) (k:Nat):Prop:=∀ i,i<k→0≤ix xs i∧ix xs i≤99
open Classical in
noncomputable def valB (xs:List Int):Bool:=decide (ValTo xs xs.length)
def cmpR:List Int→List Int→Int
 | x :: xs,y :: ys=>if x=y then cmpR xs ys else cmpI x y
 | [],[]=>0
 | [],_ :: _=>-1
 | _ :: _,[]=>1
end Go.Proofs.YtkohkoiegmcghaaDoor
namespace Go.Proofs.YtkohkoiegmcghaaDoor
set_option linter.unusedSimpArgs false
set_option linter.unusedVariables false
open Go.RowKit
noncomputable def ascAll (xss:List (List Int)):Bool:=@decide (0<xss.length∧∀ i,i<xss.length→ascB (rx xss i)=true) (Classical.propDecidable _)
def RowsTo (g:Nat) (w:World) (n:Nat) (xss:List (List Int)) (k:Nat):Prop :=
 ∃ vs,w.ownsRow g 25 1 (.slice (some ⟨g,0,none⟩) n n) n vs∧∀ i,i<k→∃ ra rn rc,vs[i]? = some (.slice ra rn rc)∧IntsA true (g+1) w.heap.size w ra rn rc (rx xss i)
theorem RowsTo.put {g:Nat} {w w1:World} {n:Nat} {xss:List (List Int)} {k:Nat} (h:RowsTo g w n xss k) (hk:k<n) (hg:g<w.heap.size) (hb:Below w.heap.size w w1) {ra:Option Addr} {rn rc:Nat}
 (hr:IntsA true w.heap.size w1.heap.size w1 ra rn rc (rx xss k)):RowsTo g (w1.setCell ⟨g,k,none⟩ (.slice ra rn rc)) n xss (k+1)∧Below g w (w1.setCell ⟨g,k,none⟩ (.slice ra rn rc)) ∧
  (∃ v0,w1.cell? ⟨g,k,none⟩=some v0)∧w1.frozen? ⟨g,k,none⟩=false:=by
 obtain ⟨vs,ho,hv⟩:=h
 have hlen:vs.length=n:=by have:=ho.1;omega
 have ho1:w1.ownsRow g 25 1 (.slice (some ⟨g,0,none⟩) n n) n vs:=ho.kept (row:=none) ⟨hb.os,hb.tape,hb.output,hb.size,fun k hk _=>hb.block k hk⟩ (.inr (by simp [Value.ownBlock]))
 obtain ⟨hs1,hs2⟩:=ho1.stored k (.slice ra rn rc)
 have hsz:(w1.setCell ⟨g,k,none⟩ (.slice ra rn rc)).heap.size=w1.heap.size:=by simp [World.setCell]
 have hbs:=hb.size
 have hset:Keeps (g+1) w1.heap.size w1 (w1.setCell ⟨g,k,none⟩ (.slice ra rn rc)):=fun j h1 h2=>hs2.block j h2 (by intro e;cases e;omega)
 refine ⟨⟨_,hs1,fun i hi=>?_⟩,(hb.mono (by omega)).grown hs2 (by omega) (fun j hj=>by cases hj;exact Nat.le_refl _),?_,ho1.frozenAt k⟩
 ·by_cases e:i=k
  ·subst e
   exact ⟨ra,rn,rc,by simp [hlen,hk],by rw [hsz];exact (hr.wide (by omega) (Nat.le_refl _)).keep hset⟩
  ·obtain ⟨ra',rn',rc',g1,g2⟩:=hv i (by omega)
   exact ⟨ra',rn',rc',by rw [List.getElem?_set_ne (by omega)];exact g1,by
    rw [hsz];exact ((g2.keep (Keeps.of_below hb (Nat.le_refl _))).wide (Nat.le_refl _) hbs).keep hset⟩
 ·have:=ho1.cells (g:=g) rfl k vs[k] (by simp [hlen,hk])
  rw [Addr.add_lit] at this;exact ⟨_,by simpa using this⟩
end Go.Proofs.YtkohkoiegmcghaaDoor
namespace Go.Proofs.YtkohkoiegmcghaaDoor
set_option linter.unusedSimpArgs false
set_option linter.unusedVariables false
open Go.RowKit
def RowOK (ar:Int) (rows:List (List Int)) (i:Nat):Prop:=((rx rows i).length:Int)=ar∧valB (rx rows i)=true∧(0<i→cmpR (rx rows (i - 1)) (rx rows i)<0)
open Classical in
noncomputable def validR (ar:Int) (rows:List (List Int)):Bool:=decide ((0≤ar∧ar≤5)∧rows.length≤4000∧∀ i,i<rows.length→RowOK ar rows i)
section
variable {α:Type} {k:Nat} {R:Rep α} {fz:Bool} {lo hi:Nat} {w w':World} {a:Option Addr} {n c:Nat} {xs:List α}
theorem SlA.be (ok:RepOK R) (h:SlA k R fz lo hi w a n c xs) {B:Nat} (hb:Below B w w') (hh:hi≤B):SlA k R fz lo hi w' a n c xs:=h.keep ok (Keeps.of_below hb hh)
theorem SlA.al (ok:RepOK R) (h:SlA k R fz lo hi w a n c xs) (hh:hi≤w.heap.size) (o:Obj):SlA k R fz lo hi (w.alloc o) a n c xs:=h.be ok ((Below.refl _ _).alloc (Nat.le_refl _) o) hh
end
theorem IntsA.be {fz:Bool} {lo hi:Nat} {w w':World} {a:Option Addr} {n c:Nat} {xs:List Int} (h:IntsA fz lo hi w a n c xs) {B:Nat} (hb:Below B w w') (hh:hi≤B):IntsA fz lo hi w' a n c xs:=h.keep (Keeps.of_below hb hh)
theorem IntsA.al {fz:Bool} {lo hi:Nat} {w:World} {a:Option Addr} {n c:Nat} {xs:List Int} (h:IntsA fz lo hi w a n c xs) (hh:hi≤w.heap.size) (o:Obj):IntsA fz lo hi (w.alloc o) a n c xs:=h.be ((Below.refl _ _).alloc (Nat.le_refl _) o) hh
theorem Below.al {B:Nat} {a w:World} (h:Below B a w) (hb:B≤w.heap.size) (o:Obj):Below B a (w.alloc o):=h.alloc hb o
theorem leA {a b:Nat} (h:a≤b:=by first | with_reducible exact Nat.le_refl _ | omega | (simp;done) | (simp;omega) | exact Nat.le_refl _):a≤b:=h
theorem belA {B:Nat} {a w:World} (h:Below B a w:=by repeat (first | with_reducible assumption | with_reducible exact Below.refl _ _ | with_reducible refine below_drewN ?_ _ | with_reducible refine Below.al ?_ (by first | with_reducible exact Nat.le_refl _ | omega | (simp;done) | (simp;omega) | exact Nat.le_refl _) _ | with_reducible refine Below.setCell ?_ (by first | with_reducible exact Nat.le_refl _ | omega | (simp;done) | (simp;omega) | exact Nat.le_refl _) _ | assumption | exact Below.refl _ _ | refine below_drewN ?_ _ | refine Below.al ?_ (by first | with_reducible exact Nat.le_refl _ | omega | (simp;done) | (simp;omega) | exact Nat.le_refl _) _ | refine Below.setCell ?_ (by first | with_reducible exact Nat.le_refl _ | omega | (simp;done) | (simp;omega) | exact Nat.le_refl _) _)):Below B a w:=h
theorem Gives.leaves {w:World} {v:Value} {e:Ending} {w':World} (h:Gives w v e w'):Leaves w v e w':=by
 obtain ⟨rfl,m,rfl⟩:=h;exact ⟨rfl,below_drewN (Below.refl _ _) m⟩
theorem bcell {W w1:World} (hb:Below W.heap.size W w1):(∀ b o,b<W.heap.size→w1.cell? ⟨b,o,none⟩=W.cell? ⟨b,o,none⟩)∧(∀ b o,b<W.heap.size→w1.frozen? ⟨b,o,none⟩=W.frozen? ⟨b,o,none⟩) :=
 ⟨fun b o h=>hb.cell (p:=⟨b,o,none⟩) h,fun b o h=>hb.frozen (p:=⟨b,o,none⟩) h⟩
theorem Keeps.sc {lo hi:Nat} {w w':World} {b o:Nat} (h:Keeps lo hi w w') (hb:b<lo∨hi≤b) (v:Value):Keeps lo hi w (w'.setCell ⟨b,o,none⟩ v):=fun k h1 h2=>by
 rw [heap_setCell_other w' ⟨b,o,none⟩ k _ (by show k ≠ b;omega)];exact h k h1 h2
theorem Keeps.al {lo hi:Nat} {w w':World} (h:Keeps lo hi w w') (hh:hi≤w'.heap.size) (o:Obj):Keeps lo hi w (w'.alloc o):=h.trans (Keeps.of_below ((Below.refl _ _).alloc (Nat.le_refl _) o) hh)
theorem Keeps.dr {lo hi:Nat} {w w':World} (h:Keeps lo hi w w') (m:Nat):Keeps lo hi w (w'.drewN m):=h
end Go.Proofs.YtkohkoiegmcghaaDoor
namespace Go.Proofs.YtkohkoiegmcghaaDoor
set_option linter.unusedSimpArgs false
set_option linter.unusedVariables false
open Go.RowKit
def Later (B:Nat) (w0:World):Type:={w':World // Below B w0 w'}
def Later.w {B:Nat} {w0:World} (x:Later B w0):World:=x.1
theorem Later.be {B:Nat} {w0:World} (x:Later B w0):Below B w0 x.w:=x.2
instance (B:Nat) (w0:World):Nonempty (Later B w0):=⟨⟨w0,Below.refl B w0⟩⟩
theorem Later.cell {B:Nat} {w0:World} {b o:Nat} {v:Value} (h:w0.cell? ⟨b,o,none⟩=some v) (hb:b<B) (x:Later B w0):x.w.cell? ⟨b,o,none⟩=some v:=by
 rw [x.be.cell (p:=⟨b,o,none⟩) hb];exact h
theorem Later.size {B:Nat} {w0:World} (x:Later B w0):w0.heap.size≤x.w.heap.size:=x.be.size
end Go.Proofs.YtkohkoiegmcghaaDoor
namespace Go.Proofs.YtkohkoiegmcghaaDoor
set_option linter.unusedSimpArgs false
set_option linter.unusedVariables false
open Go.RowKit
section
variable {P:Program} {ops:Array Oper} {Q:Exit→Act→World→Prop}
def notDone (ops:Array Oper) (listed:Array Bool):List Nat:=(List.range ops.size).filter fun i=>!listed.getD i true
theorem notDone_set {listed:Array Bool} {i:Nat} (hi:i<ops.size) (hs:listed.size=ops.size) (hf:listed.getD i true=false) :
 (notDone ops (listed.setIfInBounds i true)).length<(notDone ops listed).length:=by
 unfold notDone
 have hsub:∀ j,(!(listed.setIfInBounds i true).getD j true)=((!listed.getD j true) && decide (j ≠ i)):=by
  intro j
  by_cases e:i=j
  ·subst e;simp [show i<listed.size by omega]
  ·rw [getD_set_ne true e];simp [show j ≠ i from fun h=>e h.symm]
 have hmem:i∈(List.range ops.size).filter fun j=>!listed.getD j true:=List.mem_filter.2 ⟨List.mem_range.2 hi,by rw [hf];rfl⟩
 have h1:((List.range ops.size).filter fun j=>!(listed.setIfInBounds i true).getD j true)=(((List.range ops.size).filter fun j=>!listed.getD j true).filter fun j=>decide (j ≠ i)):=by
  rw [List.filter_filter];congr 1;funext j;rw [hsub j,Bool.and_comm]
 rw [h1]
 exact List.length_filter_lt_length_iff_exists.2 ⟨i,hmem,by simp⟩
theorem wp_region_inv {id:Nat} {a:Act} {w:World} (hm:P.follows .mixedOrders=true) (Inv:(Nat→Bool)→Act→World→Prop)
 (hback:∀ i o,ops[i]? = some o→∀ e∈o.after,Region.binds .any e=true→e.on<i)
 (h0:Inv (fun _=>false) a w.drew)
 (hs:∀ (d:Nat→Bool) a' w' i o,ops[i]? = some o→d i=false→(∀ e∈o.after,Region.binds .any e=true→d e.on=true) →
  (∀ j o',ops[j]? = some o'→d j=true→∀ e∈o'.after,Region.binds .any e=true→d e.on=true)→(∀ j,ops.size≤j→d j=false)→Inv d a' w'→wpOp P ops Q i (fun a'' w''=>Inv (fun j=>if j=i then true else d j) a'' w'') a' w')
 (he:∀ (d:Nat→Bool) a' w',(∀ i,i<ops.size→d i=true)→(∀ j,ops.size≤j→d j=false)→Inv d a' w'→Q .normal a' w') :
 (Code.region id ops true).wp P Q a w:=by
 have all:∀ (listed:Array Bool),listed.size=ops.size→Region.ready .any ops listed=[]→∀ i,i<ops.size→listed.getD i false=true:=by
  intro listed hsz hr i
  induction i using Nat.strongRecOn with
  | ind i ih =>
   intro hi
   cases hd:listed.getD i false with
   | true=>rfl
   | false =>
    exfalso
    have hmem:i∈Region.ready .any ops listed:=mem_ready.2 ⟨by
     have h1:i<listed.size:=by omega
     simp [Array.getD,h1] at hd ⊢;exact hd,ops[i],by simp [hi],fun e he' hb=>by
     have hlt:=hback i ops[i] (by simp [hi]) e he' hb
     exact ih _ hlt (by omega)⟩
    rw [hr] at hmem;cases hmem
 have key:∀ (fuel:Nat) (listed:Array Bool) (a':Act) (w':World),listed.size=ops.size→(notDone ops listed).length≤fuel →
  (∀ j o',ops[j]? = some o'→listed.getD j false=true→∀ e∈o'.after,Region.binds .any e=true→listed.getD e.on false=true)→Inv (fun i=>listed.getD i false) a' w'→wpAny P .any ops Q fuel listed a' w':=by
  intro fuel
  induction fuel with
  | zero =>
   intro listed a' w' hsz hc hcl hI
   have hnil:notDone ops listed=[]:=List.eq_nil_of_length_eq_zero (by omega)
   have hr:Region.ready .any ops listed=[]:=by
    cases hr:Region.ready .any ops listed with
    | nil=>rfl
    | cons x xs =>
     have hx:x∈Region.ready .any ops listed:=by rw [hr];simp
     obtain ⟨h1,o,ho,_⟩:=mem_ready.1 hx
     have:x∈notDone ops listed:=List.mem_filter.2 ⟨List.mem_range.2 (Array.getElem?_eq_some_iff.1 ho).1,by rw [h1];rfl⟩
     rw [hnil] at this;cases this
   exact ⟨hr,he _ _ _ (all listed hsz hr) (fun j hj=>by simp [Array.getD,show ¬ j<listed.size by omega]) hI⟩
  | succ fuel ih =>
   intro listed a' w' hsz hc hcl hI
   refine ⟨fun hr=>he _ _ _ (all listed hsz hr) (fun j hj=>by simp [Array.getD,show ¬ j<listed.size by omega]) hI,fun i hi=>?_⟩
   obtain ⟨h1,o,ho,h2⟩:=mem_ready.1 hi
   have hlt:=(Array.getElem?_eq_some_iff.1 ho).1
   have hd:listed.getD i false=false:=by
    have h3:i<listed.size:=by omega
    simp [Array.getD,h3] at h1 ⊢;exact h1
   refine wpOp_mono (fun a'' w'' hI'=>ih (listed.setIfInBounds i true) a'' w'' (by simpa using hsz) ?_ ?_ ?_) (hs _ a' w' i o ho hd h2 hcl (fun j hj=>by simp [Array.getD,show ¬ j<listed.size by omega]) hI)
   ·have:=notDone_set hlt hsz h1;omega
   ·intro j o' ho' hj e he' hb
    by_cases hji:i=j
    ·subst hji
     rw [ho] at ho';cases ho'
     by_cases hei:i=e.on
     ·rw [← hei];simp [show i<listed.size by omega]
     ·rw [getD_set_ne false hei];exact h2 e he' hb
    ·rw [getD_set_ne false hji] at hj
     by_cases hei:i=e.on
     ·rw [← hei];simp [show i<listed.size by omega]
     ·rw [getD_set_ne false hei];exact hcl j o' ho' hj e he' hb
   ·have heq:(fun j=>if j=i then true else listed.getD j false)=(fun j=>(listed.setIfInBounds i true).getD j false):=by
     symm
     funext j
     by_cases e:i=j
     ·subst e;simp [show i<listed.size by omega]
     ·rw [getD_set_ne false e];simp [show ¬ j=i from fun h=>e h.symm]
    exact heq ▸ hI'
 refine wp_region_any hm (key _ _ _ _ (by simp) ?_ ?_ ?_)
 ·unfold notDone;exact Nat.le_trans (List.length_filter_le _ _) (by simp)
 ·intro j o' ho' hj;exfalso
  by_cases hjs:j<ops.size <;> simp [Array.getD,hjs] at hj
 ·have:(fun i=>(Array.replicate ops.size false).getD i false)=fun _=>false:=by
   funext i
   by_cases h:i<ops.size <;> simp [Array.getD,h]
  rw [this];exact h0
def reachF (ops:Array Oper):Nat→Nat→Nat→Bool
 | 0,_,_=>false
 | f+1,k,j=>match ops[k]? with
  | some o=>o.after.toList.any fun e=>Region.binds .any e && (e.on == j || reachF ops f e.on j)
  | none=>false
theorem reachF_done {d:Nat→Bool} (hcl:∀ j o',ops[j]? = some o'→d j=true→∀ e∈o'.after,Region.binds .any e=true→d e.on=true) :
 ∀ (f k j:Nat),(∀ o,ops[k]? = some o→∀ e∈o.after,Region.binds .any e=true→d e.on=true)→reachF ops f k j=true→d j=true:=by
 intro f
 induction f with
 | zero=>intro k j _ h;simp [reachF] at h
 | succ f ih =>
  intro k j hk h
  unfold reachF at h
  cases ho:ops[k]? with
  | none=>rw [ho] at h;cases h
  | some o =>
   rw [ho] at h
   simp only [List.any_eq_true,Bool.and_eq_true,Bool.or_eq_true,beq_iff_eq] at h
   obtain ⟨e,he,hb,h1⟩:=h
   have hd:=hk o ho e (by simpa using he) hb
   rcases h1 with rfl | h1
   ·exact hd
   ·exact ih e.on j (fun o' ho'=>hcl e.on o' ho' hd) h1
structure GrowChk (ops:Array Oper) (n N:Nat):Prop where
 pos:0<n
 le:n≤ops.size
 back:∀ i o,ops[i]? = some o→∀ e∈o.after,Region.binds .any e=true→e.on<i
 guard:∀ i o,i<n→ops[i]? = some o→o.guard=none
 dst:∀ i o,i<n→ops[i]? = some o→∃ t,o.dst=some t∧t<N
 apart:∀ i j o o' t,i<n→j<n→i ≠ j→ops[i]? = some o→ops[j]? = some o'→o.dst=some t→o'.dst ≠ some t
 tail:∀ i j,n≤i→i<ops.size→j<i→reachF ops ops.size i j=true
def GrowFr (ops:Array Oper) (n:Nat) (a a':Act):Prop:=a'.defers=a.defers∧a'.tmps.size=a.tmps.size∧∀ t,(∀ i o,i<n→ops[i]? = some o→o.dst ≠ some t)→a'.tmps.getD t undef=a.tmps.getD t undef
def notDstB (ops:Array Oper) (n t:Nat):Bool:=(List.range n).all fun i=>match ops[i]? with | some o=>decide (o.dst ≠ some t) | none=>true
theorem GrowFr.at {n:Nat} {a a':Act} (h:GrowFr ops n a a') (t:Nat) (hb:notDstB ops n t=true):a'.tmps.getD t undef=a.tmps.getD t undef:=by
 refine h.2.2 t fun i o hi ho=>?_
 simp only [notDstB,List.all_eq_true,List.mem_range] at hb
 have:=hb i hi
 rw [ho] at this
 simpa using this
theorem GrowFr.ev {n:Nat} {a a':Act} (h:GrowFr ops n a a') (t:Nat) (hb:notDstB ops n t=true) {v:Value} (hv:a.tmps.getD t undef=v):a'.eval (.tmp t)=v:=by
 rw [← hv];exact h.at t hb
end
end Go.Proofs.YtkohkoiegmcghaaDoor
