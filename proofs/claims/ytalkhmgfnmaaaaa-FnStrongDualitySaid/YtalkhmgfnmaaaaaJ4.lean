/- Lemmas for the proof of FnMinimum, part 4 of 24: no condition of their own. -/
import Derived.Test.YtalkhmgfnmaaaaaJ3
import Derived.Test.YtalkhmgfnmaaaaaJ1
import Derived.Orders
namespace Go.Proofs.Ytalkhmgfnmaaaaa
open Go.RowKit
theorem ty2:TyOK 2 ⟨1,false,[.d (.int 0)],[],some (.int .i64),[],false,false⟩:=tyLeaf (z:=.int .i64 0) (b:=8) (by kernel_rfl) (by decide) ⟨_,_,rfl,⟨zInt,fun _ _=>rfl⟩,rfl,rfl⟩ rfl Try.underlying2 (fun _ e=>(by cases e)) (fun _ _ e=>(by cases e))
theorem ty3:TyOK 3 ⟨1,false,[.d (.int 0)],[],some (.int .i64),[],false,false⟩:=tyLeaf (z:=.int .i64 0) (b:=8) (by kernel_rfl) (by decide) ⟨_,_,rfl,⟨zInt,fun _ _=>rfl⟩,rfl,rfl⟩ rfl Try.underlying3 (fun _ e=>(by cases e)) (fun _ _ e=>(by cases e))
theorem ty4:TyOK 4 ⟨1,false,[.d (.bool false)],[],some (.bool),[],false,false⟩:=tyLeaf (z:=.bool false) (b:=1) (by kernel_rfl) (by decide) ⟨_,_,rfl,⟨zBool,fun _ _=>rfl⟩,rfl,rfl⟩ rfl Try.underlying4 (fun _ e=>(by cases e)) (fun _ _ e=>(by cases e))
theorem ty5:TyOK 5 ⟨1,false,[.d (.byte 0)],[],some (.int .u8),[],false,false⟩:=tyLeaf (z:=.int .u8 0) (b:=1) (by kernel_rfl) (by decide) ⟨_,_,rfl,⟨zByte,fun _ _=>rfl⟩,rfl,rfl⟩ rfl Try.underlying5 (fun _ e=>(by cases e)) (fun _ _ e=>(by cases e))
theorem ty6:TyOK 6 ⟨1,false,[.d (.byte 0)],[],some (.int .u8),[],false,false⟩:=tyLeaf (z:=.int .u8 0) (b:=1) (by kernel_rfl) (by decide) ⟨_,_,rfl,⟨zByte,fun _ _=>rfl⟩,rfl,rfl⟩ rfl Try.underlying6 (fun _ e=>(by cases e)) (fun _ _ e=>(by cases e))
theorem ty7:TyOK 7 ⟨4,true,[.d (.int 0),.d (.int 0),.d (.bool false),.d (.byte 0)],[(0,2),(1,3),(2,4),(3,6)],none,[(0,1),(1,1),(2,1),(3,1)],false,false⟩:=tyStruct (z:=.agg #[.int .i64 0,.int .i64 0,.bool false,.int .u8 0]) (b:=24) (by kernel_rfl) (by decide) ⟨_,_,rfl,⟨zInt,fun _ _=>rfl⟩,rfl,⟨_,_,rfl,⟨zInt,fun _ _=>rfl⟩,rfl,⟨_,_,rfl,⟨zBool,fun _ _=>rfl⟩,rfl,⟨_,_,rfl,⟨zByte,fun _ _=>rfl⟩,rfl,rfl⟩⟩⟩⟩ rfl Try.underlying7 (by kernel_rfl) (by kernel_rfl)
theorem ty8:TyOK 8 ⟨4,true,[.d (.int 0),.d (.int 0),.d (.bool false),.d (.byte 0)],[(0,2),(1,3),(2,4),(3,6)],none,[(0,1),(1,1),(2,1),(3,1)],false,false⟩:=tyStruct (z:=.agg #[.int .i64 0,.int .i64 0,.bool false,.int .u8 0]) (b:=24) (by kernel_rfl) (by decide) ⟨_,_,rfl,⟨zInt,fun _ _=>rfl⟩,rfl,⟨_,_,rfl,⟨zInt,fun _ _=>rfl⟩,rfl,⟨_,_,rfl,⟨zBool,fun _ _=>rfl⟩,rfl,⟨_,_,rfl,⟨zByte,fun _ _=>rfl⟩,rfl,rfl⟩⟩⟩⟩ rfl Try.underlying8 (by kernel_rfl) (by kernel_rfl)
theorem ty9:TyOK 9 ⟨1,false,[.d (.str ⟨#[]⟩)],[],some (.string),[],false,false⟩:=tyLeaf (z:=.string ⟨#[]⟩) (b:=16) (by kernel_rfl) (by decide) ⟨_,_,rfl,⟨zStr,fun _ _=>rfl⟩,rfl,rfl⟩ rfl Try.underlying9 (fun _ e=>(by cases e)) (fun _ _ e=>(by cases e))
theorem ty10:TyOK 10 ⟨1,false,[.d (.str ⟨#[]⟩)],[],some (.string),[],false,false⟩:=tyLeaf (z:=.string ⟨#[]⟩) (b:=16) (by kernel_rfl) (by decide) ⟨_,_,rfl,⟨zStr,fun _ _=>rfl⟩,rfl,rfl⟩ rfl Try.underlying10 (fun _ e=>(by cases e)) (fun _ _ e=>(by cases e))
theorem ty11:TyOK 11 ⟨1,false,[.d (.str ⟨#[]⟩)],[],some (.string),[],false,false⟩:=tyLeaf (z:=.string ⟨#[]⟩) (b:=16) (by kernel_rfl) (by decide) ⟨_,_,rfl,⟨zStr,fun _ _=>rfl⟩,rfl,rfl⟩ rfl Try.underlying11 (fun _ e=>(by cases e)) (fun _ _ e=>(by cases e))
theorem ty22:TyOK 22 ⟨1,false,[.nil],[],some (.slice 5),[],false,false⟩:=tyLeaf (z:=.slice none 0 0) (b:=24) (by kernel_rfl) (by decide) ⟨_,_,rfl,⟨zNil,fun _ _=>rfl⟩,rfl,rfl⟩ rfl Try.underlying22 (fun _ e=>(by cases e)) (fun _ _ e=>(by cases e))
theorem ty24:TyOK 24 ⟨1,false,[.nil],[],some (.slice 25),[],false,false⟩:=tyLeaf (z:=.slice none 0 0) (b:=24) (by kernel_rfl) (by decide) ⟨_,_,rfl,⟨zNil,fun _ _=>rfl⟩,rfl,rfl⟩ rfl Try.underlying24 (fun _ e=>(by cases e)) (fun _ _ e=>(by cases e))
theorem ty25:TyOK 25 ⟨1,false,[.nil],[],some (.slice 32),[],false,false⟩:=tyLeaf (z:=.slice none 0 0) (b:=24) (by kernel_rfl) (by decide) ⟨_,_,rfl,⟨zNil,fun _ _=>rfl⟩,rfl,rfl⟩ rfl Try.underlying25 (fun _ e=>(by cases e)) (fun _ _ e=>(by cases e))
theorem ty26:TyOK 26 ⟨3,true,[.nil,.nil,.nil],[(0,24),(1,25),(2,25)],none,[(0,1),(1,1),(2,1)],false,false⟩:=tyStruct (z:=.agg #[.slice none 0 0,.slice none 0 0,.slice none 0 0]) (b:=72) (by kernel_rfl) (by decide) ⟨_,_,rfl,⟨zNil,fun _ _=>rfl⟩,rfl,⟨_,_,rfl,⟨zNil,fun _ _=>rfl⟩,rfl,⟨_,_,rfl,⟨zNil,fun _ _=>rfl⟩,rfl,rfl⟩⟩⟩ rfl Try.underlying26 (by kernel_rfl) (by kernel_rfl)
theorem ty27:TyOK 27 ⟨3,true,[.nil,.nil,.nil],[(0,24),(1,25),(2,25)],none,[(0,1),(1,1),(2,1)],false,false⟩:=tyStruct (z:=.agg #[.slice none 0 0,.slice none 0 0,.slice none 0 0]) (b:=72) (by kernel_rfl) (by decide) ⟨_,_,rfl,⟨zNil,fun _ _=>rfl⟩,rfl,⟨_,_,rfl,⟨zNil,fun _ _=>rfl⟩,rfl,⟨_,_,rfl,⟨zNil,fun _ _=>rfl⟩,rfl,rfl⟩⟩⟩ rfl Try.underlying27 (by kernel_rfl) (by kernel_rfl)
theorem ty31:TyOK 31 ⟨2,true,[.d (.int 0),.d (.int 0)],[(0,3),(1,3)],none,[(0,1),(1,1)],false,false⟩:=tyStruct (z:=.agg #[.int .i64 0,.int .i64 0]) (b:=16) (by kernel_rfl) (by decide) ⟨_,_,rfl,⟨zInt,fun _ _=>rfl⟩,rfl,⟨_,_,rfl,⟨zInt,fun _ _=>rfl⟩,rfl,rfl⟩⟩ rfl Try.underlying31 (by kernel_rfl) (by kernel_rfl)
theorem ty32:TyOK 32 ⟨2,true,[.d (.int 0),.d (.int 0)],[(0,3),(1,3)],none,[(0,1),(1,1)],false,false⟩:=tyStruct (z:=.agg #[.int .i64 0,.int .i64 0]) (b:=16) (by kernel_rfl) (by decide) ⟨_,_,rfl,⟨zInt,fun _ _=>rfl⟩,rfl,⟨_,_,rfl,⟨zInt,fun _ _=>rfl⟩,rfl,rfl⟩⟩ rfl Try.underlying32 (by kernel_rfl) (by kernel_rfl)
theorem ty59:TyOK 59 ⟨3,true,[.nil,.d (.int 0),.d (.int 0)],[(0,22),(1,3),(2,3)],none,[(0,1),(1,1),(2,1)],false,false⟩:=tyStruct (z:=.agg #[.slice none 0 0,.int .i64 0,.int .i64 0]) (b:=40) (by kernel_rfl) (by decide) ⟨_,_,rfl,⟨zNil,fun _ _=>rfl⟩,rfl,⟨_,_,rfl,⟨zInt,fun _ _=>rfl⟩,rfl,⟨_,_,rfl,⟨zInt,fun _ _=>rfl⟩,rfl,rfl⟩⟩⟩ rfl Try.underlying59 (by kernel_rfl) (by kernel_rfl)
theorem ty60:TyOK 60 ⟨3,true,[.nil,.d (.int 0),.d (.int 0)],[(0,22),(1,3),(2,3)],none,[(0,1),(1,1),(2,1)],false,false⟩:=tyStruct (z:=.agg #[.slice none 0 0,.int .i64 0,.int .i64 0]) (b:=40) (by kernel_rfl) (by decide) ⟨_,_,rfl,⟨zNil,fun _ _=>rfl⟩,rfl,⟨_,_,rfl,⟨zInt,fun _ _=>rfl⟩,rfl,⟨_,_,rfl,⟨zInt,fun _ _=>rfl⟩,rfl,rfl⟩⟩⟩ rfl Try.underlying60 (by kernel_rfl) (by kernel_rfl)
theorem ty66:TyOK 66 ⟨1,false,[.nil],[],some (.slice 3),[],false,false⟩:=tyLeaf (z:=.slice none 0 0) (b:=24) (by kernel_rfl) (by decide) ⟨_,_,rfl,⟨zNil,fun _ _=>rfl⟩,rfl,rfl⟩ rfl Try.underlying66 (fun _ e=>(by cases e)) (fun _ _ e=>(by cases e))
theorem ty71:TyOK 71 ⟨1,false,[.nil],[],some (.slice 66),[],false,false⟩:=tyLeaf (z:=.slice none 0 0) (b:=24) (by kernel_rfl) (by decide) ⟨_,_,rfl,⟨zNil,fun _ _=>rfl⟩,rfl,rfl⟩ rfl Try.underlying71 (fun _ e=>(by cases e)) (fun _ _ e=>(by cases e))
theorem ty81:TyOK 81 ⟨0,true,[],[(0,80)],none,[(0,0)],false,false⟩:=tyStruct (z:=.agg #[]) (b:=0) (by kernel_rfl) (by decide) rfl rfl Try.underlying81 (by kernel_rfl) (by kernel_rfl)
theorem ty82:TyOK 82 ⟨0,true,[],[(0,80)],none,[(0,0)],false,false⟩:=tyStruct (z:=.agg #[]) (b:=0) (by kernel_rfl) (by decide) rfl rfl Try.underlying82 (by kernel_rfl) (by kernel_rfl)
theorem ty85:TyOK 85 ⟨1,false,[.d (.byte 0)],[],some (.int .u8),[],false,false⟩:=tyLeaf (z:=.int .u8 0) (b:=1) (by kernel_rfl) (by decide) ⟨_,_,rfl,⟨zByte,fun _ _=>rfl⟩,rfl,rfl⟩ rfl Try.underlying85 (fun _ e=>(by cases e)) (fun _ _ e=>(by cases e))
theorem ty86:TyOK 86 ⟨1,false,[.d (.byte 0)],[],some (.int .u8),[],false,false⟩:=tyLeaf (z:=.int .u8 0) (b:=1) (by kernel_rfl) (by decide) ⟨_,_,rfl,⟨zByte,fun _ _=>rfl⟩,rfl,rfl⟩ rfl Try.underlying86 (fun _ e=>(by cases e)) (fun _ _ e=>(by cases e))
def tyT (T:TypeId):Option TyI :=
 if T=2 then some ⟨1,false,[.d (.int 0)],[],some (.int .i64),[],false,false⟩ else
 if T=3 then some ⟨1,false,[.d (.int 0)],[],some (.int .i64),[],false,false⟩ else
 if T=4 then some ⟨1,false,[.d (.bool false)],[],some (.bool),[],false,false⟩ else
 if T=5 then some ⟨1,false,[.d (.byte 0)],[],some (.int .u8),[],false,false⟩ else
 if T=6 then some ⟨1,false,[.d (.byte 0)],[],some (.int .u8),[],false,false⟩ else
 if T=7 then some ⟨4,true,[.d (.int 0),.d (.int 0),.d (.bool false),.d (.byte 0)],[(0,2),(1,3),(2,4),(3,6)],none,[(0,1),(1,1),(2,1),(3,1)],false,false⟩ else
 if T=8 then some ⟨4,true,[.d (.int 0),.d (.int 0),.d (.bool false),.d (.byte 0)],[(0,2),(1,3),(2,4),(3,6)],none,[(0,1),(1,1),(2,1),(3,1)],false,false⟩ else
 if T=9 then some ⟨1,false,[.d (.str ⟨#[]⟩)],[],some (.string),[],false,false⟩ else
 if T=10 then some ⟨1,false,[.d (.str ⟨#[]⟩)],[],some (.string),[],false,false⟩ else
 if T=11 then some ⟨1,false,[.d (.str ⟨#[]⟩)],[],some (.string),[],false,false⟩ else
 if T=22 then some ⟨1,false,[.nil],[],some (.slice 5),[],false,false⟩ else
 if T=24 then some ⟨1,false,[.nil],[],some (.slice 25),[],false,false⟩ else
 if T=25 then some ⟨1,false,[.nil],[],some (.slice 32),[],false,false⟩ else
 if T=26 then some ⟨3,true,[.nil,.nil,.nil],[(0,24),(1,25),(2,25)],none,[(0,1),(1,1),(2,1)],false,false⟩ else
 if T=27 then some ⟨3,true,[.nil,.nil,.nil],[(0,24),(1,25),(2,25)],none,[(0,1),(1,1),(2,1)],false,false⟩ else
 if T=31 then some ⟨2,true,[.d (.int 0),.d (.int 0)],[(0,3),(1,3)],none,[(0,1),(1,1)],false,false⟩ else
 if T=32 then some ⟨2,true,[.d (.int 0),.d (.int 0)],[(0,3),(1,3)],none,[(0,1),(1,1)],false,false⟩ else
 if T=59 then some ⟨3,true,[.nil,.d (.int 0),.d (.int 0)],[(0,22),(1,3),(2,3)],none,[(0,1),(1,1),(2,1)],false,false⟩ else
 if T=60 then some ⟨3,true,[.nil,.d (.int 0),.d (.int 0)],[(0,22),(1,3),(2,3)],none,[(0,1),(1,1),(2,1)],false,false⟩ else
 if T=66 then some ⟨1,false,[.nil],[],some (.slice 3),[],false,false⟩ else
 if T=71 then some ⟨1,false,[.nil],[],some (.slice 66),[],false,false⟩ else
 if T=81 then some ⟨0,true,[],[(0,80)],none,[(0,0)],false,false⟩ else
 if T=82 then some ⟨0,true,[],[(0,80)],none,[(0,0)],false,false⟩ else
 if T=85 then some ⟨1,false,[.d (.byte 0)],[],some (.int .u8),[],false,false⟩ else
 if T=86 then some ⟨1,false,[.d (.byte 0)],[],some (.int .u8),[],false,false⟩ else
 none
theorem tyT_ok:TabOK tyT:=by
 intro T i h
 unfold tyT at h
 by_cases e2:T=2
 ·rw [if_pos e2] at h;cases h;rw [e2];exact ty2
 rw [if_neg e2] at h
 by_cases e3:T=3
 ·rw [if_pos e3] at h;cases h;rw [e3];exact ty3
 rw [if_neg e3] at h
 by_cases e4:T=4
 ·rw [if_pos e4] at h;cases h;rw [e4];exact ty4
 rw [if_neg e4] at h
 by_cases e5:T=5
 ·rw [if_pos e5] at h;cases h;rw [e5];exact ty5
 rw [if_neg e5] at h
 by_cases e6:T=6
 ·rw [if_pos e6] at h;cases h;rw [e6];exact ty6
 rw [if_neg e6] at h
 by_cases e7:T=7
 ·rw [if_pos e7] at h;cases h;rw [e7];exact ty7
 rw [if_neg e7] at h
 by_cases e8:T=8
 ·rw [if_pos e8] at h;cases h;rw [e8];exact ty8
 rw [if_neg e8] at h
 by_cases e9:T=9
 ·rw [if_pos e9] at h;cases h;rw [e9];exact ty9
 rw [if_neg e9] at h
 by_cases e10:T=10
 ·rw [if_pos e10] at h;cases h;rw [e10];exact ty10
 rw [if_neg e10] at h
 by_cases e11:T=11
 ·rw [if_pos e11] at h;cases h;rw [e11];exact ty11
 rw [if_neg e11] at h
 by_cases e22:T=22
 ·rw [if_pos e22] at h;cases h;rw [e22];exact ty22
 rw [if_neg e22] at h
 by_cases e24:T=24
 ·rw [if_pos e24] at h;cases h;rw [e24];exact ty24
 rw [if_neg e24] at h
 by_cases e25:T=25
 ·rw [if_pos e25] at h;cases h;rw [e25];exact ty25
 rw [if_neg e25] at h
 by_cases e26:T=26
 ·rw [if_pos e26] at h;cases h;rw [e26];exact ty26
 rw [if_neg e26] at h
 by_cases e27:T=27
 ·rw [if_pos e27] at h;cases h;rw [e27];exact ty27
 rw [if_neg e27] at h
 by_cases e31:T=31
 ·rw [if_pos e31] at h;cases h;rw [e31];exact ty31
 rw [if_neg e31] at h
 by_cases e32:T=32
 ·rw [if_pos e32] at h;cases h;rw [e32];exact ty32
 rw [if_neg e32] at h
 by_cases e59:T=59
 ·rw [if_pos e59] at h;cases h;rw [e59];exact ty59
 rw [if_neg e59] at h
 by_cases e60:T=60
 ·rw [if_pos e60] at h;cases h;rw [e60];exact ty60
 rw [if_neg e60] at h
 by_cases e66:T=66
 ·rw [if_pos e66] at h;cases h;rw [e66];exact ty66
 rw [if_neg e66] at h
 by_cases e71:T=71
 ·rw [if_pos e71] at h;cases h;rw [e71];exact ty71
 rw [if_neg e71] at h
 by_cases e81:T=81
 ·rw [if_pos e81] at h;cases h;rw [e81];exact ty81
 rw [if_neg e81] at h
 by_cases e82:T=82
 ·rw [if_pos e82] at h;cases h;rw [e82];exact ty82
 rw [if_neg e82] at h
 by_cases e85:T=85
 ·rw [if_pos e85] at h;cases h;rw [e85];exact ty85
 rw [if_neg e85] at h
 by_cases e86:T=86
 ·rw [if_pos e86] at h;cases h;rw [e86];exact ty86
 rw [if_neg e86] at h
 cases h
def tyW (T:TypeId):Option TyI:=match tyT T with
 | some i=>some ⟨i.size,i.agg,i.zero,i.flds,i.kd,i.pl,true,false⟩
 | none=>none
theorem tyW_ok:TabOK tyW:=by
 intro T i h
 unfold tyW at h
 split at h
 ·rename_i i0 h0
  cases h
  have:=tyT_ok T i0 h0
  exact ⟨this.info,this.agg,this.flat,this.kd,this.pl⟩
 ·cases h
def tyS (T:TypeId):Option TyI:=match tyT T with
 | some i=>some ⟨i.size,i.agg,i.zero,i.flds,i.kd,i.pl,true,true⟩
 | none=>none
theorem tyS_ok:TabOK tyS:=by
 intro T i h
 unfold tyS at h
 split at h
 ·rename_i i0 h0
  cases h
  have:=tyT_ok T i0 h0
  exact ⟨this.info,this.agg,this.flat,this.kd,this.pl⟩
 ·cases h
end Go.Proofs.Ytalkhmgfnmaaaaa
namespace Go.Proofs.Ytalkhmgfnmaaaaa
set_option linter.unusedSimpArgs false
set_option linter.unusedVariables false
open Go.RowKit
def AscTo (xs:List Int) (k:Nat):Prop:=∀ i,i+1<k→ix xs i<ix xs (i+1)
noncomputable def ascB (xs:List Int):Bool:=@decide (AscTo xs xs.length) (Classical.propDecidable _)
open Classical in
noncomputable def firstIx (p:Nat→Prop):Nat→Nat
 | 0=>0
 | n+1=>if firstIx p n<n then firstIx p n else if p n then n else n+1
noncomputable def findF (xs:List Int) (v:Int):Int:=if firstIx (fun i=>ix xs i=v) xs.length<xs.length then (firstIx (fun i=>ix xs i=v) xs.length:Nat) else -1
noncomputable def seekF (xs:List Int) (from' v:Int):Int:=(firstIx (fun i=>from'≤(i:Int)∧v≤ix xs i) xs.length:Nat)
def lens (xss:List (List Int)):Nat→Nat
 | 0=>0
 | k+1=>lens xss k+(rx xss k).length
noncomputable def szF (xss:List (List Int)) (left:Int):Int:=if (xss.length+lens xss xss.length:Nat)≤left then left - (xss.length+lens xss xss.length:Nat) else -1
end Go.Proofs.Ytalkhmgfnmaaaaa
namespace Go.Proofs.Ytalkhmgfnmaaaaa
set_option linter.unusedSimpArgs false
set_option linter.unusedVariables false
open Go.RowKit
theorem IntsA.take {fz:Bool} {lo hi:Nat} {w:World} {a:Option Addr} {n c:Nat} {xs:List Int} (h:IntsA fz lo hi w a n c xs) {j:Nat} (hj:j≤n):IntsA fz lo hi w a j c (xs.take j):=by
 obtain ⟨h1,h2,h3,h4,h5,h6⟩:=h
 refine ⟨by simp;omega,by omega,h3,fun z hz=>h4 z (List.mem_of_mem_take hz),fun hn=>?_,h6⟩
 obtain ⟨b,off,ha,hl,hb,hc⟩:=h5 (by omega)
 refine ⟨b,off,ha,hl,hb,fun i hi=>?_⟩
 obtain ⟨g1,g2⟩:=hc i (by omega)
 refine ⟨?_,g2⟩
 rw [g1];simp [ix,hi]
def SetTo (xs:List Int) (n:Int) (k:Nat):Prop:=∀ i,i<k→(0≤ix xs i∧ix xs i≤n - 1)∧¬ 0≤findF (xs.take i) (ix xs i)
open Classical in
noncomputable def setB (xs:List Int) (n:Int):Bool:=decide (SetTo xs n xs.length)
theorem SetTo.succ {xs:List Int} {n:Int} {k:Nat} (h:SetTo xs n k) (h1:(0≤ix xs k∧ix xs k≤n - 1)∧¬ 0≤findF (xs.take k) (ix xs k)):SetTo xs n (k+1):=by
 intro i hi
 by_cases e:i=k
 ·subst e;exact h1
 ·exact h i (by omega)
noncomputable def permB (xs:List Int):Bool:=decide (xs.length≤5) && setB xs xs.length
end Go.Proofs.Ytalkhmgfnmaaaaa
namespace Go.Proofs.Ytalkhmgfnmaaaaa
set_option linter.unusedSimpArgs false
set_option linter.unusedVariables false
open Go.RowKit
def cmpI (x y:Int):Int:=if x<y then -1 else if y<x then 1 else 0
def ValTo (xs:List Int) (k:Nat):Prop:=∀ i,i<k→0≤ix xs i∧ix xs i≤99
open Classical in
noncomputable def valB (xs:List Int):Bool:=decide (ValTo xs xs.length)
def cmpR:List Int→List Int→Int
 | x :: xs,y :: ys=>if x=y then cmpR xs ys else cmpI x y
 | [],[]=>0
 | [],_ :: _=>-1
 | _ :: _,[]=>1
end Go.Proofs.Ytalkhmgfnmaaaaa
namespace Go.Proofs.Ytalkhmgfnmaaaaa
set_option linter.unusedSimpArgs false
set_option linter.unusedVariables false
open Go.RowKit
noncomputable def ascAll (xss:List (List Int)):Bool:=@decide (0<xss.length∧∀ i,i<xss.length→ascB (rx xss i)=true) (Classical.propDecidable _)
def RowsTo (g:Nat) (w:World) (n:Nat) (xss:List (List Int)) (k:Nat):Prop :=
 ∃ vs,w.ownsRow g 66 1 (.slice (some ⟨g,0,none⟩) n n) n vs∧∀ i,i<k→∃ ra rn rc,vs[i]? = some (.slice ra rn rc)∧IntsA true (g+1) w.heap.size w ra rn rc (rx xss i)
theorem RowsTo.put {g:Nat} {w w1:World} {n:Nat} {xss:List (List Int)} {k:Nat} (h:RowsTo g w n xss k) (hk:k<n) (hg:g<w.heap.size) (hb:Below w.heap.size w w1) {ra:Option Addr} {rn rc:Nat}
 (hr:IntsA true w.heap.size w1.heap.size w1 ra rn rc (rx xss k)):RowsTo g (w1.setCell ⟨g,k,none⟩ (.slice ra rn rc)) n xss (k+1)∧Below g w (w1.setCell ⟨g,k,none⟩ (.slice ra rn rc)) ∧
  (∃ v0,w1.cell? ⟨g,k,none⟩=some v0)∧w1.frozen? ⟨g,k,none⟩=false:=by
 obtain ⟨vs,ho,hv⟩:=h
 have hlen:vs.length=n:=by have:=ho.1;omega
 have ho1:w1.ownsRow g 66 1 (.slice (some ⟨g,0,none⟩) n n) n vs:=ho.kept (row:=none) ⟨hb.os,hb.tape,hb.output,hb.size,fun k hk _=>hb.block k hk⟩ (.inr (by simp [Value.ownBlock]))
 obtain ⟨hs1,hs2⟩:=ho1.stored k (.slice ra rn rc)
 have hsz:(w1.setCell ⟨g,k,none⟩ (.slice ra rn rc)).heap.size=w1.heap.size:=by simp [World.setCell]
 have hbs:=hb.size
 have hset:Keeps (g+1) w1.heap.size w1 (w1.setCell ⟨g,k,none⟩ (.slice ra rn rc)):=fun j h1 h2=>hs2.block j h2 (by intro e;cases e;omega)
 refine ⟨⟨_,hs1,fun i hi=>?_⟩,(hb.mono (by omega)).grown hs2 (by omega) (fun j hj=>by cases hj;exact Nat.le_refl _),?_,ho1.frozenAt k⟩
 ·by_cases e:i=k
  ·subst e
   exact ⟨ra,rn,rc,by simp [hlen,hk],by rw [hsz];exact (hr.wide (by omega) (Nat.le_refl _)).keep hset⟩
  ·obtain ⟨ra',rn',rc',g1,g2⟩:=hv i (by omega)
   exact ⟨ra',rn',rc',by rw [List.getElem?_set_ne (by omega)];exact g1,by
    rw [hsz];exact ((g2.keep (Keeps.of_below hb (Nat.le_refl _))).wide (Nat.le_refl _) hbs).keep hset⟩
 ·have:=ho1.cells (g:=g) rfl k vs[k] (by simp [hlen,hk])
  rw [Addr.add_lit] at this;exact ⟨_,by simpa using this⟩
end Go.Proofs.Ytalkhmgfnmaaaaa
namespace Go.Proofs.Ytalkhmgfnmaaaaa
set_option linter.unusedSimpArgs false
set_option linter.unusedVariables false
open Go.RowKit
def RowOK (ar:Int) (rows:List (List Int)) (i:Nat):Prop:=((rx rows i).length:Int)=ar∧valB (rx rows i)=true∧(0<i→cmpR (rx rows (i - 1)) (rx rows i)<0)
open Classical in
noncomputable def validR (ar:Int) (rows:List (List Int)):Bool:=decide ((0≤ar∧ar≤5)∧rows.length≤4000∧∀ i,i<rows.length→RowOK ar rows i)
section
variable {α:Type} {k:Nat} {R:Rep α} {fz:Bool} {lo hi:Nat} {w w':World} {a:Option Addr} {n c:Nat} {xs:List α}
theorem SlA.be (ok:RepOK R) (h:SlA k R fz lo hi w a n c xs) {B:Nat} (hb:Below B w w') (hh:hi≤B):SlA k R fz lo hi w' a n c xs:=h.keep ok (Keeps.of_below hb hh)
end
theorem IntsA.be {fz:Bool} {lo hi:Nat} {w w':World} {a:Option Addr} {n c:Nat} {xs:List Int} (h:IntsA fz lo hi w a n c xs) {B:Nat} (hb:Below B w w') (hh:hi≤B):IntsA fz lo hi w' a n c xs:=h.keep (Keeps.of_below hb hh)
theorem Gives.leaves {w:World} {v:Value} {e:Ending} {w':World} (h:Gives w v e w'):Leaves w v e w':=by
 obtain ⟨rfl,m,rfl⟩:=h;exact ⟨rfl,below_drewN (Below.refl _ _) m⟩
theorem Keeps.sc {lo hi:Nat} {w w':World} {b o:Nat} (h:Keeps lo hi w w') (hb:b<lo∨hi≤b) (v:Value):Keeps lo hi w (w'.setCell ⟨b,o,none⟩ v):=fun k h1 h2=>by
 rw [heap_setCell_other w' ⟨b,o,none⟩ k _ (by show k ≠ b;omega)];exact h k h1 h2
end Go.Proofs.Ytalkhmgfnmaaaaa
namespace Go.Proofs.Ytalkhmgfnmaaaaa
set_option linter.unusedSimpArgs false
set_option linter.unusedVariables false
open Go.RowKit
def Later (B:Nat) (w0:World):Type:={w':World // Below B w0 w'}
def Later.w {B:Nat} {w0:World} (x:Later B w0):World:=x.1
theorem Later.be {B:Nat} {w0:World} (x:Later B w0):Below B w0 x.w:=x.2
instance (B:Nat) (w0:World):Nonempty (Later B w0):=⟨⟨w0,Below.refl B w0⟩⟩
theorem Later.cell {B:Nat} {w0:World} {b o:Nat} {v:Value} (h:w0.cell? ⟨b,o,none⟩=some v) (hb:b<B) (x:Later B w0):x.w.cell? ⟨b,o,none⟩=some v:=by
 rw [x.be.cell (p:=⟨b,o,none⟩) hb];exact h
theorem Later.size {B:Nat} {w0:World} (x:Later B w0):w0.heap.size≤x.w.heap.size:=x.be.size
end Go.Proofs.Ytalkhmgfnmaaaaa
namespace Go.Proofs.Ytalkhmgfnmaaaaa
set_option linter.unusedSimpArgs false
set_option linter.unusedVariables false
open Go.RowKit
section
variable {P:Program} {ops:Array Oper} {Q:Exit→Act→World→Prop}
def notDone (ops:Array Oper) (listed:Array Bool):List Nat:=(List.range ops.size).filter fun i=>!listed.getD i true
theorem notDone_set {listed:Array Bool} {i:Nat} (hi:i<ops.size) (hs:listed.size=ops.size) (hf:listed.getD i true=false) :
 (notDone ops (listed.setIfInBounds i true)).length<(notDone ops listed).length:=by
 unfold notDone
 have hsub:∀ j,(!(listed.setIfInBounds i true).getD j true)=((!listed.getD j true) && decide (j ≠ i)):=by
  intro j
  by_cases e:i=j
  ·subst e;simp [show i<listed.size by omega]
  ·rw [getD_set_ne true e];simp [show j ≠ i from fun h=>e h.symm]
 have hmem:i∈(List.range ops.size).filter fun j=>!listed.getD j true:=List.mem_filter.2 ⟨List.mem_range.2 hi,by rw [hf];rfl⟩
 have h1:((List.range ops.size).filter fun j=>!(listed.setIfInBounds i true).getD j true)=(((List.range ops.size).filter fun j=>!listed.getD j true).filter fun j=>decide (j ≠ i)):=by
  rw [List.filter_filter];congr 1;funext j;rw [hsub j,Bool.and_comm]
 rw [h1]
 exact List.length_filter_lt_length_iff_exists.2 ⟨i,hmem,by simp⟩
theorem wp_region_inv {id:Nat} {a:Act} {w:World} (hm:P.follows .mixedOrders=true) (Inv:(Nat→Bool)→Act→World→Prop)
 (hback:∀ i o,ops[i]? = some o→∀ e∈o.after,Region.binds .any e=true→e.on<i)
 (h0:Inv (fun _=>false) a w.drew)
 (hs:∀ (d:Nat→Bool) a' w' i o,ops[i]? = some o→d i=false→(∀ e∈o.after,Region.binds .any e=true→d e.on=true) →
  (∀ j o',ops[j]? = some o'→d j=true→∀ e∈o'.after,Region.binds .any e=true→d e.on=true)→(∀ j,ops.size≤j→d j=false)→Inv d a' w'→wpOp P ops Q i (fun a'' w''=>Inv (fun j=>if j=i then true else d j) a'' w'') a' w')
 (he:∀ (d:Nat→Bool) a' w',(∀ i,i<ops.size→d i=true)→(∀ j,ops.size≤j→d j=false)→Inv d a' w'→Q .normal a' w') :
 (Code.region id ops true).wp P Q a w:=by
 have all:∀ (listed:Array Bool),listed.size=ops.size→Region.ready .any ops listed=[]→∀ i,i<ops.size→listed.getD i false=true:=by
  intro listed hsz hr i
  induction i using Nat.strongRecOn with
  | ind i ih =>
   intro hi
   cases hd:listed.getD i false with
   | true=>rfl
   | false =>
    exfalso
    have hmem:i∈Region.ready .any ops listed:=mem_ready.2 ⟨by
     have h1:i<listed.size:=by omega
     simp [Array.getD,h1] at hd ⊢;exact hd,ops[i],by simp [hi],fun e he' hb=>by
     have hlt:=hback i ops[i] (by simp [hi]) e he' hb
     exact ih _ hlt (by omega)⟩
    rw [hr] at hmem;cases hmem
 have key:∀ (fuel:Nat) (listed:Array Bool) (a':Act) (w':World),listed.size=ops.size→(notDone ops listed).length≤fuel →
  (∀ j o',ops[j]? = some o'→listed.getD j false=true→∀ e∈o'.after,Region.binds .any e=true→listed.getD e.on false=true)→Inv (fun i=>listed.getD i false) a' w'→wpAny P .any ops Q fuel listed a' w':=by
  intro fuel
  induction fuel with
  | zero =>
   intro listed a' w' hsz hc hcl hI
   have hnil:notDone ops listed=[]:=List.eq_nil_of_length_eq_zero (by omega)
   have hr:Region.ready .any ops listed=[]:=by
    cases hr:Region.ready .any ops listed with
    | nil=>rfl
    | cons x xs =>
     have hx:x∈Region.ready .any ops listed:=by rw [hr];simp
     obtain ⟨h1,o,ho,_⟩:=mem_ready.1 hx
     have:x∈notDone ops listed:=List.mem_filter.2 ⟨List.mem_range.2 (Array.getElem?_eq_some_iff.1 ho).1,by rw [h1];rfl⟩
     rw [hnil] at this;cases this
   exact ⟨hr,he _ _ _ (all listed hsz hr) (fun j hj=>by simp [Array.getD,show ¬ j<listed.size by omega]) hI⟩
  | succ fuel ih =>
   intro listed a' w' hsz hc hcl hI
   refine ⟨fun hr=>he _ _ _ (all listed hsz hr) (fun j hj=>by simp [Array.getD,show ¬ j<listed.size by omega]) hI,fun i hi=>?_⟩
   obtain ⟨h1,o,ho,h2⟩:=mem_ready.1 hi
   have hlt:=(Array.getElem?_eq_some_iff.1 ho).1
   have hd:listed.getD i false=false:=by
    have h3:i<listed.size:=by omega
    simp [Array.getD,h3] at h1 ⊢;exact h1
   refine wpOp_mono (fun a'' w'' hI'=>ih (listed.setIfInBounds i true) a'' w'' (by simpa using hsz) ?_ ?_ ?_) (hs _ a' w' i o ho hd h2 hcl (fun j hj=>by simp [Array.getD,show ¬ j<listed.size by omega]) hI)
   ·have:=notDone_set hlt hsz h1;omega
   ·intro j o' ho' hj e he' hb
    by_cases hji:i=j
    ·subst hji
     rw [ho] at ho';cases ho'
     by_cases hei:i=e.on
     ·rw [← hei];simp [show i<listed.size by omega]
     ·rw [getD_set_ne false hei];exact h2 e he' hb
    ·rw [getD_set_ne false hji] at hj
     by_cases hei:i=e.on
     ·rw [← hei];simp [show i<listed.size by omega]
     ·rw [getD_set_ne false hei];exact hcl j o' ho' hj e he' hb
   ·have heq:(fun j=>if j=i then true else listed.getD j false)=(fun j=>(listed.setIfInBounds i true).getD j false):=by
     symm
     funext j
     by_cases e:i=j
     ·subst e;simp [show i<listed.size by omega]
     ·rw [getD_set_ne false e];simp [show ¬ j=i from fun h=>e h.symm]
    exact heq ▸ hI'
 refine wp_region_any hm (key _ _ _ _ (by simp) ?_ ?_ ?_)
 ·unfold notDone;exact Nat.le_trans (List.length_filter_le _ _) (by simp)
 ·intro j o' ho' hj;exfalso
  by_cases hjs:j<ops.size <;> simp [Array.getD,hjs] at hj
 ·have:(fun i=>(Array.replicate ops.size false).getD i false)=fun _=>false:=by
   funext i
   by_cases h:i<ops.size <;> simp [Array.getD,h]
  rw [this];exact h0
def reachF (ops:Array Oper):Nat→Nat→Nat→Bool
 | 0,_,_=>false
 | f+1,k,j=>match ops[k]? with
  | some o=>o.after.toList.any fun e=>Region.binds .any e && (e.on == j || reachF ops f e.on j)
  | none=>false
theorem reachF_done {d:Nat→Bool} (hcl:∀ j o',ops[j]? = some o'→d j=true→∀ e∈o'.after,Region.binds .any e=true→d e.on=true) :
 ∀ (f k j:Nat),(∀ o,ops[k]? = some o→∀ e∈o.after,Region.binds .any e=true→d e.on=true)→reachF ops f k j=true→d j=true:=by
 intro f
 induction f with
 | zero=>intro k j _ h;simp [reachF] at h
 | succ f ih =>
  intro k j hk h
  unfold reachF at h
  cases ho:ops[k]? with
  | none=>rw [ho] at h;cases h
  | some o =>
   rw [ho] at h
   simp only [List.any_eq_true,Bool.and_eq_true,Bool.or_eq_true,beq_iff_eq] at h
   obtain ⟨e,he,hb,h1⟩:=h
   have hd:=hk o ho e (by simpa using he) hb
   rcases h1 with rfl | h1
   ·exact hd
   ·exact ih e.on j (fun o' ho'=>hcl e.on o' ho' hd) h1
structure GrowChk (ops:Array Oper) (n N:Nat):Prop where
 pos:0<n
 le:n≤ops.size
 back:∀ i o,ops[i]? = some o→∀ e∈o.after,Region.binds .any e=true→e.on<i
 guard:∀ i o,i<n→ops[i]? = some o→o.guard=none
 dst:∀ i o,i<n→ops[i]? = some o→∃ t,o.dst=some t∧t<N
 apart:∀ i j o o' t,i<n→j<n→i ≠ j→ops[i]? = some o→ops[j]? = some o'→o.dst=some t→o'.dst ≠ some t
 tail:∀ i j,n≤i→i<ops.size→j<i→reachF ops ops.size i j=true
def GrowFr (ops:Array Oper) (n:Nat) (a a':Act):Prop:=a'.defers=a.defers∧a'.tmps.size=a.tmps.size∧∀ t,(∀ i o,i<n→ops[i]? = some o→o.dst ≠ some t)→a'.tmps.getD t undef=a.tmps.getD t undef
def notDstB (ops:Array Oper) (n t:Nat):Bool:=(List.range n).all fun i=>match ops[i]? with | some o=>decide (o.dst ≠ some t) | none=>true
theorem GrowFr.at {n:Nat} {a a':Act} (h:GrowFr ops n a a') (t:Nat) (hb:notDstB ops n t=true):a'.tmps.getD t undef=a.tmps.getD t undef:=by
 refine h.2.2 t fun i o hi ho=>?_
 simp only [notDstB,List.all_eq_true,List.mem_range] at hb
 have:=hb i hi
 rw [ho] at this
 simpa using this
theorem GrowFr.ev {n:Nat} {a a':Act} (h:GrowFr ops n a a') (t:Nat) (hb:notDstB ops n t=true) {v:Value} (hv:a.tmps.getD t undef=v):a'.eval (.tmp t)=v:=by
 rw [← hv];exact h.at t hb
end
end Go.Proofs.Ytalkhmgfnmaaaaa
