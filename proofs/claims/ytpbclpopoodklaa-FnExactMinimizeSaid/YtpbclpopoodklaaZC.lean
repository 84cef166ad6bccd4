/- Lemmas for the proof of FnExactMaximize, part 13 of 56: no condition of their own. -/
import Derived.Test.YtpbclpopoodklaaZT
import Derived.Test.YtpbclpopoodklaaGrow
namespace Go.Proofs.Ytpbclpopoodklaa
set_option linter.unusedSimpArgs false
set_option linter.unusedVariables false
open Go.RowKit
def lkT:List (Nat×AV)→Nat→AV
  | [],_=>.junk
  | p :: l,t=>if t=p.1 then p.2 else lkT l t
def lkO:List (Nat×List AV)→Nat→Option (List AV)
  | [],_=>none
  | p :: l,o=>if o=p.1 then some p.2 else lkO l o
def mkS (tl:List (Nat×AV)) (ol:List (Nat×List AV)):AS:=⟨lkT tl,lkO ol⟩
def SLe (s s':AS):Prop:=(∀ t,ALe (s.tm t) (s'.tm t))∧∀ o l',s'.ob o=some l'→∃ l,s.ob o=some l∧ALes l l'
theorem SLe.refl (s:AS):SLe s s:=by
  have hr:∀ l:List AV,ALes l l:=fun l=>by induction l with
    | nil=>exact .nil
    | cons x l ih=>exact .cons (.refl x) ih
  exact ⟨fun t=>.refl _,fun o l' h=>⟨l',h,hr l'⟩⟩
theorem ALes.len {l m:List AV} (h:ALes l m):l.length=m.length:=by
  induction l generalizing m with
  | nil=>cases h;rfl
  | cons x l ih=>cases h with | cons h hh=>simp [ih hh]
theorem Rel.weak {X:Cx} {s s':AS} {a:Act} {w:World} (h:SLe s s') (hr:Rel X s a w):Rel X s' a w:=by
  obtain ⟨G,hr⟩:=hr
  obtain ⟨h1,h2,h3,h4,h5,h6,h7,h8,h9,h10,h11,h12,h13,h14,h15,h16⟩:=hr
  have hob:∀ o,s'.ob o ≠ none→s.ob o ≠ none:=fun o ho=>by
    cases e:s'.ob o with
    | none=>exact absurd e ho
    | some l'=>obtain ⟨l,e2,_⟩:=h.2 o l' e;rw [e2];exact fun x=>(by cases x)
  refine ⟨G,h1,h2,h3,fun t ht=>(h.1 t).cv (h4 t ht),h5,fun o l' ho=>?_,h7,h8,fun o o' a b=>h9 o o' (hob o a) (hob o' b),fun o g a=>h10 o g (hob o a),fun o a=>h11 o (hob o a),h12,h13,fun i a=>h14 i (hob _ a),h15,h16⟩
  obtain ⟨l,e,hl⟩:=h.2 o l' ho
  obtain ⟨g1,g2,us,g3,g4,g5⟩:=h6 o l e
  exact ⟨g1,g2,us,hl.cv g3,g4,g5⟩
def SOKt (s:AS):List (Nat×AV)→Prop
  | []=>True
  | p :: l=>ALe (s.tm p.1) p.2∧SOKt s l
def SOKo (s:AS):List (Nat×List AV)→Prop
  | []=>True
  | p :: l=>(∃ m,s.ob p.1=some m∧ALes m p.2)∧SOKo s l
theorem sle_mk {s:AS} {tl:List (Nat×AV)} {ol:List (Nat×List AV)} (h1:SOKt s tl) (h2:SOKo s ol):SLe s (mkS tl ol):=by
  refine ⟨fun t=>?_,fun o l' h=>?_⟩
  · show ALe (s.tm t) (lkT tl t)
    induction tl with
    | nil=>exact .junk _
    | cons p l ih =>
      simp only [lkT]
      split
      · rename_i e;rw [e];exact h1.1
      · exact ih h1.2
  · revert h
    show lkO ol o=some l'→_
    induction ol with
    | nil=>intro h;cases h
    | cons p l ih =>
      intro h
      simp only [lkO] at h
      split at h
      · rename_i e;cases h;rw [e];exact h2.1
      · exact ih h2.2 h
theorem ale_int {x y:Int} (h:x=y):ALe (.d (.int x)) (.d (.int y)):=h ▸ .refl _
theorem ale_bool {x y:Bool} (h:x=y):ALe (.d (.bool x)) (.d (.bool y)):=h ▸ .refl _
theorem ale_sl {k:Nat} {x y:List DV} (h:x=y):ALe (.d (.sl k x)) (.d (.sl k y)):=h ▸ .refl _
theorem ale_bufd {g k:Nat} {T:TypeId} {x y:List DV} (h:x=y):ALe (.buf g T k x) (.d (.sl k y)):=h ▸ .buf g T k x
theorem ale_bufw {g k:Nat} {T:TypeId} {x y:List DV} (h:x=y):ALe (.buf g T k x) (.d (.wh k y)):=h ▸ .bufw g T k x
theorem ale_buf {g k:Nat} {T:TypeId} {x y:List DV} (h:x=y):ALe (.buf g T k x) (.buf g T k y):=h ▸ .refl _
theorem ale_arr {o k:Nat} {n m:Nat} (h:n=m):ALe (.arr o k n) (.arr o k m):=h ▸ .refl _
section
variable {P:Cx→Prop} {N:Nat} {Q:Exit→AS→Prop} {s:AS}
theorem awp_weak {c:Code} {s':AS} (h:SLe s s') (hh:AWp P N c Q s'):AWp P N c Q s:=fun X a w hN hP hr=>hh X a w hN hP (hr.weak h)
theorem awp_loopw {c:Code} (I:Nat→AS→Prop) (h0:∃ m s',SLe s s'∧I m s') (round:∀ m s,I m s→AWp P N c (thenA (fun s1=>∃ m' s',m'<m∧SLe s1 s'∧I m' s') Q) s):AWp P N (.loop c) Q s:=by
  obtain ⟨m,s',h1,h2⟩:=h0
  refine awp_weak h1 (awp_loop I ⟨m,h2⟩ fun m s hI X a w hN hP hr=>?_)
  refine wp_mono (round m s hI X a w hN hP hr) ?_
  rintro e a' w' ⟨s1,h3,h4⟩
  cases e with
  | normal =>
    obtain ⟨m',s2,h5,h6,h7⟩:=h3
    exact ⟨s2,⟨m',h5,h7⟩,h4.weak h6⟩
  | _=>exact ⟨s1,h3,h4⟩
end
section
variable {P:Cx→Prop} {N:Nat} {Q:Exit→AS→Prop} {s:AS}
theorem awp_region' {ty:TypeId→Option TyI} (ht:TabOK ty) {id:Nat} {l:List Oper} (h:∀ K:AS→Prop,(∀ s,Q .normal s→K s)→aops ty N l l s K):AWp P N (.region id l.toArray false) Q s:=awp_region ht (h _ fun _ h=>h)
theorem then_n {next:AS→Prop} (h:next s):thenA next Q .normal s:=h
theorem then_r {next:AS→Prop} (h:Q .ret s):thenA next Q .ret s:=h
theorem then_e {next:AS→Prop} {i:Nat} (h:Q (.exit i) s):thenA next Q (.exit i) s:=h
theorem blk_n {id:Nat} (h:Q .normal s):inBlockA id Q .normal s:=h
theorem blk_r {id:Nat} (h:Q .ret s):inBlockA id Q .ret s:=h
theorem blk_e {id:Nat} (h:Q .normal s):inBlockA id Q (.exit id) s:=by simp only [inBlockA,if_true];exact h
theorem blk_o {id i:Nat} (hi:i ≠ id) (h:Q (.exit i) s):inBlockA id Q (.exit i) s:=by simp only [inBlockA,if_neg hi];exact h
theorem awp_if {c:Operand} {x y:Code} {p:Prop} [Decidable p] (hc:ev N s c=.d (.bool (decide p))) (ht:p→AWp P N x Q s) (hf:¬ p→AWp P N y Q s):AWp P N (.cond c x y) Q s :=
  awp_cond hc (fun h=>ht (of_decide_eq_true h)) (fun h=>hf (of_decide_eq_false h))
def CondOf (b:Bool) (p q:Prop):Prop:=match b with
  | true=>p
  | false=>q
theorem condOf_t {p q:Prop} (h:p):CondOf true p q:=h
theorem condOf_f {p q:Prop} (h:q):CondOf false p q:=h
theorem awp_condB {c:Operand} {x y:Code} {b:Bool} (hc:ev N s c=.d (.bool b)) (h:CondOf b (AWp P N x Q s) (AWp P N y Q s)):AWp P N (.cond c x y) Q s:=awp_cond hc (fun e=>by subst e;exact h) (fun e=>by subst e;exact h)
theorem end0 {ty:TypeId→Option TyI} {rv:List ResultVar} {R:AV→List (List AV)→Prop} {e:Exit} (g:Nat) {xs:List AV} {r:AV} (he:e=.normal∨e=.ret) (hx:finA ty N s rv=some xs) (h:ALe (outA [] g (retA xs)) r) (hR:R r []):EndA ty N 0 rv R e s :=
  ⟨he,[],g,xs,[],hx,by simp [lentN],by simp,by simp [lentN,obsOut],r,by simpa [lentN] using h,hR⟩
end
theorem put_tm (s:AS) (d:Nat) (v:AV) (t:Nat):(s.put d v).tm t=if t=d then v else s.tm t:=rfl
theorem put_ob (s:AS) (d:Nat) (v:AV):(s.put d v).ob=s.ob:=rfl
theorem setOb_tm (s:AS) (o:Nat) (l:Option (List AV)):(s.setOb o l).tm=s.tm:=rfl
theorem setOb_ob (s:AS) (o:Nat) (l:Option (List AV)) (q:Nat):(s.setOb o l).ob q=if q=o then l else s.ob q:=rfl
theorem newB_tm (s:AS) (g t:Nat):(s.newB g).tm t=scrub (fun g'=>!(g' == g)) (fun _=>true) (s.tm t):=rfl
theorem newB_ob (s:AS) (g o:Nat):(s.newB g).ob o=(s.ob o).map (List.map (scrub (fun g'=>!(g' == g)) (fun _=>true))):=rfl
theorem newO_tm (s:AS) (d:Nat) (l:List AV) (t:Nat):(s.newO d l).tm t=if t=d then .ptr d 0 else scrub (fun _=>true) (fun o=>!(o == d)) (s.tm t):=rfl
theorem newO_ob (s:AS) (d:Nat) (l:List AV) (q:Nat):(s.newO d l).ob q=if q=d then some (scrubs (fun _=>true) (fun o=>!(o == d)) l) else (s.ob q).map (List.map (scrub (fun _=>true) (fun o=>!(o == d)))):=rfl
theorem call_tm (s:AS) (ns:List Nat) (d:Nat) (os:List (List AV)) (t:Nat):(s.call ns d os).tm t=scrub (fun g=>!(g == d)) (fun o=>!(o == d)) (s.tm t):=rfl
theorem mkS_tm (tl:List (Nat×AV)) (ol:List (Nat×List AV)) (t:Nat):(mkS tl ol).tm t=lkT tl t:=rfl
theorem mkS_ob (tl:List (Nat×AV)) (ol:List (Nat×List AV)) (o:Nat):(mkS tl ol).ob o=lkO ol o:=rfl
theorem entS_tm (args:List AV) (os:List (List AV)) (t:Nat):(entS args os).tm t=entTm args 0 t:=rfl
theorem entS_ob (args:List AV) (os:List (List AV)) (o:Nat):(entS args os).ob o=entOb os 1000000 o:=rfl
theorem putD_some (s:AS) (d:Nat) (v:AV):s.putD (some d) v=s.put d v:=rfl
theorem putD_none (s:AS) (v:AV):s.putD none v=s:=rfl
theorem getDI {l:List Int} {i:Nat} {x:DV} (h:i<l.length):(l.map DV.int).getD i x=.int (ix l i):=by simp [List.getD,ix,h]
theorem getDV {α:Type} {f:α→DV} {l:List α} {i:Nat} {x:DV} {d:α} (h:i<l.length):(l.map f).getD i x=f (l.getD i d):=by simp [List.getD,h]
theorem w64 {x:Int} (h:-9223372036854775808≤x∧x≤9223372036854775807):IntKind.i64.wrap x=x:=IntWalk.i64_in x h
theorem I64.w {x:Int} (h:I64 x):IntKind.i64.wrap x=x:=IntWalk.i64_in x h
structure Eff where
  nb:Option Nat
  no:Option Nat
  ol:Option (List AV)
  sq:Option (Nat×List AV)
  val:AV
def Eff.kb (e:Eff):Nat→Bool:=fun g=>!(e.nb == some g)
def Eff.ko (e:Eff):Nat→Bool:=fun o=>!(e.no == some o)
def Eff.ob (e:Eff) (s:AS):Nat→Option (List AV):=fun o=>if e.no=some o then e.ol else match e.sq with
  | some (q,l)=>if o=q then some l else (s.ob o).map (scrubs e.kb e.ko)
  | none=>(s.ob o).map (scrubs e.kb e.ko)
def Eff.app (e:Eff) (dst:Option Nat) (s:AS):AS:=AS.putD ⟨fun t=>scrub e.kb e.ko (s.tm t),e.ob s⟩ dst e.val
def pE (v:AV):Eff:=⟨none,none,none,none,v⟩
theorem pE_app (v:AV) (dst:Option Nat) (s:AS):(pE v).app dst s=s.putD dst v:=by
  have h1:∀ x,scrub (pE v).kb (pE v).ko x=x:=scrub_all (fun _=>rfl) (fun _=>rfl)
  have h2:∀ x,scrubs (pE v).kb (pE v).ko x=x:=scrubs_all (fun _=>rfl) (fun _=>rfl)
  have h3:(pE v).ob s=s.ob:=by
    funext o
    simp only [Eff.ob,pE,reduceCtorEq,if_false]
    cases s.ob o with
    | none=>rfl
    | some l=>simp only [Option.map_some];exact congrArg some (h2 l)
  unfold Eff.app
  rw [h3]
  simp only [h1]
  rfl
def sclr:AV→Option DV
  | .d (.int x)=>some (.int x)
  | .d (.byte x)=>some (.byte x)
  | .d (.bool x)=>some (.bool x)
  | .d (.str x)=>some (.str x)
  | .d (.agg x)=>some (.agg x)
  | _=>none
theorem sclr_ok {x:AV} {y:DV} (h:sclr x=some y):x=.d y:=by
  unfold sclr at h
  split at h <;> first | (cases h;rfl) | cases h
theorem sclr_scr (fb fo:Nat→Bool) (x:AV):sclr (scrub fb fo x)=sclr x:=by
  cases x <;> simp only [scrub] <;> first | rfl | (split <;> rfl)
def slA:AV→Option (Nat×List DV)
  | .d (.sl k l)=>some (k,l)
  | .d (.wh k l)=>some (k,l)
  | .buf _ _ k l=>some (k,l)
  | _=>none
theorem slA_ok {x:AV} {k:Nat} {l:List DV} (h:slA x=some (k,l)):x=.d (.sl k l)∨x=.d (.wh k l)∨∃ g T,x=.buf g T k l:=by
  unfold slA at h
  split at h
  · cases h;exact .inl rfl
  · cases h;exact .inr (.inl rfl)
  · cases h;exact .inr (.inr ⟨_,_,rfl⟩)
  · cases h
def dBinI (op:BinOp) (x y:Int):Option (Prop×Eff):=match op with
  | .add=>some (True,pE (.d (.int (IntKind.i64.wrap (x+y)))))
  | .sub=>some (True,pE (.d (.int (IntKind.i64.wrap (x - y)))))
  | .mul=>some (True,pE (.d (.int (IntKind.i64.wrap (x*y)))))
  | .quo=>some (y ≠ 0,pE (.d (.int (IntKind.i64.wrap (x.tdiv y)))))
  | .rem=>some (y ≠ 0,pE (.d (.int (x.tmod y))))
  | .eql=>some (True,pE (.d (.bool (decide (x=y)))))
  | .neq=>some (True,pE (.d (.bool (!decide (x=y)))))
  | .lss=>some (True,pE (.d (.bool (decide (x<y)))))
  | .leq=>some (True,pE (.d (.bool (decide (x≤y)))))
  | .gtr=>some (True,pE (.d (.bool (decide (y<x)))))
  | .geq=>some (True,pE (.d (.bool (decide (y≤x)))))
  | .and=>some (True,pE (.d (.int (andI x y))))
  | .xor=>some (True,pE (.d (.int (xorI x y))))
  | _=>none
def cstN:AV→Option Int
  | .cst (.int .u64 n)=>some n
  | _=>none
theorem cstN_scr (fb fo:Nat→Bool) (x:AV):cstN (scrub fb fo x)=cstN x:=by
  cases x <;> simp only [scrub] <;> first | rfl | (split <;> rfl)
theorem cstN_ok {x:AV} {n:Int} (h:cstN x=some n):x=.cst (.int .u64 n):=by
  unfold cstN at h
  split at h
  · cases h;rfl
  · cases h
def dShr (op:BinOp) (x:Int) (n:Int):Option (Prop×Eff):=match op with
  | .shr=>some (0≤n,pE (.d (.int (shrI x n))))
  | _=>none
def dBinB (op:BinOp) (x y:Int):Option (Prop×Eff):=match op with
  | .eql=>some (True,pE (.d (.bool (decide (x=y)))))
  | .neq=>some (True,pE (.d (.bool (!decide (x=y)))))
  | .lss=>some (True,pE (.d (.bool (decide (x<y)))))
  | .leq=>some (True,pE (.d (.bool (decide (x≤y)))))
  | .gtr=>some (True,pE (.d (.bool (decide (y<x)))))
  | .geq=>some (True,pE (.d (.bool (decide (y≤x)))))
  | _=>none
def dBinS (op:BinOp) (x y:ByteArray):Option (Prop×Eff):=match op with
  | .add=>some (((x.size+y.size:Nat):Int)≤9223372036854775807,pE (.d (.str (x ++ y))))
  | .eql=>some (True,pE (.d (.bool (strEq x y))))
  | .neq=>some (True,pE (.d (.bool (!strEq x y))))
  | .lss=>some (True,pE (.d (.bool (strLt x y))))
  | .leq=>some (True,pE (.d (.bool (strLt x y || strEq x y))))
  | .gtr=>some (True,pE (.d (.bool (!(strLt x y || strEq x y)))))
  | .geq=>some (True,pE (.d (.bool (!strLt x y))))
  | _=>none
def dBinL (op:BinOp) (T:TypeId) (x y:Bool):Option (Prop×Eff):=match op with
  | .eql=>some (boolT T=true,pE (.d (.bool (x == y))))
  | .neq=>some (boolT T=true,pE (.d (.bool (!(x == y)))))
  | _=>none
def dBinG (op:BinOp) (T:TypeId) (l m:List DV):Option (Prop×Eff):=match op with
  | .eql=>some (eqTOK T l=true∧eqTOK T m=true,pE (.d (.bool (eqDs l m))))
  | .neq=>some (eqTOK T l=true∧eqTOK T m=true,pE (.d (.bool (!eqDs l m))))
  | _=>none
def dBin (op:BinOp) (T:TypeId) (x y:AV):Option (Prop×Eff):=match sclr x,sclr y with
  | some (.int a),some (.int b)=>dBinI op a b
  | some (.byte a),some (.byte b)=>dBinB op a b
  | some (.str a),some (.str b)=>dBinS op a b
  | some (.bool a),some (.bool b)=>dBinL op T a b
  | some (.agg a),some (.agg b)=>dBinG op T a b
  | some (.int a),none=>(match cstN y with
    | some n=>dShr op a n
    | none=>none)
  | _,_=>none
def dNil (live:Nat→Bool):AV→Option (Prop×Eff)
  | .loc l=>some (True,pE (.loc l))
  | .ptr q r=>some (live q=true,pE (.ptr q r))
  | _=>none
def dCvt (kS kT:Option TypeDesc) (x:AV):Option (Prop×Eff):=match kS,kT,sclr x with
  | some (.int _),some (.int .i64),some (.byte n)=>some (True,pE (.d (.int n)))
  | some (.int _),some (.int .i64),some (.int n)=>some (True,pE (.d (.int n)))
  | some (.int _),some (.int .u8),some (.int n)=>some (True,pE (.d (.byte (IntKind.u8.wrap n))))
  | some (.int _),some (.int .u8),some (.byte n)=>some (True,pE (.d (.byte n)))
  | _,_,_=>none
def dUn (op:UnOp) (x:AV):Option (Prop×Eff):=match op,sclr x with
  | .not,some (.bool b)=>some (True,pE (.d (.bool (!b))))
  | .neg,some (.int n)=>some (True,pE (.d (.int (IntKind.i64.wrap (0 - n)))))
  | _,_=>none
def dPick (x y c:AV):Option (Prop×Eff):=match sclr c with
  | some (.bool p)=>some (True,pE (pickA p x y))
  | _=>none
def dExtract (i:Nat):AV→Option (Prop×Eff)
  | .tup l=>(l[i]?).map fun x=>(True,pE x)
  | _=>none
def lenB:AV→Option Int
  | .nil=>some 0
  | x=>(slA x).map fun p=>((p.2.length:Nat):Int)
theorem lenB_scr (fb fo:Nat→Bool) (x:AV):lenB (scrub fb fo x)=lenB x:=by
  cases x <;> simp only [scrub] <;> first | rfl | (split <;> rfl)
theorem lenB_ok {x:AV} {n:Int} (h:lenB x=some n):lenA x=some n∧isStr x=false:=by
  cases x with
  | nil=>exact ⟨h,rfl⟩
  | d y=>cases y <;> first | exact ⟨h,rfl⟩ | cases h
  | buf g T k l=>exact ⟨h,rfl⟩
  | _=>cases h
def dLen (kd:Option TypeDesc) (x:AV):Option (Prop×Eff):=match kd with
  | some (.slice _)=>(lenB x).map fun n=>(True,pE (.d (.int n)))
  | some .string=>(match sclr x with
    | some (.str b)=>some ((b.size:Int)≤9223372036854775807,pE (.d (.int (b.size:Nat))))
    | _=>none)
  | _=>none
def dFieldAddr (ty:TypeId→Option TyI) (live:Nat→Bool) (T:TypeId) (f:Nat) (x:AV):Option (Prop×Eff):=match ty T with
  | some i=>match i.agg,i.flds[f]? with
    | true,some (off,T')=>match ty T' with
      | some j=>match x with
        | .loc l=>some (j.size ≠ 0,pE (.loc (l.drop off)))
        | .ptr q r=>some (j.size ≠ 0∧live q=true,pE (.ptr q (r+off)))
        | _=>none
      | none=>none
    | _,_=>none
  | none=>none
def dIxD (k' k:Nat) (l:List DV) (j:Int):Option (Prop×Eff) :=
  some (k'=k∧0≤j∧j<(l.length:Nat)∧leaves (dcells (l.getD j.toNat (.bool false)))=true,pE (.loc (dcells (l.getD j.toNat (.bool false)))))
def dIndexAddr (ty:TypeId→Option TyI) (live:Nat→Bool) (T:TypeId) (x ix:AV):Option (Prop×Eff):=match (ty T).bind (·.kd),sclr ix with
  | some (.slice e),some (.int j)=>match ty e with
    | some i=>match x with
      | .arr q k n=>some (i.size=k∧0≤j∧j<(n:Nat)∧live q=true,pE (.ptr q (j.toNat*k)))
      | _=>match slA x with
        | some (k,l)=>dIxD i.size k l j
        | none=>none
    | none=>none
  | _,_=>none
def dLoad (ty:TypeId→Option TyI) (ob:Nat→Option (List AV)) (T:TypeId) (x:AV):Option (Prop×Eff):=match ty T with
  | some i=>match x with
    | .loc l=>(match i.agg with
      | true=>some (i.size≤l.length,pE (.d (.agg (l.take i.size))))
      | false=>some (0<l.length∧isAgg' (l.getD 0 (.bool false))=false,pE (.d (l.getD 0 (.bool false)))))
    | .ptr q r=>(match ob q with
      | some l=>(match i.agg with
        | true=>if i.wh=false then (toDVs false ((l.drop r).take i.size)).map fun m=>(r+i.size≤l.length,pE (.d (.agg m))) else none
        | false=>some (r<l.length,pE (l.getD r .junk)))
      | none=>none)
    | _=>none
  | none=>none
section
variable {N:Nat} {s:AS} {dst:Option Nat} {K:AS→Prop} {ty:TypeId→Option TyI}
def dGo (e:Option (Prop×Eff)) (dst:Option Nat) (s:AS) (K:AS→Prop):Prop:=∃ c f,e=some (c,f)∧c∧K (f.app dst s)
theorem dGo_p {c:Prop} {v:AV}:dGo (some (c,pE v)) dst s K↔c∧K (s.putD dst v):=by
  unfold dGo
  constructor
  · rintro ⟨c',f,h,h1,h2⟩;cases h;rw [pE_app] at h2;exact ⟨h1,h2⟩
  · rintro ⟨h1,h2⟩;exact ⟨c,pE v,rfl,h1,by rw [pE_app];exact h2⟩
theorem dGo_none:dGo none dst s K↔False:=⟨fun ⟨_,_,h,_⟩=>(by cases h),fun h=>h.elim⟩
theorem dMove_of {x:Operand} (h:dGo (some (True,pE (ev N s x))) dst s K):sMove N s dst x K:=by
  rw [dGo_p] at h;exact h.2
theorem dPick_of {c x y:Operand} (h:dGo (dPick (ev N s x) (ev N s y) (ev N s c)) dst s K):sPick N s dst c x y K:=by
  unfold dPick at h
  unfold sPick
  split at h
  · rename_i p hp;rw [sclr_ok hp];rw [dGo_p] at h;exact h.2
  · rw [dGo_none] at h;exact h.elim
theorem dBinI_of {op:BinOp} {x y:Int} (h:dGo (dBinI op x y) dst s K):sBinI op x y s dst K:=by
  cases op <;> simp only [sBinI,dBinI] at h ⊢ <;> first | (rw [dGo_p] at h;first | exact h.2 | exact h) | (rw [dGo_none] at h;exact h.elim)
theorem dBinB_of {op:BinOp} {x y:Int} (h:dGo (dBinB op x y) dst s K):sBinB op x y s dst K:=by
  cases op <;> simp only [sBinB,dBinB] at h ⊢ <;> first | (rw [dGo_p] at h;exact h.2) | (rw [dGo_none] at h;exact h.elim)
theorem dBinS_of {op:BinOp} {x y:ByteArray} (h:dGo (dBinS op x y) dst s K):sBinS op x y s dst K:=by
  cases op <;> simp only [sBinS,dBinS] at h ⊢ <;> first | (rw [dGo_p] at h;first | exact h.2 | exact h) | (rw [dGo_none] at h;exact h.elim)
theorem dBinL_of {op:BinOp} {T:TypeId} {x y:Bool} (h:dGo (dBinL op T x y) dst s K):sBinL op T x y s dst K:=by
  cases op <;> simp only [sBinL,dBinL] at h ⊢ <;> first | (rw [dGo_p] at h;exact h) | (rw [dGo_none] at h;exact h.elim)
theorem dBinG_of {op:BinOp} {T:TypeId} {x y:List DV} (h:dGo (dBinG op T x y) dst s K):sBinG op T x y s dst K:=by
  cases op <;> simp only [sBinG,dBinG] at h ⊢ <;> first | (rw [dGo_p] at h;exact ⟨h.1.1,h.1.2,h.2⟩) | (rw [dGo_none] at h;exact h.elim)
theorem dBin_of {op:BinOp} {T:TypeId} {x y:Operand} (h:dGo (dBin op T (ev N s x) (ev N s y)) dst s K):sBin op N s dst T x y K:=by
  unfold dBin at h
  unfold sBin
  split at h
  · rename_i h1 h2;rw [sclr_ok h1,sclr_ok h2];exact dBinI_of h
  · rename_i h1 h2;rw [sclr_ok h1,sclr_ok h2];exact dBinB_of h
  · rename_i h1 h2;rw [sclr_ok h1,sclr_ok h2];exact dBinS_of h
  · rename_i h1 h2;rw [sclr_ok h1,sclr_ok h2];exact dBinL_of h
  · rename_i h1 h2;rw [sclr_ok h1,sclr_ok h2];exact dBinG_of h
  · rename_i h1 h2
    split at h
    · rename_i n hn
      rw [sclr_ok h1,cstN_ok hn]
      unfold dShr at h
      split at h
      · rw [dGo_p] at h;exact ⟨rfl,h.1,h.2⟩
      · rw [dGo_none] at h;exact h.elim
    · rw [dGo_none] at h;exact h.elim
  · rw [dGo_none] at h;exact h.elim
def bndD (o:Option AV) (d:Int):Option Int:=match o with
  | none=>some d
  | some x=>match sclr x with
    | some (.int n)=>some n
    | _=>none
def dSlc (k:Nat) (l:List DV):Option Int→Option Int→Option (Prop×Eff)
  | some a,some b=>some (0≤a∧a≤b∧b≤(l.length:Nat)∧0<k,pE (.d (.sl k ((l.take b.toNat).drop a.toNat))))
  | _,_=>none
def dSlcS (b:ByteArray):Option Int→Option Int→Option (Prop×Eff)
  | some p,some q=>some (0≤p∧p≤q∧q≤(b.size:Nat),pE (.d (.str (b.extract p.toNat q.toNat))))
  | _,_=>none
def dSlcB (lo hi:Option AV):Option DV→Option (Prop×Eff)
  | some (.str b)=>dSlcS b (bndD lo 0) (bndD hi b.size)
  | _=>none
def dIndex (kd:Option TypeDesc) (x ix:AV):Option (Prop×Eff):=match kd,sclr x,sclr ix with
  | some .string,some (.str b),some (.int j)=>some (0≤j∧j<(b.size:Nat),pE (.d (.byte (bAt b j.toNat))))
  | _,_,_=>none
theorem dIndex_of {ty:TypeId→Option TyI} {T:TypeId} {x ix:Operand} (h:dGo (dIndex ((ty T).bind (·.kd)) (ev N s x) (ev N s ix)) dst s K):sIndex ty N s dst T x ix K:=by
  unfold dIndex at h
  unfold sIndex
  split at h
  · rename_i h1 h2 h3;rw [h1,sclr_ok h2,sclr_ok h3];rw [dGo_p] at h;exact h
  · rw [dGo_none] at h;exact h.elim
def cnvP:List (Nat×AV)→Option (List (Nat×DV))
  | []=>some []
  | p :: l=>match toDV false p.2,cnvP l with
    | some y,some m=>some ((p.1,y) :: m)
    | _,_=>none
def dBldM:Option DV→Option (Prop×Eff)
  | some x=>some (True,pE (.d x))
  | none=>none
def toAV:List (Nat×DV)→List (Nat×AV)
  | []=>[]
  | q :: l=>(q.1,.d q.2) :: toAV l
def dBldQ (i:TyI):Option (List (Nat×DV))→Option (Prop×Eff)
  | some qs=>dBldM (bldD false (bldC i.pl i.zero (toAV qs)))
  | none=>none
def dBldI (q:Option (List (Nat×DV))):Option TyI→Option (Prop×Eff)
  | some i=>if i.agg=true∧i.wh=false then dBldQ i q else none
  | none=>none
def dBuild (ty:TypeId→Option TyI) (T:TypeId) (ps:List (Nat×AV)):Option (Prop×Eff):=dBldI (cnvP ps) (ty T)
inductive EqD:List AV→List AV→Prop where
  | nil:EqD [] []
  | cons {x y:AV} {l m:List AV} (h:toDV false x=toDV false y) (hh:EqD l m):EqD (x :: l) (y :: m)
theorem EqD.refl:∀ l:List AV,EqD l l
  | []=>.nil
  | _ :: l=>.cons rfl (EqD.refl l)
theorem EqD.dvs {l m:List AV} (h:EqD l m):toDVs false l=toDVs false m:=by
  induction h with
  | nil=>rfl
  | cons h _ ih=>simp only [toDVs,h,ih]
theorem EqD.len {l m:List AV} (h:EqD l m):l.length=m.length:=by
  induction h with
  | nil=>rfl
  | cons h _ ih=>simp [ih]
theorem EqD.app {l m l' m':List AV} (h:EqD l m) (h':EqD l' m'):EqD (l ++ l') (m ++ m'):=by
  induction h with
  | nil=>exact h'
  | cons h _ ih=>exact .cons h ih
theorem EqD.take {l m:List AV} (h:EqD l m):∀ n,EqD (l.take n) (m.take n):=by
  induction h with
  | nil=>intro n;simp;exact .nil
  | cons h _ ih=>intro n;cases n with
    | zero=>exact .nil
    | succ n=>exact .cons h (ih n)
theorem EqD.drop {l m:List AV} (h:EqD l m):∀ n,EqD (l.drop n) (m.drop n):=by
  induction h with
  | nil=>intro n;simp;exact .nil
  | cons h hh ih=>intro n;cases n with
    | zero=>exact .cons h hh
    | succ n=>exact ih n
theorem EqD.splice {l m x y:List AV} (h:EqD l m) (h':EqD x y) (r:Nat):EqD (splice l r x) (splice m r y):=by
  unfold Go.Proofs.Ytpbclpopoodklaa.splice
  rw [h'.len]
  exact (h.take r).app (h'.app (h.drop _))
theorem cnv_cells {x:AV} {y:DV} (h:toDV false x=some y):EqD (avCells x) (avCells (.d y))∧(cellsOK (.d y)=true→cellsOK x=true):=by
  cases x with
  | d z=>cases h;exact ⟨EqD.refl _,fun h=>h⟩
  | nil=>cases h;exact ⟨.cons rfl .nil,fun _=>rfl⟩
  | buf g T k l=>cases h;exact ⟨.cons rfl .nil,fun _=>rfl⟩
  | _=>cases h
theorem bld_cnv {pl:List (Nat×Nat)}:∀ {ps:List (Nat×AV)} {qs:List (Nat×DV)} {l m l2:List AV},cnvP ps=some qs→EqD l m→bldC pl m (toAV qs)=some l2→∃ l1,bldC pl l ps=some l1∧EqD l1 l2
  | [],qs,l,m,l2,h,he,hb=>by cases h;cases hb;exact ⟨l,rfl,he⟩
  | (f,x) :: ps,qs,l,m,l2,h,he,hb=>by
    simp only [cnvP] at h
    split at h
    · rename_i y qs' h1 h2
      cases h
      obtain ⟨g1,g2⟩:=cnv_cells h1
      simp only [toAV,bldC] at hb ⊢
      split at hb
      · rename_i off n hp
        split at hb
        · rename_i hc
          rw [if_pos ⟨g2 hc.1,by rw [g1.len];exact hc.2.1,by rw [he.len];exact hc.2.2⟩]
          exact bld_cnv h2 (he.splice g1 off) hb
        · cases hb
      · cases hb
    · cases h
theorem dBuild_of {ty:TypeId→Option TyI} {T:TypeId} {parts:List (Nat×Operand)} (h:dGo (dBuild ty T (prts N s parts)) dst s K):sBuild ty N s dst T parts K:=by
  unfold dBuild dBldI at h
  unfold sBuild bldK
  cases hi:ty T with
  | none=>rw [hi] at h;simp only at h;rw [dGo_none] at h;exact h.elim
  | some i =>
    rw [hi] at h
    simp only at h
    split at h
    · rename_i hc
      refine ⟨hc.1,?_⟩
      unfold dBldQ at h
      split at h
      · rename_i qs hq
        cases hb:bldC i.pl i.zero (toAV qs) with
        | none=>rw [hb] at h;simp only [bldD,dBldM] at h;rw [dGo_none] at h;exact h.elim
        | some l2 =>
          obtain ⟨l1,e1,e2⟩:=bld_cnv hq (EqD.refl i.zero) hb
          rw [hb] at h
          rw [e1,hc.2]
          simp only [bldD,bldS,ldM,e2.dvs] at h ⊢
          cases hx:toDVs false l2 with
          | none=>rw [hx] at h;simp only [Option.map_none,dBldM] at h;rw [dGo_none] at h;exact h.elim
          | some m=>rw [hx] at h;simp only [Option.map_some,dBldM] at h;rw [dGo_p] at h;exact h.2
      · rw [dGo_none] at h;exact h.elim
    · rw [dGo_none] at h;exact h.elim
def dSlice (ty:TypeId→Option TyI) (T:TypeId) (x:AV) (lo hi:Option AV) (mx:Option Operand):Option (Prop×Eff):=match (ty T).bind (·.kd),mx with
  | some (.slice e),none=>(match ty e with
    | some i=>(match addA i.size x with
      | some l=>dSlc i.size l (bndD lo 0) (bndD hi l.length)
      | none=>none)
    | none=>none)
  | some .string,none=>dSlcB lo hi (sclr x)
  | _,_=>none
theorem bndD_of {o:Option Operand} {d n:Int} (h:bndD (o.map (ev N s)) d=some n):bndA N s o d=some n:=by
  unfold bndD at h
  unfold bndA
  cases o with
  | none=>exact h
  | some x =>
    simp only [Option.map_some] at h ⊢
    split at h
    · rename_i m hm;rw [sclr_ok hm];exact h
    · cases h
theorem dSlice_of {T:TypeId} {x:Operand} {lo hi mx:Option Operand} (h:dGo (dSlice ty T (ev N s x) (lo.map (ev N s)) (hi.map (ev N s)) mx) dst s K):sSlice ty N s dst T x lo hi mx K:=by
  unfold dSlice at h
  unfold sSlice
  split at h
  · rename_i e h1
    rw [h1];simp only
    split at h
    · rename_i i hi'
      rw [hi'];simp only
      split at h
      · rename_i l hl
        rw [hl];simp only
        unfold dSlc at h
        split at h
        · rename_i a b ha hb
          rw [bndD_of ha,bndD_of hb]
          rw [dGo_p] at h
          exact ⟨h.1,h.2⟩
        · rw [dGo_none] at h;exact h.elim
      · rw [dGo_none] at h;exact h.elim
    · rw [dGo_none] at h;exact h.elim
  · rename_i h1
    rw [h1];simp only
    unfold dSlcB at h
    split at h
    · rename_i b hb
      rw [sclr_ok hb]
      unfold dSlcS at h
      split at h
      · rename_i p q hp hq
        simp only [sSlcB]
        rw [bndD_of hp,bndD_of hq]
        rw [dGo_p] at h
        exact ⟨h.1,h.2⟩
      · rw [dGo_none] at h;exact h.elim
    · rw [dGo_none] at h;exact h.elim
  · rw [dGo_none] at h;exact h.elim
theorem dNil_of {x:Operand} {live:Nat→Bool} (h:dGo (dNil live (ev N s x)) dst s K):sNil N s dst x K:=by
  unfold dNil at h
  unfold sNil
  split at h
  · rename_i l hl;rw [hl];rw [dGo_p] at h;exact h.2
  · rename_i q r hl;rw [hl];rw [dGo_p] at h;exact h.2
  · rw [dGo_none] at h;exact h.elim
theorem dCvt_of {S T:TypeId} {x:Operand} (h:dGo (dCvt ((ty S).bind (·.kd)) ((ty T).bind (·.kd)) (ev N s x)) dst s K):sCvt ty N s dst S T x K:=by
  unfold dCvt at h
  unfold sCvt
  split at h
  · rename_i h1 h2 h3;rw [h1,h2,sclr_ok h3];rw [dGo_p] at h;exact h.2
  · rename_i h1 h2 h3;rw [h1,h2,sclr_ok h3];rw [dGo_p] at h;exact h.2
  · rename_i h1 h2 h3;rw [h1,h2,sclr_ok h3];rw [dGo_p] at h;exact h.2
  · rename_i h1 h2 h3;rw [h1,h2,sclr_ok h3];rw [dGo_p] at h;exact h.2
  · rw [dGo_none] at h;exact h.elim
theorem dUn_of {op:UnOp} {x:Operand} (h:dGo (dUn op (ev N s x)) dst s K):sUn op N s dst x K:=by
  unfold dUn at h
  unfold sUn
  split at h
  · rename_i h1;rw [sclr_ok h1];rw [dGo_p] at h;exact h.2
  · rename_i h1;rw [sclr_ok h1];rw [dGo_p] at h;exact h.2
  · rw [dGo_none] at h;exact h.elim
theorem dExtract_iff {t:Operand} {i:Nat}:sExtract N s dst t i K↔dGo (dExtract i (ev N s t)) dst s K:=by
  unfold sExtract dExtract
  split
  · rename_i l h
    rw [h]
    simp only
    split
    · rename_i x hx;rw [hx];simp only [Option.map_some];rw [dGo_p];simp
    · rename_i hx;rw [hx];simp only [Option.map_none];rw [dGo_none]
  · rename_i h
    split
    · rename_i l e;exact (h l e).elim
    · rw [dGo_none]
theorem dLen_of {T:TypeId} {x:Operand} (h:dGo (dLen ((ty T).bind (·.kd)) (ev N s x)) dst s K):sLen ty N s dst T x K:=by
  unfold dLen at h
  unfold sLen
  split at h
  · rename_i e h1
    rw [h1];simp only
    cases hn:lenB (ev N s x) with
    | none=>rw [hn] at h;simp only [Option.map_none] at h;rw [dGo_none] at h;exact h.elim
    | some n =>
      rw [hn] at h;simp only [Option.map_some] at h;rw [dGo_p] at h
      rw [(lenB_ok hn).1];exact ⟨(lenB_ok hn).2,h.2⟩
  · rename_i h1
    rw [h1];simp only
    split at h
    · rename_i b hb;rw [sclr_ok hb];rw [dGo_p] at h;exact ⟨rfl,h.1,h.2⟩
    · rw [dGo_none] at h;exact h.elim
  · rw [dGo_none] at h;exact h.elim
theorem dIndexAddr_of {T:TypeId} {x ix:Operand} {live:Nat→Bool} (h:dGo (dIndexAddr ty live T (ev N s x) (ev N s ix)) dst s K):sIndexAddr ty N s dst T x ix K:=by
  unfold dIndexAddr at h
  unfold sIndexAddr
  split at h
  · rename_i e j h1 h2
    rw [h1,sclr_ok h2];simp only
    split at h
    · rename_i i hi
      rw [hi];simp only
      split at h
      · rename_i q k n hx
        rw [dGo_p] at h
        rw [hx];exact ⟨h.1.1,h.1.2.1,h.1.2.2.1,h.2⟩
      · split at h
        · rename_i k l hl
          unfold dIxD at h
          rw [dGo_p] at h
          rcases slA_ok hl with e1 | e1 | ⟨g,T',e1⟩ <;> rw [e1] <;> exact ⟨h.1.1,h.1.2.1,h.1.2.2.1,h.1.2.2.2,h.2⟩
        · rw [dGo_none] at h;exact h.elim
    · rw [dGo_none] at h;exact h.elim
  · rw [dGo_none] at h;exact h.elim
theorem dFieldAddr_of {T:TypeId} {x:Operand} {f:Nat} {live:Nat→Bool} (h:dGo (dFieldAddr ty live T f (ev N s x)) dst s K):sFieldAddr ty N s dst T x f K:=by
  unfold dFieldAddr at h
  unfold sFieldAddr
  split at h
  · rename_i i hi
    rw [hi];simp only
    split at h
    · rename_i off T' h1 h2
      rw [h1,h2];simp only
      split at h
      · rename_i j hj
        rw [hj];simp only
        split at h
        · rename_i l hl;rw [hl];rw [dGo_p] at h;exact h
        · rename_i q r hl;rw [hl];rw [dGo_p] at h;exact ⟨h.1.1,h.2⟩
        · rw [dGo_none] at h;exact h.elim
      · rw [dGo_none] at h;exact h.elim
    · rw [dGo_none] at h;exact h.elim
  · rw [dGo_none] at h;exact h.elim
theorem dLoad_of {T:TypeId} {x:Operand} (h:dGo (dLoad ty s.ob T (ev N s x)) dst s K):sLoad ty N s dst T x K:=by
  unfold dLoad at h
  unfold sLoad
  split
  · rename_i i hi
    rw [hi] at h;simp only at h
    split
    · rename_i l hl
      rw [hl] at h;simp only at h
      cases hg:i.agg with
      | true=>rw [hg] at h;simp only at h;rw [dGo_p] at h;exact h
      | false=>rw [hg] at h;simp only at h;rw [dGo_p,and_assoc] at h;exact h
    · rename_i q r hl
      rw [hl] at h;simp only at h
      split
      · rename_i l hob
        rw [hob] at h;simp only at h
        unfold sLoadO
        cases hg:i.agg with
        | true =>
          rw [hg] at h;simp only at h
          by_cases hw:i.wh=false
          · rw [if_pos hw] at h
            simp only
            rw [hw]
            simp only [ldM]
            cases hm:toDVs false ((l.drop r).take i.size) with
            | none=>rw [hm] at h;simp only [Option.map_none] at h;rw [dGo_none] at h;exact h.elim
            | some m=>rw [hm] at h;simp only [Option.map_some] at h;rw [dGo_p] at h;exact h
          · rw [if_neg hw,dGo_none] at h;exact h.elim
        | false=>rw [hg] at h;simp only at h;rw [dGo_p] at h;exact h
      · rename_i hob;rw [hob] at h;simp only at h;rw [dGo_none] at h;exact h.elim
    · rename_i h1 h2
      split at h
      · rename_i l e;exact (h1 l e).elim
      · rename_i q r e;exact (h2 q r e).elim
      · rw [dGo_none] at h;exact h.elim
  · rename_i hi;rw [hi] at h;simp only at h;rw [dGo_none] at h;exact h.elim
def oE (d:Nat) (l:List AV):Eff:=⟨none,some d,some (scrubs (fun _=>true) (fun o=>!(o == d)) l),none,.ptr d 0⟩
theorem oE_app (d:Nat) (l:List AV) (s:AS):(oE d l).app (some d) s=s.newO d l:=by
  have hk:(oE d l).kb=fun _=>true:=by funext g;rfl
  have ho:(oE d l).ko=fun o=>!(o == d):=by
    funext o
    show (!(some d == some o)) = !(o == d)
    by_cases e:o=d
    · subst e;simp
    · have e2:¬ d=o:=fun h=>e h.symm
      rw [show (o == d)=false by simpa using e,show (some d == some o)=false by simpa using e2]
  unfold Eff.app AS.newO
  rw [hk,ho]
  simp only [AS.putD,AS.put,AS.setOb,AS.scr]
  congr 1
  funext o
  simp only [Eff.ob,hk,ho]
  by_cases e:o=d
  · subst e;simp [oE]
  · have:¬ (oE d l).no=some o:=by simp [oE];exact fun h=>e h.symm
    rw [if_neg this,if_neg e]
    simp only [oE,scrubs_eq_map]
def bE (g:Nat) (v:AV):Eff:=⟨some g,none,none,none,v⟩
theorem bE_app (g d:Nat) (v:AV) (s:AS):(bE g v).app (some d) s=(s.newB g).put d v:=by
  have hk:(bE g v).kb=fun g'=>!(g' == g):=by
    funext o
    show (!(some g == some o)) = !(o == g)
    by_cases e:o=g
    · subst e;simp
    · have e2:¬ g=o:=fun h=>e h.symm
      rw [show (o == g)=false by simpa using e,show (some g == some o)=false by simpa using e2]
  have ho:(bE g v).ko=fun _=>true:=by funext g;rfl
  unfold Eff.app AS.newB
  rw [hk,ho]
  simp only [AS.putD,AS.put,AS.scr]
  congr 1
  funext o
  have hno:(bE g v).no=none:=rfl
  have hsq:(bE g v).sq=none:=rfl
  simp only [Eff.ob,hk,ho,hno,hsq,reduceCtorEq,if_false,scrubs_eq_map]
def sE (q:Nat) (l:List AV):Eff:=⟨none,none,none,some (q,l),.junk⟩
theorem sE_app (q:Nat) (l:List AV) (s:AS):(sE q l).app none s=s.setOb q (some l):=by
  have h1:∀ x,scrub (sE q l).kb (sE q l).ko x=x:=scrub_all (fun _=>rfl) (fun _=>rfl)
  have h2:∀ x,scrubs (sE q l).kb (sE q l).ko x=x:=scrubs_all (fun _=>rfl) (fun _=>rfl)
  unfold Eff.app AS.setOb
  simp only [h1,AS.putD]
  congr 1
  funext o
  simp only [Eff.ob,sE,reduceCtorEq,if_false]
  split
  · rfl
  · cases s.ob o with
    | none=>rfl
    | some l'=>simp only [Option.map_some];exact congrArg some (h2 l')
theorem dGo_o {c:Prop} {d:Nat} {l:List AV}:dGo (some (c,oE d l)) (some d) s K↔c∧K (s.newO d l):=by
  unfold dGo
  constructor
  · rintro ⟨c',f,h,h1,h2⟩;cases h;rw [oE_app] at h2;exact ⟨h1,h2⟩
  · rintro ⟨h1,h2⟩;exact ⟨c,_,rfl,h1,by rw [oE_app];exact h2⟩
theorem dGo_b {c:Prop} {g d:Nat} {v:AV}:dGo (some (c,bE g v)) (some d) s K↔c∧K ((s.newB g).put d v):=by
  unfold dGo
  constructor
  · rintro ⟨c',f,h,h1,h2⟩;cases h;rw [bE_app] at h2;exact ⟨h1,h2⟩
  · rintro ⟨h1,h2⟩;exact ⟨c,_,rfl,h1,by rw [bE_app];exact h2⟩
theorem dGo_s {c:Prop} {q:Nat} {l:List AV}:dGo (some (c,sE q l)) none s K↔c∧K (s.setOb q (some l)):=by
  unfold dGo
  constructor
  · rintro ⟨c',f,h,h1,h2⟩;cases h;rw [sE_app] at h2;exact ⟨h1,h2⟩
  · rintro ⟨h1,h2⟩;exact ⟨c,_,rfl,h1,by rw [sE_app];exact h2⟩
def dAlloc (ty:TypeId→Option TyI) (ob:Nat→Option (List AV)) (dst:Option Nat) (T:TypeId):Option (Prop×Eff):=match dst,ty T with
  | some d,some i=>some (d<1000000∧ob d=none,oE d i.zero)
  | _,_=>none
theorem dAlloc_of {T:TypeId} (h:dGo (dAlloc ty s.ob dst T) dst s K):sAlloc ty s dst T K:=by
  unfold dAlloc at h
  unfold sAlloc
  split at h
  · rename_i d i h1;rw [h1];simp only;rw [dGo_o] at h;exact ⟨h.1.1,h.2⟩
  · rw [dGo_none] at h;exact h.elim
def dBox (ob:Nat→Option (List AV)) (dst:Option Nat) (x:AV):Option (Prop×Eff):=match dst,x with
  | some d,.d (.agg m)=>some (d<1000000∧leaves m=true∧ob d=none,oE d (m.map .d))
  | _,_=>none
theorem dBox_of {x:Operand} (h:dGo (dBox s.ob dst (ev N s x)) dst s K):sBox N s dst x K:=by
  unfold dBox at h
  unfold sBox
  split at h
  · rename_i d m h1;rw [h1];simp only;rw [dGo_o] at h;exact ⟨h.1.1,h.1.2.1,h.2⟩
  · rw [dGo_none] at h;exact h.elim
def dBuildSlice (ty:TypeId→Option TyI) (dst:Option Nat) (T:TypeId) (len:Nat) (parts:Array (Nat×Operand)) (xs:List AV):Option (Prop×Eff):=match dst,(ty T).bind (·.kd) with
  | some d,some (.slice e)=>(match ty e with
    | some i=>if i.wh=false then (toDVs false xs).map fun m=>((idxOK parts.toList 0=true∧parts.toList.length=len∧len*i.size≤16777216∧0<i.size)∧elemsOK i.size m=true,bE d (.buf d e i.size m)) else none
    | none=>none)
  | _,_=>none
theorem dBuildSlice_of {T:TypeId} {len:Nat} {parts:Array (Nat×Operand)} (h:dGo (dBuildSlice ty dst T len parts (evs N s (parts.toList.map (·.2)))) dst s K):sBuildSlice ty N s dst T len parts K:=by
  unfold dBuildSlice at h
  unfold sBuildSlice
  split at h
  · rename_i d e h1
    rw [h1];simp only
    split at h
    · rename_i i hi
      rw [hi];simp only
      by_cases hw:i.wh=false
      · rw [hw];rw [if_pos hw] at h
        cases hm:toDVs false (evs N s (parts.toList.map (·.2))) with
        | none=>rw [hm] at h;simp only [Option.map_none] at h;rw [dGo_none] at h;exact h.elim
        | some m=>rw [hm] at h;simp only [Option.map_some] at h;rw [dGo_b] at h;exact ⟨h.1.1,h.1.2,h.2⟩
      · rw [if_neg hw,dGo_none] at h;exact h.elim
    · rw [dGo_none] at h;exact h.elim
  · rw [dGo_none] at h;exact h.elim
def dAppend (ty:TypeId→Option TyI) (dst:Option Nat) (T T':TypeId) (x y:AV):Option (Prop×Eff):=match dst,(ty T).bind (·.kd) with
  | some d,some (.slice e)=>(match ty e with
    | some i=>(match addA i.size y with
      | some l'=>(match x with
        | .buf g Te k l=>some ((T'=T∧0<i.size)∧(Te=e∧k=i.size)∧l.length+l'.length≤16777216,bE g (.buf g e i.size (l ++ l')))
        | .nil=>some ((T'=T∧0<i.size)∧l'.length≤16777216,bE d (.buf d e i.size l'))
        | _=>none)
      | none=>none)
    | none=>none)
  | _,_=>none
theorem dAppend_of {T T':TypeId} {x y:Operand} (h:dGo (dAppend ty dst T T' (ev N s x) (ev N s y)) dst s K):sAppend ty N s dst T T' x y K:=by
  unfold dAppend at h
  unfold sAppend
  split at h
  · rename_i d e h1
    rw [h1];simp only
    split at h
    · rename_i i hi
      rw [hi];simp only
      split at h
      · rename_i l' hl'
        rw [hl'];simp only
        split at h
        · rename_i g Te k l hl;rw [hl];simp only;rw [dGo_b] at h;exact ⟨h.1.1,h.1.2.1,h.1.2.2,h.2⟩
        · rename_i hl;rw [hl];simp only;rw [dGo_b] at h;exact ⟨h.1.1,h.1.2,h.2⟩
        · rw [dGo_none] at h;exact h.elim
      · rw [dGo_none] at h;exact h.elim
    · rw [dGo_none] at h;exact h.elim
  · rw [dGo_none] at h;exact h.elim
def dStore (ty:TypeId→Option TyI) (ob:Nat→Option (List AV)) (dst:Option Nat) (T:TypeId) (p x:AV):Option (Prop×Eff):=match dst,ty T with
  | none,some i=>(match p with
    | .ptr q r=>(match ob q with
      | some l=>(match i.agg with
        | true=>(match x with
          | .d (.agg m)=>some (m.length=i.size∧leaves m=true∧r+i.size≤l.length,sE q (splice l r (m.map .d)))
          | _=>none)
        | false=>some (isCell x=true∧r<l.length,sE q (l.set r x)))
      | none=>none)
    | _=>none)
  | _,_=>none
theorem dStore_of {T:TypeId} {p x:Operand} (h:dGo (dStore ty s.ob dst T (ev N s p) (ev N s x)) dst s K):sStore ty N s dst T p x K:=by
  unfold dStore at h
  unfold sStore
  split at h
  · rename_i i h1
    rw [h1];simp only
    split at h
    · rename_i q r hl
      rw [hl];simp only
      split at h
      · rename_i l hob
        rw [hob];simp only [sStoreO]
        cases hag:i.agg with
        | true =>
          rw [hag] at h
          simp only at h ⊢
          split at h
          · rename_i m hm;rw [hm];simp only;rw [dGo_s] at h;exact ⟨h.1.1,h.1.2.1,h.1.2.2,h.2⟩
          · rw [dGo_none] at h;exact h.elim
        | false=>rw [hag] at h;simp only at h ⊢;rw [dGo_s] at h;exact ⟨h.1.1,h.1.2,h.2⟩
      · rw [dGo_none] at h;exact h.elim
    · rw [dGo_none] at h;exact h.elim
  · rw [dGo_none] at h;exact h.elim
def liveO (s:AS):Nat→Bool:=fun q=>(s.ob q).isSome
def dMM (mx:Bool) (x y:AV):Option (Prop×Eff):=match sclr x,sclr y with
  | some (.int a),some (.int b)=>some (True,pE (.d (.int (match mx with
    | true=>if b > a then b else a
    | false=>if b<a then b else a))))
  | _,_=>none
theorem dMM_of {mx:Bool} {x y:Operand} (h:dGo (dMM mx (ev N s x) (ev N s y)) dst s K):sMM mx N s dst x y K:=by
  unfold dMM at h
  unfold sMM
  split at h
  · rename_i h1 h2;rw [sclr_ok h1,sclr_ok h2];rw [dGo_p] at h;exact h.2
  · rw [dGo_none] at h;exact h.elim
def dOp (ty:TypeId→Option TyI) (N:Nat) (o:Oper) (s:AS):Option (Prop×Eff):=match o.op with
  | .move x=>some (True,pE (ev N s x))
  | .assign x=>some (True,pE (ev N s x))
  | .pick c x y=>dPick (ev N s x) (ev N s y) (ev N s c)
  | .binOp op T x y _=>dBin op T (ev N s x) (ev N s y)
  | .unOp op _ x=>dUn op (ev N s x)
  | .extract t i=>dExtract i (ev N s t)
  | .fieldAddr T x f=>dFieldAddr ty (liveO s) T f (ev N s x)
  | .indexAddr T x ix=>dIndexAddr ty (liveO s) T (ev N s x) (ev N s ix)
  | .load T x=>dLoad ty s.ob T (ev N s x)
  | .store T p x=>dStore ty s.ob o.dst T (ev N s p) (ev N s x)
  | .alloc T=>dAlloc ty s.ob o.dst T
  | .box _ x=>dBox s.ob o.dst (ev N s x)
  | .buildSlice T len parts=>dBuildSlice ty o.dst T len parts (evs N s (parts.toList.map (·.2)))
  | .call c=>match c.callee with
    | .builtin .len=>(match c.args.toList,c.argTypes.toList with
      | [x],[T]=>dLen ((ty T).bind (·.kd)) (ev N s x)
      | _,_=>none)
    | .builtin .append=>(match c.args.toList,c.argTypes.toList with
      | [x,y],[T,T']=>dAppend ty o.dst T T' (ev N s x) (ev N s y)
      | _,_=>none)
    | .builtin .max=>(match c.args.toList with
      | [x,y]=>dMM true (ev N s x) (ev N s y)
      | _=>none)
    | .builtin .min=>(match c.args.toList with
      | [x,y]=>dMM false (ev N s x) (ev N s y)
      | _=>none)
    | _=>none
  | .nilCheck x=>dNil (liveO s) (ev N s x)
  | .convert S T x=>dCvt ((ty S).bind (·.kd)) ((ty T).bind (·.kd)) (ev N s x)
  | .slice T x lo hi mx=>dSlice ty T (ev N s x) (lo.map (ev N s)) (hi.map (ev N s)) mx
  | .index T x ix=>dIndex ((ty T).bind (·.kd)) (ev N s x) (ev N s ix)
  | .build T parts=>dBuild ty T (prts N s parts.toList)
  | _=>none
theorem dOp_of {o:Oper} (h:dGo (dOp ty N o s) o.dst s K):astep ty N o s K:=by
  unfold dOp at h
  unfold astep
  split at h
  · rename_i x ho;rw [ho];exact dMove_of h
  · rename_i x ho;rw [ho];exact dMove_of h
  · rename_i c x y ho;rw [ho];exact dPick_of h
  · rename_i ho;rw [ho];exact dBin_of h
  · rename_i ho;rw [ho];exact dUn_of h
  · rename_i ho;rw [ho];exact dExtract_iff.2 h
  · rename_i ho;rw [ho];exact dFieldAddr_of h
  · rename_i ho;rw [ho];exact dIndexAddr_of h
  · rename_i ho;rw [ho];exact dLoad_of h
  · rename_i ho;rw [ho];exact dStore_of h
  · rename_i ho;rw [ho];exact dAlloc_of h
  · rename_i ho;rw [ho];exact dBox_of h
  · rename_i ho;rw [ho];exact dBuildSlice_of h
  · rename_i c ho
    rw [ho];simp only
    split at h
    · rename_i hc
      rw [hc];simp only
      split at h
      · rename_i x T h1 h2;rw [h1,h2];exact dLen_of h
      · rw [dGo_none] at h;exact h.elim
    · rename_i hc
      rw [hc];simp only
      split at h
      · rename_i x y T T' h1 h2;rw [h1,h2];exact dAppend_of h
      · rw [dGo_none] at h;exact h.elim
    · rename_i hc
      rw [hc];simp only
      split at h
      · rename_i x y h1;rw [h1];exact dMM_of h
      · rw [dGo_none] at h;exact h.elim
    · rename_i hc
      rw [hc];simp only
      split at h
      · rename_i x y h1;rw [h1];exact dMM_of h
      · rw [dGo_none] at h;exact h.elim
    · rw [dGo_none] at h;exact h.elim
  · rename_i ho;rw [ho];exact dNil_of h
  · rename_i ho;rw [ho];exact dCvt_of h
  · rename_i ho;rw [ho];exact dSlice_of h
  · rename_i ho;rw [ho];exact dIndex_of h
  · rename_i ho;rw [ho];exact dBuild_of h
  · rw [dGo_none] at h;exact h.elim
end
def Eff.scr (fb fo:Nat→Bool) (e:Eff):Eff:=⟨e.nb,e.no,e.ol.map (scrubs fb fo),e.sq.map (fun p=>(p.1,scrubs fb fo p.2)),scrub fb fo e.val⟩
def mapE (fb fo:Nat→Bool) (x:Option (Prop×Eff)):Option (Prop×Eff):=x.map fun p=>(p.1,p.2.scr fb fo)
section
variable {fb fo:Nat→Bool}
theorem pE_scr (v:AV):(pE v).scr fb fo=pE (scrub fb fo v):=rfl
theorem scr_pick (x y c:AV):dPick (scrub fb fo x) (scrub fb fo y) (scrub fb fo c)=mapE fb fo (dPick x y c):=by
  unfold dPick
  rw [sclr_scr]
  split
  · rename_i p hp
    simp only [mapE,Option.map_some,pE_scr]
    congr 3
    unfold pickA
    split
    · rename_i a b h1 h2
      have e1:x=.d (.bool a):=sclr_ok (by rw [← sclr_scr fb fo,h1];rfl)
      have e2:y=.d (.bool b):=sclr_ok (by rw [← sclr_scr fb fo,h2];rfl)
      rw [e1,e2];rfl
    · rename_i h1
      split
      · rename_i a b;exact (h1 a b rfl rfl).elim
      · cases p <;> rfl
  · rfl
theorem scr_bin (op:BinOp) (T:TypeId) (x y:AV):dBin op T (scrub fb fo x) (scrub fb fo y)=mapE fb fo (dBin op T x y):=by
  unfold dBin
  rw [sclr_scr,sclr_scr,cstN_scr]
  split
  · cases op <;> rfl
  · cases op <;> rfl
  · cases op <;> rfl
  · cases op <;> rfl
  · cases op <;> rfl
  · split
    · cases op <;> rfl
    · rfl
  · rfl
theorem scr_cvt (kS kT:Option TypeDesc) (x:AV):dCvt kS kT (scrub fb fo x)=mapE fb fo (dCvt kS kT x):=by
  unfold dCvt
  rw [sclr_scr]
  split <;> rfl
theorem scr_un (op:UnOp) (x:AV):dUn op (scrub fb fo x)=mapE fb fo (dUn op x):=by
  unfold dUn
  rw [sclr_scr]
  split <;> rfl
theorem scr_mm (mx:Bool) (x y:AV):dMM mx (scrub fb fo x) (scrub fb fo y)=mapE fb fo (dMM mx x y):=by
  unfold dMM
  rw [sclr_scr,sclr_scr]
  split <;> rfl
theorem scrubs_get (l:List AV) (i:Nat):(scrubs fb fo l)[i]? = (l[i]?).map (scrub fb fo):=by
  rw [scrubs_map];simp
theorem scr_extract (i:Nat) (x:AV):dExtract i (scrub fb fo x)=mapE fb fo (dExtract i x):=by
  cases x with
  | tup l =>
    simp only [scrub,dExtract,scrubs_get,mapE]
    cases l[i]? <;> rfl
  | buf g T k l=>simp only [scrub];split <;> rfl
  | ptr o j=>simp only [scrub];split <;> rfl
  | arr o j k=>simp only [scrub];split <;> rfl
  | _=>rfl
theorem scr_len (kd:Option TypeDesc) (x:AV):dLen kd (scrub fb fo x)=mapE fb fo (dLen kd x):=by
  unfold dLen
  rw [lenB_scr,sclr_scr]
  split
  · cases lenB x <;> rfl
  · split <;> rfl
  · rfl
def NK (fo:Nat→Bool) (x:AV):Prop:=∀ o i,x=.ptr o i→fo o=true
theorem scr_indexAddr (ty:TypeId→Option TyI) (live live':Nat→Bool) (T:TypeId) (x ix:AV) (hk:∀ q k n,x=.arr q k n→fo q=true) (hl:∀ q k n,x=.arr q k n→live' q=live q):dIndexAddr ty live' T (scrub fb fo x) (scrub fb fo ix)=mapE fb fo (dIndexAddr ty live T x ix):=by
  unfold dIndexAddr
  rw [sclr_scr]
  split
  · split
    · cases x with
      | arr q k n =>
        have h1:=hk q k n rfl
        simp only [scrub,if_pos h1]
        rw [hl q k n rfl]
        simp only [mapE,Option.map_some,pE_scr,scrub,if_pos h1]
      | buf g T k l =>
        simp only [scrub]
        by_cases hb:fb g=true
        · rw [if_pos hb];rfl
        · rw [if_neg hb];rfl
      | ptr o j=>simp only [scrub];by_cases hb:fo o=true;(rw [if_pos hb];rfl);(rw [if_neg hb];rfl)
      | d v=>cases v <;> rfl
      | _=>rfl
    · rfl
  · rfl
theorem scr_fieldAddr (ty:TypeId→Option TyI) (live live':Nat→Bool) (T:TypeId) (f:Nat) (x:AV) (hk:NK fo x) (hl:∀ o i,x=.ptr o i→live' o=live o):dFieldAddr ty live' T f (scrub fb fo x)=mapE fb fo (dFieldAddr ty live T f x):=by
  unfold dFieldAddr
  split
  · split
    · split
      · cases x with
        | ptr o i =>
          simp only [scrub,if_pos (hk o i rfl)]
          rw [hl o i rfl]
          simp only [mapE,Option.map_some,pE_scr,scrub,if_pos (hk o i rfl)]
        | buf g T k l=>simp only [scrub];by_cases hb:fb g=true;(rw [if_pos hb];rfl);(rw [if_neg hb];rfl)
        | arr o j k=>simp only [scrub];by_cases hb:fo o=true;(rw [if_pos hb];rfl);(rw [if_neg hb];rfl)
        | _=>rfl
      · rfl
    · rfl
  · rfl
theorem bndD_scr (o:Option AV) (d:Int):bndD (o.map (scrub fb fo)) d=bndD o d:=by
  cases o with
  | none=>rfl
  | some x=>simp only [Option.map_some,bndD,sclr_scr]
theorem scr_nil (live live':Nat→Bool) (x:AV) (hk:NK fo x) (hl:∀ o i,x=.ptr o i→live' o=live o):dNil live' (scrub fb fo x)=mapE fb fo (dNil live x):=by
  cases x with
  | ptr o i =>
    simp only [scrub,if_pos (hk o i rfl),dNil]
    rw [hl o i rfl]
    simp only [mapE,Option.map_some,pE_scr,scrub,if_pos (hk o i rfl)]
  | buf g T k l=>simp only [scrub];by_cases hb:fb g=true;(rw [if_pos hb];rfl);(rw [if_neg hb];rfl)
  | arr o j k=>simp only [scrub];by_cases hb:fo o=true;(rw [if_pos hb];rfl);(rw [if_neg hb];rfl)
  | _=>rfl
theorem toDV_scr (x:AV):toDV false (scrub fb fo x)=toDV false x:=by
  cases x <;> simp only [scrub] <;> first | rfl | (split <;> rfl)
theorem toDVs_scr:∀ l:List AV,toDVs false (scrubs fb fo l)=toDVs false l
  | []=>rfl
  | x :: l=>by simp only [scrubs,toDVs,toDV_scr,toDVs_scr l]
theorem addA_scr (k:Nat) (x:AV):addA k (scrub fb fo x)=addA k x:=by
  cases x <;> simp only [scrub] <;> first | rfl | (split <;> rfl)
theorem scr_slice (ty:TypeId→Option TyI) (T:TypeId) (x:AV) (lo hi:Option AV) (mx:Option Operand):dSlice ty T (scrub fb fo x) (lo.map (scrub fb fo)) (hi.map (scrub fb fo)) mx=mapE fb fo (dSlice ty T x lo hi mx):=by
  unfold dSlice
  split
  · split
    · rw [addA_scr]
      split
      · rw [bndD_scr,bndD_scr]
        unfold dSlc
        split <;> rfl
      · rfl
    · rfl
  · rw [sclr_scr]
    unfold dSlcB
    split
    · rw [bndD_scr,bndD_scr]
      unfold dSlcS
      split <;> rfl
    · rfl
  · rfl
theorem scr_index (kd:Option TypeDesc) (x ix:AV):dIndex kd (scrub fb fo x) (scrub fb fo ix)=mapE fb fo (dIndex kd x ix):=by
  unfold dIndex
  rw [sclr_scr,sclr_scr]
  split <;> rfl
theorem scr_cnv:∀ l:List (Nat×AV),cnvP (l.map fun p=>(p.1,scrub fb fo p.2))=cnvP l
  | []=>rfl
  | p :: l=>by simp only [List.map_cons,cnvP,toDV_scr,scr_cnv l]
theorem scr_build (ty:TypeId→Option TyI) (T:TypeId) (l:List (Nat×AV)):dBuild ty T (l.map fun p=>(p.1,scrub fb fo p.2))=mapE fb fo (dBuild ty T l):=by
  unfold dBuild
  rw [scr_cnv]
  unfold dBldI
  split
  · split
    · unfold dBldQ
      split
      · unfold dBldM
        split <;> rfl
      · rfl
    · rfl
  · rfl
theorem scrubs_len (l:List AV):(scrubs fb fo l).length=l.length:=by rw [scrubs_map];simp
theorem scrubs_drop (l:List AV) (j:Nat):(scrubs fb fo l).drop j=scrubs fb fo (l.drop j):=by rw [scrubs_map,scrubs_map,List.map_drop]
theorem scrubs_take (l:List AV) (j:Nat):(scrubs fb fo l).take j=scrubs fb fo (l.take j):=by rw [scrubs_map,scrubs_map,List.map_take]
theorem scr_load (ty:TypeId→Option TyI) (ob ob':Nat→Option (List AV)) (T:TypeId) (x:AV) (hk:NK fo x) (hl:∀ o i,x=.ptr o i→ob' o=(ob o).map (scrubs fb fo)):dLoad ty ob' T (scrub fb fo x)=mapE fb fo (dLoad ty ob T x):=by
  unfold dLoad
  split
  · rename_i i hi
    cases x with
    | ptr o r =>
      simp only [scrub,if_pos (hk o r rfl)]
      rw [hl o r rfl]
      cases ob o with
      | none=>rfl
      | some l =>
        simp only [Option.map_some]
        cases i.agg with
        | true =>
          simp only
          by_cases hw:i.wh=false
          · rw [if_pos hw,if_pos hw,scrubs_drop,scrubs_take,toDVs_scr,scrubs_len]
            cases toDVs false ((l.drop r).take i.size) <;> rfl
          · rw [if_neg hw,if_neg hw];rfl
        | false =>
          simp only [mapE,Option.map_some,pE_scr,scrubs_len]
          congr 3
          simp only [List.getD,scrubs_get]
          cases l[r]? <;> rfl
    | loc l=>simp only [scrub];cases i.agg <;> rfl
    | buf g T k l=>simp only [scrub];by_cases hb:fb g=true;(rw [if_pos hb];rfl);(rw [if_neg hb];rfl)
    | arr o j k=>simp only [scrub];by_cases hb:fo o=true;(rw [if_pos hb];rfl);(rw [if_neg hb];rfl)
    | _=>rfl
  · rfl
end
theorem app_ev {N:Nat} {e:Eff} {d0:Option Nat} {s:AS} {x:Operand} (h:∀ t,x=.tmp t→d0 ≠ some t):ev N (e.app d0 s) x=scrub e.kb e.ko (ev N s x):=by
  have hc:∀ v:Value,scrub e.kb e.ko (ofConst v)=ofConst v:=fun v=>by
    unfold ofConst
    split
    · rfl
    · rfl
    · split <;> rfl
    · split <;> rfl
  cases x with
  | tmp t =>
    simp only [ev]
    split
    · have:=h t rfl
      cases d0 with
      | none=>rfl
      | some d=>simp only [Eff.app,AS.putD,AS.put];rw [if_neg (fun e=>this (by rw [e]))]
    · rfl
  | const v=>exact (hc v).symm
  | func f=>rfl
  | global g=>rfl
theorem app_evs {N:Nat} {e:Eff} {d0:Option Nat} {s:AS}:∀ {l:List Operand},(∀ x∈l,∀ t,x=.tmp t→d0 ≠ some t)→evs N (e.app d0 s) l=scrubs e.kb e.ko (evs N s l)
  | [],_=>rfl
  | x :: l,h=>by
    simp only [evs,scrubs]
    rw [app_ev (h x (List.mem_cons_self ..)),app_evs (fun y hy=>h y (List.mem_cons_of_mem _ hy))]
theorem app_ob {e:Eff} {d0:Option Nat} {s:AS}:(e.app d0 s).ob=e.ob s:=by cases d0 <;> rfl
def opTmps (l:List Operand):List Nat:=l.filterMap fun x=>match x with
  | .tmp t=>some t
  | _=>none
def rdOp:Op→List Nat
  | .move x | .assign x=>opTmps [x]
  | .pick c x y=>opTmps [c,x,y]
  | .binOp _ _ x y _=>opTmps [x,y]
  | .unOp _ _ x=>opTmps [x]
  | .extract t _=>opTmps [t]
  | .fieldAddr _ x _=>opTmps [x]
  | .indexAddr _ x ix=>opTmps [x,ix]
  | .load _ x=>opTmps [x]
  | .store _ p x=>opTmps [p,x]
  | .box _ x=>opTmps [x]
  | .buildSlice _ _ parts=>opTmps (parts.toList.map (·.2))
  | .call c=>opTmps c.args.toList
  | .nilCheck x=>opTmps [x]
  | .convert _ _ x=>opTmps [x]
  | .slice _ x lo hi _=>opTmps (x :: (lo.toList ++ hi.toList))
  | .index _ x ix=>opTmps [x,ix]
  | .build _ parts=>opTmps (parts.toList.map (·.2))
  | _=>[]
theorem rd_ne {l:List Operand} {d0:Option Nat} (h:∀ t∈opTmps l,d0 ≠ some t):∀ x∈l,∀ t,x=.tmp t→d0 ≠ some t:=fun x hx t e=>h t (List.mem_filterMap.2 ⟨x,hx,by rw [e]⟩)
def clsOp:Op→Nat
  | .move _ | .assign _ | .pick .. | .binOp .. | .unOp .. | .extract .. | .fieldAddr .. | .indexAddr .. | .nilCheck _ | .convert .. | .slice .. | .index .. | .build ..=>0
  | .load ..=>1
  | .alloc .. | .box .. | .buildSlice ..=>2
  | .store ..=>3
  | .call c=>match c.callee with
    | .builtin .len=>0
    | .builtin .append=>2
    | .builtin .max=>0
    | .builtin .min=>0
    | .value (.func _)=>4
    | _=>9
  | _=>9
structure Quiet0 (e0:Eff) (s:AS):Prop where
  sq:e0.sq=none
  fresh:∀ d,e0.no=some d→s.ob d=none
section
variable {ty:TypeId→Option TyI} {N:Nat} {o:Oper} {s:AS} {e0:Eff} {d0:Option Nat}
theorem ob_other {q:Nat} (h0:Quiet0 e0 s) (hq:e0.ko q=true):(e0.app d0 s).ob q=(s.ob q).map (scrubs e0.kb e0.ko):=by
  rw [app_ob]
  simp only [Eff.ob,h0.sq]
  rw [if_neg]
  intro e
  simp only [Eff.ko,e] at hq
  simp at hq
theorem mapE_some {fb fo:Nat→Bool} {x:Option (Prop×Eff)} {c:Prop} {e1:Eff} (h:mapE fb fo x=some (c,e1)):∃ e,x=some (c,e)∧e1=e.scr fb fo:=by
  cases x with
  | none=>cases h
  | some p=>obtain ⟨c',e⟩:=p;simp only [mapE,Option.map_some,Option.some.injEq,Prod.mk.injEq] at h;exact ⟨e,by rw [← h.1],h.2.symm⟩
theorem app_prts {d0:Option Nat}:∀ {l:List (Nat×Operand)},(∀ x∈l.map (·.2),∀ t,x=.tmp t→d0 ≠ some t)→prts N (e0.app d0 s) l=(prts N s l).map fun p=>(p.1,scrub e0.kb e0.ko p.2)
  | [],_=>rfl
  | p :: l,h=>by
    simp only [prts,List.map_cons]
    rw [app_ev (h p.2 (by simp)),app_prts (fun y hy=>h y (by simp only [List.map_cons,List.mem_cons];exact .inr hy))]
theorem dOp_same (hcl:clsOp o.op≤1) (hr:∀ t∈rdOp o.op,d0 ≠ some t) (h0:Quiet0 e0 s) (hk:∀ x q i,ev N s x=.ptr q i→(∀ T f,o.op=.fieldAddr T x f→e0.ko q=true)∧(∀ T,o.op=.load T x→e0.ko q=true)∧(o.op=.nilCheck x→e0.ko q=true)) (hka:∀ x ix T q k n,ev N s x=.arr q k n→o.op=.indexAddr T x ix→e0.ko q=true) :
    dOp ty N o (e0.app d0 s)=mapE e0.kb e0.ko (dOp ty N o s):=by
  unfold dOp
  split
  · rename_i x ho
    rw [ho] at hr
    rw [app_ev (rd_ne hr x (by simp))];rfl
  · rename_i x ho
    rw [ho] at hr
    rw [app_ev (rd_ne hr x (by simp))];rfl
  · rename_i c x y ho
    rw [ho] at hr
    rw [app_ev (rd_ne hr x (by simp)),app_ev (rd_ne hr y (by simp)),app_ev (rd_ne hr c (by simp))];exact scr_pick _ _ _
  · rename_i op T x y T' ho
    rw [ho] at hr
    rw [app_ev (rd_ne hr x (by simp)),app_ev (rd_ne hr y (by simp))];exact scr_bin _ _ _ _
  · rename_i op T x ho
    rw [ho] at hr
    rw [app_ev (rd_ne hr x (by simp))];exact scr_un _ _
  · rename_i t i ho
    rw [ho] at hr
    rw [app_ev (rd_ne hr t (by simp))];exact scr_extract _ _
  · rename_i T x f ho
    rw [ho] at hr
    rw [app_ev (rd_ne hr x (by simp))]
    refine scr_fieldAddr ty _ _ T f _ (fun q i e=>(hk x q i e).1 T f ho) (fun q i e=>?_)
    simp only [liveO,ob_other h0 ((hk x q i e).1 T f ho),Option.isSome_map]
  · rename_i T x ix ho
    rw [ho] at hr
    rw [app_ev (rd_ne hr x (by simp)),app_ev (rd_ne hr ix (by simp))]
    refine scr_indexAddr ty _ _ T _ _ (fun q k n e=>hka x ix T q k n e ho) (fun q k n e=>?_)
    simp only [liveO,ob_other h0 (hka x ix T q k n e ho),Option.isSome_map]
  · rename_i T x ho
    rw [ho] at hr
    rw [app_ev (rd_ne hr x (by simp))]
    exact scr_load ty _ _ T _ (fun q i e=>(hk x q i e).2.1 T ho) (fun q i e=>ob_other h0 ((hk x q i e).2.1 T ho))
  · rename_i ho;rw [ho] at hcl;simp [clsOp] at hcl
  · rename_i ho;rw [ho] at hcl;simp [clsOp] at hcl
  · rename_i ho;rw [ho] at hcl;simp [clsOp] at hcl
  · rename_i ho;rw [ho] at hcl;simp [clsOp] at hcl
  · rename_i c ho
    rw [ho] at hr hcl
    split
    · rename_i hc
      split
      · rename_i x T h1 h2
        rw [app_ev (rd_ne hr x (by rw [h1];simp))];exact scr_len _ _
      · rfl
    · rename_i hc;simp [clsOp,hc] at hcl
    · rename_i hc
      split
      · rename_i x y h1
        rw [app_ev (rd_ne hr x (by rw [h1];simp)),app_ev (rd_ne hr y (by rw [h1];simp))];exact scr_mm _ _ _
      · rfl
    · rename_i hc
      split
      · rename_i x y h1
        rw [app_ev (rd_ne hr x (by rw [h1];simp)),app_ev (rd_ne hr y (by rw [h1];simp))];exact scr_mm _ _ _
      · rfl
    · rfl
  · rename_i x ho
    rw [ho] at hr
    rw [app_ev (rd_ne hr x (by simp))]
    refine scr_nil _ _ _ (fun q i e=>(hk x q i e).2.2 ho) (fun q i e=>?_)
    simp only [liveO,ob_other h0 ((hk x q i e).2.2 ho),Option.isSome_map]
  · rename_i S T x ho
    rw [ho] at hr
    rw [app_ev (rd_ne hr x (by simp))];exact scr_cvt _ _ _
  · rename_i T x lo hi mx ho
    rw [ho] at hr
    have e1:lo.map (ev N (e0.app d0 s))=(lo.map (ev N s)).map (scrub e0.kb e0.ko):=by
      cases lo with
      | none=>rfl
      | some y=>simp only [Option.map_some];rw [app_ev (rd_ne hr y (by simp))]
    have e2:hi.map (ev N (e0.app d0 s))=(hi.map (ev N s)).map (scrub e0.kb e0.ko):=by
      cases hi with
      | none=>rfl
      | some y=>simp only [Option.map_some];rw [app_ev (rd_ne hr y (by simp))]
    rw [app_ev (rd_ne hr x (by simp)),e1,e2];exact scr_slice ty T _ _ _ mx
  · rename_i T x ix ho
    rw [ho] at hr
    rw [app_ev (rd_ne hr x (by simp)),app_ev (rd_ne hr ix (by simp))];exact scr_index _ _ _
  · rename_i T parts ho
    rw [ho] at hr
    rw [app_prts (rd_ne hr)];exact scr_build _ _ _
  · rfl
theorem inert_zero:∀ {l:List AV} {us:List Value},ZeroOK l us→∀ fb fo,scrubs fb fo l=l
  | [],_,_,_,_=>rfl
  | x :: l,us,h,fb,fo=>by
    obtain ⟨u,v,_,h1,_,h3⟩:=h
    simp only [scrubs,h1.2 fb fo,inert_zero h3 fb fo]
theorem inert_d (m:List DV) (fb fo:Nat→Bool):scrubs fb fo (m.map .d)=m.map .d:=by
  induction m with
  | nil=>rfl
  | cons x m ih=>simp only [List.map_cons,scrubs,ih];rfl
theorem oE_scr {d:Nat} {l:List AV} {fb fo:Nat→Bool} (hl:∀ fb fo,scrubs fb fo l=l) (hd:fo d=true):(oE d l).scr fb fo=oE d l:=by
  simp only [oE,Eff.scr,Option.map_some,Option.map_none,hl,scrub,if_pos hd]
theorem bE_scr {g b k:Nat} {T:TypeId} {l:List DV} {fb fo:Nat→Bool} (hd:fb b=true):(bE g (.buf b T k l)).scr fb fo=bE g (.buf b T k l):=by
  simp only [bE,Eff.scr,Option.map_none,scrub,if_pos hd]
theorem ko_of {d:Nat} (h:e0.no ≠ some d):e0.ko d=true:=by
  simp only [Eff.ko]
  cases hn:e0.no with
  | none=>rfl
  | some q=>rw [hn] at h;simpa using h
theorem kb_of {d:Nat} (h:e0.nb ≠ some d):e0.kb d=true:=by
  simp only [Eff.kb]
  cases hn:e0.nb with
  | none=>rfl
  | some q=>rw [hn] at h;simpa using h
theorem dOp_mem (ht:TabOK ty) (hcl:clsOp o.op=2) (hr:∀ t∈rdOp o.op,d0 ≠ some t) (h0:Quiet0 e0 s) (hd:∀ d,o.dst=some d→e0.no ≠ some d∧e0.nb ≠ some d) {c:Prop} {e:Eff} :
    (dOp ty N o s=some (c,e)→c→(∀ g,e.nb=some g→e0.nb ≠ some g)→∃ c',dOp ty N o (e0.app d0 s)=some (c',e.scr e0.kb e0.ko)∧c') ∧
    (dOp ty N o (e0.app d0 s)=some (c,e)→c→∃ c' e',dOp ty N o s=some (c',e')∧c'∧e=e'.scr e0.kb e0.ko∧∀ g,e'.nb=some g→e0.nb ≠ some g):=by
  unfold dOp
  split
  · rename_i ho;rw [ho] at hcl;simp [clsOp] at hcl
  · rename_i ho;rw [ho] at hcl;simp [clsOp] at hcl
  · rename_i ho;rw [ho] at hcl;simp [clsOp] at hcl
  · rename_i ho;rw [ho] at hcl;simp [clsOp] at hcl
  · rename_i ho;rw [ho] at hcl;simp [clsOp] at hcl
  · rename_i ho;rw [ho] at hcl;simp [clsOp] at hcl
  · rename_i ho;rw [ho] at hcl;simp [clsOp] at hcl
  · rename_i ho;rw [ho] at hcl;simp [clsOp] at hcl
  · rename_i ho;rw [ho] at hcl;simp [clsOp] at hcl
  · rename_i ho;rw [ho] at hcl;simp [clsOp] at hcl
  · rename_i T ho
    unfold dAlloc
    split
    · rename_i d i hdst hi
      have hko:=ko_of (hd d hdst).1
      obtain ⟨_,_,_,_,_,_,hz,_⟩:=(ht T i hi).info
      have hob:=ob_other (d0:=d0) h0 hko
      refine ⟨fun h hc _=>?_,fun h hc=>?_⟩
      · simp only [Option.some.injEq,Prod.mk.injEq] at h
        obtain ⟨rfl,rfl⟩:=h
        rw [oE_scr (inert_zero hz) hko]
        exact ⟨_,rfl,hc.1,by rw [hob,hc.2];rfl⟩
      · simp only [Option.some.injEq,Prod.mk.injEq] at h
        obtain ⟨rfl,rfl⟩:=h
        refine ⟨_,_,rfl,⟨hc.1,?_⟩,(oE_scr (inert_zero hz) hko).symm,fun g hg=>(by cases hg)⟩
        have h2:=hc.2
        rw [hob] at h2
        cases hx:s.ob d with
        | none=>rfl
        | some l=>rw [hx] at h2;cases h2
    · exact ⟨fun h=>(by cases h),fun h=>(by cases h)⟩
  · rename_i T x ho
    rw [ho] at hr
    rw [app_ev (rd_ne hr x (by simp))]
    cases hdst:o.dst with
    | none=>exact ⟨fun h=>(by cases h),fun h=>(by cases h)⟩
    | some d =>
      have hko:=ko_of (hd d hdst).1
      have hob:=ob_other (d0:=d0) h0 hko
      have hiff:∀ m,scrub e0.kb e0.ko (ev N s x)=.d (.agg m)↔ev N s x=.d (.agg m):=fun m=>by
        cases ev N s x with
        | buf g T k l=>simp only [scrub];by_cases hb:e0.kb g=true;(rw [if_pos hb]);(rw [if_neg hb];simp)
        | ptr q i=>simp only [scrub];by_cases hb:e0.ko q=true;(rw [if_pos hb]);(rw [if_neg hb];simp)
        | arr q i k=>simp only [scrub];by_cases hb:e0.ko q=true;(rw [if_pos hb]);(rw [if_neg hb];simp)
        | tup l=>simp [scrub]
        | st l=>simp [scrub]
        | fn f l=>simp [scrub]
        | _=>rfl
      refine ⟨fun h hc _=>?_,fun h hc=>?_⟩
      · unfold dBox at h
        split at h
        · rename_i d' m h1 h2
          simp only [Option.some.injEq,Prod.mk.injEq] at h h1
          obtain ⟨rfl,rfl⟩:=h
          subst h1
          rw [oE_scr (inert_d m) hko,(hiff m).2 h2]
          exact ⟨_,rfl,hc.1,hc.2.1,by rw [hob,hc.2.2];rfl⟩
        · cases h
      · unfold dBox at h
        split at h
        · rename_i d' m h1 h2
          simp only [Option.some.injEq,Prod.mk.injEq] at h h1
          obtain ⟨rfl,rfl⟩:=h
          subst h1
          rw [(hiff m).1 h2]
          refine ⟨_,_,rfl,⟨hc.1,hc.2.1,?_⟩,(oE_scr (inert_d m) hko).symm,fun g hg=>(by cases hg)⟩
          have h3:=hc.2.2
          rw [hob] at h3
          cases hx:s.ob d with
          | none=>rfl
          | some l=>rw [hx] at h3;cases h3
        · cases h
  · rename_i T len parts ho
    rw [ho] at hr
    rw [app_evs (rd_ne hr)]
    unfold dBuildSlice
    split
    · rename_i d e' hdst hkd
      split
      · rename_i i hi
        by_cases hw:i.wh=false
        case neg=>rw [if_neg hw,if_neg hw];exact ⟨fun h=>(by cases h),fun h=>(by cases h)⟩
        rw [if_pos hw,if_pos hw,toDVs_scr]
        have hkb:=kb_of (hd d hdst).2
        cases toDVs false (evs N s (parts.toList.map (·.2))) with
        | none=>exact ⟨fun h=>(by cases h),fun h=>(by cases h)⟩
        | some m =>
          simp only [Option.map_some]
          refine ⟨fun h hc _=>?_,fun h hc=>?_⟩
          · simp only [Option.some.injEq,Prod.mk.injEq] at h
            obtain ⟨rfl,rfl⟩:=h
            rw [bE_scr hkb];exact ⟨_,rfl,hc⟩
          · simp only [Option.some.injEq,Prod.mk.injEq] at h
            obtain ⟨rfl,rfl⟩:=h
            exact ⟨_,_,rfl,hc,(bE_scr hkb).symm,fun g hg=>by cases hg;exact (hd d hdst).2⟩
      · exact ⟨fun h=>(by cases h),fun h=>(by cases h)⟩
    · exact ⟨fun h=>(by cases h),fun h=>(by cases h)⟩
  · rename_i c0 ho
    rw [ho] at hr hcl
    split
    · rename_i hc;simp [clsOp,hc] at hcl
    · rename_i hc
      split
      · rename_i x y T T' h1 h2
        rw [app_ev (rd_ne hr x (by rw [h1];simp)),app_ev (rd_ne hr y (by rw [h1];simp))]
        unfold dAppend
        split
        · rename_i d e' hdst hkd
          split
          · rename_i i hi
            rw [addA_scr]
            split
            · rename_i l' hl'
              cases hx:ev N s x with
              | buf g Te k l =>
                simp only [scrub]
                by_cases hb:e0.kb g=true
                · rw [if_pos hb]
                  refine ⟨fun h hc _=>?_,fun h hc=>?_⟩
                  · simp only [Option.some.injEq,Prod.mk.injEq] at h
                    obtain ⟨rfl,rfl⟩:=h
                    rw [bE_scr hb];exact ⟨_,rfl,hc⟩
                  · simp only [Option.some.injEq,Prod.mk.injEq] at h
                    obtain ⟨rfl,rfl⟩:=h
                    refine ⟨_,_,rfl,hc,(bE_scr hb).symm,fun g' hg e=>?_⟩
                    cases hg
                    simp only [Eff.kb,e] at hb
                    simp at hb
                · rw [if_neg hb]
                  refine ⟨fun h hc hg=>?_,fun h hc=>(by cases h)⟩
                  simp only [Option.some.injEq,Prod.mk.injEq] at h
                  obtain ⟨rfl,rfl⟩:=h
                  exact absurd (kb_of (hg g rfl)) hb
              | nil =>
                simp only [scrub]
                have hkb:=kb_of (hd d hdst).2
                refine ⟨fun h hc _=>?_,fun h hc=>?_⟩
                · simp only [Option.some.injEq,Prod.mk.injEq] at h
                  obtain ⟨rfl,rfl⟩:=h
                  rw [bE_scr hkb];exact ⟨_,rfl,hc⟩
                · simp only [Option.some.injEq,Prod.mk.injEq] at h
                  obtain ⟨rfl,rfl⟩:=h
                  exact ⟨_,_,rfl,hc,(bE_scr hkb).symm,fun g hg=>by cases hg;exact (hd d hdst).2⟩
              | ptr q i =>
                simp only [scrub]
                by_cases hb:e0.ko q=true
                · rw [if_pos hb];exact ⟨fun h=>(by cases h),fun h=>(by cases h)⟩
                · rw [if_neg hb];exact ⟨fun h=>(by cases h),fun h=>(by cases h)⟩
              | arr q i n =>
                simp only [scrub]
                by_cases hb:e0.ko q=true
                · rw [if_pos hb];exact ⟨fun h=>(by cases h),fun h=>(by cases h)⟩
                · rw [if_neg hb];exact ⟨fun h=>(by cases h),fun h=>(by cases h)⟩
              | _=>exact ⟨fun h=>(by cases h),fun h=>(by cases h)⟩
            · exact ⟨fun h=>(by cases h),fun h=>(by cases h)⟩
          · exact ⟨fun h=>(by cases h),fun h=>(by cases h)⟩
        · exact ⟨fun h=>(by cases h),fun h=>(by cases h)⟩
      · exact ⟨fun h=>(by cases h),fun h=>(by cases h)⟩
    · rename_i hc;simp [clsOp,hc] at hcl
    · rename_i hc;simp [clsOp,hc] at hcl
    · exact ⟨fun h=>(by cases h),fun h=>(by cases h)⟩
  · rename_i ho;rw [ho] at hcl;simp [clsOp] at hcl
  · rename_i ho;rw [ho] at hcl;simp [clsOp] at hcl
  · rename_i ho;rw [ho] at hcl;simp [clsOp] at hcl
  · rename_i ho;rw [ho] at hcl;simp [clsOp] at hcl
  · rename_i ho;rw [ho] at hcl;simp [clsOp] at hcl
  · exact ⟨fun h=>(by cases h),fun h=>(by cases h)⟩
end
mutual
theorem scrub_comm {a b c d:Nat→Bool}:∀ x:AV,scrub a b (scrub c d x)=scrub c d (scrub a b x)
  | .junk=>rfl
  | .d _=>rfl
  | .nil=>rfl
  | .buf g T k l=>by
    simp only [scrub]
    by_cases h1:c g=true <;> by_cases h2:a g=true <;> simp [h1,h2,scrub]
  | .loc _=>rfl
  | .ptr o i=>by
    simp only [scrub]
    by_cases h1:d o=true <;> by_cases h2:b o=true <;> simp [h1,h2,scrub]
  | .arr o i n=>by
    simp only [scrub]
    by_cases h1:d o=true <;> by_cases h2:b o=true <;> simp [h1,h2,scrub]
  | .tup l=>by simp only [scrub,scrubs_comm l]
  | .st l=>by simp only [scrub,scrubs_comm l]
  | .fn f l=>by simp only [scrub,scrubs_comm l]
  | .any _=>rfl
  | .cst _=>rfl
theorem scrubs_comm {a b c d:Nat→Bool}:∀ l:List AV,scrubs a b (scrubs c d l)=scrubs c d (scrubs a b l)
  | []=>rfl
  | x :: l=>by simp only [scrubs,scrub_comm x,scrubs_comm l]
end
theorem app_comm {e0 e:Eff} {d0 d:Option Nat} {s:AS} (h0:e0.sq=none) (h:e.sq=none) (hn:∀ n,e0.no=some n→e.no ≠ some n) (hd:∀ t,d0=some t→d ≠ some t) :
    (e.scr e0.kb e0.ko).app d (e0.app d0 s)=(e0.scr e.kb e.ko).app d0 (e.app d s):=by
  have kb1:(e.scr e0.kb e0.ko).kb=e.kb:=rfl
  have ko1:(e.scr e0.kb e0.ko).ko=e.ko:=rfl
  have kb2:(e0.scr e.kb e.ko).kb=e0.kb:=rfl
  have ko2:(e0.scr e.kb e.ko).ko=e0.ko:=rfl
  have tmE:∀ (f:Eff) (dd:Option Nat) (s:AS) (t:Nat),(f.app dd s).tm t=if dd=some t then f.val else scrub f.kb f.ko (s.tm t):=by
    intro f dd s t
    cases dd with
    | none=>simp [Eff.app,AS.putD]
    | some q =>
      simp only [Eff.app,AS.putD,AS.put,Option.some.injEq]
      by_cases e1:t=q
      · subst e1;simp
      · rw [if_neg e1,if_neg (fun x=>e1 x.symm)]
  have key:∀ (x y:AS),(∀ t,x.tm t=y.tm t)→(∀ o,x.ob o=y.ob o)→x=y:=fun x y h1 h2=>by
    cases x;cases y;congr
    · funext t;exact h1 t
    · funext t;exact h2 t
  apply key
  · intro t
    simp only [tmE,kb1,ko1,kb2,ko2]
    by_cases e1:d=some t
    · have e2:d0 ≠ some t:=fun x=>hd t x e1
      rw [if_pos e1,if_neg e2,if_pos e1];rfl
    · rw [if_neg e1]
      by_cases e2:d0=some t
      · rw [if_pos e2,if_pos e2];rfl
      · rw [if_neg e2,if_neg e2,if_neg e1,scrub_comm]
  · intro o
    have hs1:(e.scr e0.kb e0.ko).sq=none:=by simp [Eff.scr,h]
    have hs2:(e0.scr e.kb e.ko).sq=none:=by simp [Eff.scr,h0]
    rw [app_ob,app_ob]
    simp only [Eff.ob,hs1,hs2,kb1,ko1,kb2,ko2]
    rw [app_ob,app_ob]
    simp only [Eff.ob,h,h0]
    have n1:(e.scr e0.kb e0.ko).no=e.no:=rfl
    have n2:(e0.scr e.kb e.ko).no=e0.no:=rfl
    rw [n1,n2]
    by_cases e1:e.no=some o
    · have e2:e0.no ≠ some o:=fun x=>hn o x e1
      rw [if_pos e1,if_neg e2,if_pos e1];rfl
    · rw [if_neg e1]
      by_cases e2:e0.no=some o
      · rw [if_pos e2,if_pos e2];rfl
      · rw [if_neg e2,if_neg e2,if_neg e1]
        simp only [Option.map_map]
        congr 1
        funext l
        exact scrubs_comm l
def inertA:AV→Bool
  | .any _=>true
  | _=>false
theorem inert_eq {x:AV} (h:inertA x=true):∃ P,x=.any P:=by cases x <;> first | exact ⟨_,rfl⟩ | cases h
theorem inerts_scr {fb fo:Nat→Bool}:∀ {l:List AV},l.all inertA=true→scrubs fb fo l=l
  | [],_=>rfl
  | x :: l,h=>by
    simp only [List.all_cons,Bool.and_eq_true] at h
    obtain ⟨P,rfl⟩:=inert_eq h.1
    simp only [scrubs,inerts_scr h.2];rfl
theorem inerts_ren {ns:List Nat} {d:Nat}:∀ {l:List AV},l.all inertA=true→renAs ns d l=l
  | [],_=>rfl
  | x :: l,h=>by
    simp only [List.all_cons,Bool.and_eq_true] at h
    obtain ⟨P,rfl⟩:=inert_eq h.1
    simp only [renAs,inerts_ren h.2];rfl
theorem scrub_any {fb fo:Nat→Bool} {x:AV} {P:DV→Prop} (h:scrub fb fo x=.any P):x=.any P:=by
  cases x <;> simp only [scrub] at h <;> (try split at h) <;> first | exact h | cases h
theorem scrubs_any {fb fo:Nat→Bool}:∀ {l m:List AV},m.all inertA=true→scrubs fb fo l=m→l=m
  | [],_,_,h=>h
  | x :: l,m,hm,h=>by
    simp only [scrubs] at h
    subst h
    simp only [List.all_cons,Bool.and_eq_true] at hm
    obtain ⟨P,e⟩:=inert_eq hm.1
    rw [e,scrub_any e,← scrubs_any hm.2 rfl]
theorem scrub_ptr {fb fo:Nat→Bool} {x:AV} {o j:Nat} (h:scrub fb fo x=.ptr o j):fo o=true:=by
  cases x <;> simp only [scrub] at h <;> (try split at h) <;> first | (cases h;assumption) | cases h
theorem inerts_sub {ns:List Nat}:∀ {l:List AV},l.all inertA=true→ASubs ns l l
  | [],_=>.nil
  | x :: l,h=>by
    simp only [List.all_cons,Bool.and_eq_true] at h
    obtain ⟨P,rfl⟩:=inert_eq h.1
    exact .cons (.any P) (inerts_sub h.2)
def Lent1 (s:AS) (d:Nat) (ns:List Nat) (os0:List (List AV)) (args:List AV):Prop:=(ns=[]∧os0=[])∨∃ q l,ns=[q]∧os0=[l]∧q ≠ d∧s.ob q=some l∧l.all inertA=true∧∃ j,AV.ptr 0 j∈args
def cE (ns:List Nat) (d:Nat) (r:AV) (ext:List (List AV)):Eff:=⟨some d,some d,(ext[0]?).map (renAs ns d),none,renA ns d r⟩
theorem cE_app {ns:List Nat} {os0:List (List AV)} {args:List AV} (d:Nat) (r:AV) (ext:List (List AV)) (s:AS) (hln:Lent1 s d ns os0 args):(cE ns d r ext).app (some d) s=(s.call ns d (os0 ++ ext)).put d (renA ns d r):=by
  have hk:(cE ns d r ext).kb=fun g=>!(g == d):=by
    funext o
    show (!(some d == some o)) = !(o == d)
    by_cases e:o=d
    · subst e;simp
    · have e2:¬ d=o:=fun h=>e h.symm
      rw [show (o == d)=false by simpa using e,show (some d == some o)=false by simpa using e2]
  have ho:(cE ns d r ext).ko=fun g=>!(g == d):=hk
  unfold Eff.app AS.call
  rw [hk,ho]
  simp only [AS.putD,AS.put]
  congr 1
  funext o
  have hno:(cE ns d r ext).no=some d:=rfl
  have hsq:(cE ns d r ext).sq=none:=rfl
  simp only [Eff.ob,hk,ho,hno,hsq]
  rcases hln with ⟨rfl,rfl⟩ | ⟨q,l,rfl,rfl,hqd,hob,hi,_⟩
  · by_cases e:o=d
    · subst e;simp [cE]
    · rw [if_neg (by simpa using fun x=>e x.symm),if_neg e]
      simp only [obSel]
  · by_cases e:o=d
    · subst e;simp [cE]
    · rw [if_neg (by simpa using fun x=>e x.symm),if_neg e]
      by_cases e2:o=q
      · subst e2
        simp only [List.cons_append,List.nil_append,obSel,if_true,hob,Option.map_some,inerts_scr hi,inerts_ren hi]
      · simp only [List.cons_append,List.nil_append,obSel,if_neg e2]
mutual
theorem renA_inert {ns:List Nat} {d:Nat} {fb fo:Nat→Bool} (hn:∀ q∈ns,fo q=true) (hb:fb d=true) (ho:fo d=true):∀ x:AV,scrub fb fo (renA ns d x)=renA ns d x
  | .junk=>rfl
  | .d _=>rfl
  | .nil=>rfl
  | .buf g T k l=>by
    simp only [renA]
    split
    · simp only [scrub,if_pos hb]
    · rfl
  | .loc _=>rfl
  | .ptr o i=>by
    simp only [renA]
    split
    · rename_i h
      have:ns.getD o 0∈ns:=by rw [List.getD_eq_getElem?_getD,List.getElem?_eq_getElem h];exact List.getElem_mem h
      simp only [scrub,if_pos (hn _ this)]
    · split
      · simp only [scrub,if_pos ho]
      · rfl
  | .arr o i n=>by
    simp only [renA]
    split
    · rename_i h
      have:ns.getD o 0∈ns:=by rw [List.getD_eq_getElem?_getD,List.getElem?_eq_getElem h];exact List.getElem_mem h
      simp only [scrub,if_pos (hn _ this)]
    · split
      · simp only [scrub,if_pos ho]
      · rfl
  | .tup l=>by simp only [renA,scrub,renAs_inert hn hb ho l]
  | .st l=>by simp only [renA,scrub,renAs_inert hn hb ho l]
  | .fn f l=>by simp only [renA,scrub,renAs_inert hn hb ho l]
  | .any _=>rfl
  | .cst _=>rfl
theorem renAs_inert {ns:List Nat} {d:Nat} {fb fo:Nat→Bool} (hn:∀ q∈ns,fo q=true) (hb:fb d=true) (ho:fo d=true):∀ l:List AV,scrubs fb fo (renAs ns d l)=renAs ns d l
  | []=>rfl
  | x :: l=>by simp only [renAs,scrubs,renA_inert hn hb ho x,renAs_inert hn hb ho l]
end
theorem cE_scr {ns:List Nat} {d:Nat} {r:AV} {ext:List (List AV)} {fb fo:Nat→Bool} (hn:∀ q∈ns,fo q=true) (hb:fb d=true) (ho:fo d=true):(cE ns d r ext).scr fb fo=cE ns d r ext:=by
  simp only [cE,Eff.scr,Option.map_none,renA_inert hn hb ho,Option.map_map]
  congr 1
  cases ext[0]? with
  | none=>rfl
  | some l=>simp only [Option.map_some,Function.comp,renAs_inert hn hb ho]
theorem asub_fwd {ns:List Nat} {fb fo:Nat→Bool} {x y:AV} (hn:∀ q∈ns,fo q=true) (h:ASub ns x y):ASub ns (scrub fb fo x) y:=by
  cases h with
  | d x=>exact .d x
  | dd h=>exact .dd h
  | nil k=>exact .nil k
  | nn=>exact .nn
  | buf g T k l =>
    simp only [scrub]
    by_cases e:fb g=true
    · rw [if_pos e];exact .buf g T k l
    · rw [if_neg e];exact .d _
  | bufd g T h =>
    simp only [scrub]
    by_cases e:fb g=true
    · rw [if_pos e];exact .bufd g T h
    · rw [if_neg e];exact .dd h
  | ptr o i j h=>simp only [scrub];rw [if_pos (hn o (List.mem_of_getElem? h))];exact .ptr o i j h
  | arr o i k n h=>simp only [scrub];rw [if_pos (hn o (List.mem_of_getElem? h))];exact .arr o i k n h
  | loc l=>exact .loc l
  | any P=>exact .any P
  | std hm h=>exact .std (by rw [toDVs_scr];exact hm) h
theorem asub_bwd {ns:List Nat} {fb fo:Nat→Bool} {x y:AV} (h:ASub ns (scrub fb fo x) y):ASub ns x y:=by
  cases x with
  | buf g T k l =>
    simp only [scrub] at h
    by_cases e:fb g=true
    · rw [if_pos e] at h;exact h
    · rw [if_neg e] at h
      cases h with
      | d=>exact .buf g T k l
      | dd h=>exact .bufd g T h
  | ptr o i =>
    simp only [scrub] at h
    by_cases e:fo o=true
    · rw [if_pos e] at h;exact h
    · rw [if_neg e] at h;cases h
  | arr o i n =>
    simp only [scrub] at h
    by_cases e:fo o=true
    · rw [if_pos e] at h;exact h
    · rw [if_neg e] at h;cases h
  | tup l=>simp only [scrub] at h;cases h
  | st l=>simp only [scrub] at h;cases h with | std hm h=>exact .std (by rw [toDVs_scr] at hm;exact hm) h
  | fn f l=>simp only [scrub] at h;cases h
  | _=>exact h
theorem asubs_fwd {ns:List Nat} {fb fo:Nat→Bool} (hn:∀ q∈ns,fo q=true):∀ {l m:List AV},ASubs ns l m→ASubs ns (scrubs fb fo l) m
  | [],m,h=>h
  | x :: l,m,h=>by cases h with | cons h hh=>exact .cons (asub_fwd hn h) (asubs_fwd hn hh)
theorem asubs_bwd {ns:List Nat} {fb fo:Nat→Bool}:∀ {l m:List AV},ASubs ns (scrubs fb fo l) m→ASubs ns l m
  | [],m,h=>h
  | x :: l,m,h=>by cases h with | cons h hh=>exact .cons (asub_bwd h) (asubs_bwd hh)
theorem asubs_ko {q j:Nat} {fb fo:Nat→Bool}:∀ {l m:List AV},ASubs [q] (scrubs fb fo l) m→AV.ptr 0 j∈m→fo q=true
  | [],m,h,hm=>by cases h;cases hm
  | x :: l,m,h,hm=>by
    simp only [scrubs] at h
    generalize hx:scrub fb fo x=x' at h
    cases h with
    | cons h hh =>
      rcases List.mem_cons.1 hm with hm | hm
      · subst hm
        cases h with
        | ptr o i j h=>simp at h;subst h;exact scrub_ptr hx
      · exact asubs_ko hh hm
theorem Lent1.ko {s:AS} {d:Nat} {ns:List Nat} {os0:List (List AV)} {args:List AV} (h:Lent1 s d ns os0 args) {e0:Eff} (h0:Quiet0 e0 s):∀ q∈ns,e0.ko q=true:=by
  intro q hq
  rcases h with ⟨rfl,_⟩ | ⟨q',l,rfl,_,_,hob,_⟩
  · cases hq
  · obtain rfl:=List.mem_singleton.1 hq
    exact ko_of (fun e=>by have:=h0.fresh q e;rw [this] at hob;cases hob)
theorem Lent1.fwd {s:AS} {d:Nat} {ns:List Nat} {os0:List (List AV)} {args:List AV} (h:Lent1 s d ns os0 args) {e0:Eff} {d0:Option Nat} (h0:Quiet0 e0 s):Lent1 (e0.app d0 s) d ns os0 args:=by
  have hk:=h.ko h0
  rcases h with h | ⟨q,l,rfl,h2,h3,hob,hi,h6⟩
  · exact .inl h
  · exact .inr ⟨q,l,rfl,h2,h3,by rw [ob_other h0 (hk q (by simp)),hob,Option.map_some,inerts_scr hi],hi,h6⟩
theorem Lent1.bwd {s:AS} {d:Nat} {ns:List Nat} {os0:List (List AV)} {args:List AV} {e0:Eff} {d0:Option Nat} (h:Lent1 (e0.app d0 s) d ns os0 args) (h0:Quiet0 e0 s) (hk:∀ q∈ns,e0.ko q=true):Lent1 s d ns os0 args:=by
  rcases h with h | ⟨q,l,rfl,h2,h3,hob,hi,h6⟩
  · exact .inl h
  · refine .inr ⟨q,l,rfl,h2,h3,?_,hi,h6⟩
    rw [ob_other h0 (hk q (by simp))] at hob
    cases hx:s.ob q with
    | none=>rw [hx] at hob;cases hob
    | some l0=>rw [hx] at hob;simp only [Option.map_some,Option.some.injEq] at hob;rw [scrubs_any hi hob]
section
variable (ty:TypeId→Option TyI) (N:Nat)
def OS (o:Oper) (s:AS) (V:Eff→Prop):Prop :=
  if clsOp o.op=4 then ∃ d c g ns os0 args R,o.op=.call c∧c.callee=.value (.func g)∧o.dst=some d∧d<1000000∧s.ob d=none∧Lent1 s d ns os0 args∧ASubs ns (evs N s c.args.toList) args∧AFn g args os0 R∧(∃ r os,R r os)∧(∀ r os,R r os→∃ ext,os=os0 ++ ext∧ext.length≤1) ∧
    V=fun e=>∃ r ext,R r (os0 ++ ext)∧e=cE ns d r ext
  else ∃ c e,dOp ty N o s=some (c,e)∧c∧V=fun e'=>e'=e
def OSG (ops:List Oper) (o:Oper) (s:AS) (V:Eff→Prop):Prop:=match o.guard with
  | none=>OS ty N o s V
  | some (j,want)=>∃ t b,(ops[j]?).bind (·.dst)=some t∧t<N∧s.tm t=.d (.bool b)∧(b=want→OS ty N o s V)∧(b ≠ want→V=fun e=>e=pE .junk)
def stepD (ops:List Oper) (fl:List Nat) (o:Oper) (s:AS) (K:AS→Prop):Prop :=
  ∃ V,OSG ty N ops o s V∧(∃ e,V e)∧∀ e,V e→(∀ g,e.nb=some g→some g=o.dst∨g ∉ fl)∧K (e.app o.dst s)
end
def rdG (ops:List Oper) (o:Oper):List Nat:=rdOp o.op ++ match o.guard with
  | none=>[]
  | some (j,_)=>((ops[j]?).bind (·.dst)).toList
section
variable {ty:TypeId→Option TyI} {N:Nat} {ops:List Oper} {o:Oper} {s:AS} {V:Eff→Prop} {e0:Eff} {d0:Option Nat}
theorem tm_app {t:Nat} (h:d0 ≠ some t):(e0.app d0 s).tm t=scrub e0.kb e0.ko (s.tm t):=by
  cases d0 with
  | none=>rfl
  | some q =>
    simp only [Eff.app,AS.putD,AS.put]
    rw [if_neg (fun e=>h (by rw [e]))]
theorem bool_scr {fb fo:Nat→Bool} {x:AV} {b:Bool}:scrub fb fo x=.d (.bool b)↔x=.d (.bool b):=by
  have h:=sclr_scr fb fo x
  constructor
  · intro e;rw [e] at h;exact sclr_ok h.symm
  · rintro rfl;rfl
theorem OSG.wf (h:OSG ty N ops o s V) (hc:clsOp o.op ≠ 3) {e:Eff} (he:V e):e.sq=none∧(∀ d,e.no=some d→o.dst=some d∧s.ob d=none)∧(clsOp o.op≤1→e.nb=none∧e.no=none):=by
  have hOS:OS ty N o s V→e.sq=none∧(∀ d,e.no=some d→o.dst=some d∧s.ob d=none)∧(clsOp o.op≤1→e.nb=none∧e.no=none):=by
    intro h
    unfold OS at h
    split at h
    · rename_i h4
      obtain ⟨d,c,g,ns,os0,args,R,_,_,hd,_,hob,_,_,_,_,_,rfl⟩:=h
      obtain ⟨r,os,_,rfl⟩:=he
      exact ⟨rfl,fun q hq=>by cases hq;exact ⟨hd,hob⟩,fun hle=>by omega⟩
    · obtain ⟨c,e',h1,hc',rfl⟩:=h
      obtain rfl:=he
      have pP:∀ {x:Option (Prop×Eff)},x=some (c,e)→(∀ c e,x=some (c,e)→∃ v,e=pE v)→e.sq=none∧(∀ d,e.no=some d→o.dst=some d∧s.ob d=none)∧(clsOp o.op≤1→e.nb=none∧e.no=none):=fun hx hp=>by
        obtain ⟨v,rfl⟩:=hp _ _ hx
        exact ⟨rfl,fun d hd=>(by cases hd),fun _=>⟨rfl,rfl⟩⟩
      unfold dOp at h1
      split at h1
      · exact pP h1 (fun c e h=>by cases h;exact ⟨_,rfl⟩)
      · exact pP h1 (fun c e h=>by cases h;exact ⟨_,rfl⟩)
      · refine pP h1 (fun c e h=>?_)
        unfold dPick at h
        split at h
        · cases h;exact ⟨_,rfl⟩
        · cases h
      · refine pP h1 (fun c e h=>?_)
        unfold dBin dBinI dBinB dBinS dBinL dBinG dShr at h
        (repeat' split at h) <;> first | (cases h;exact ⟨_,rfl⟩) | cases h
      · refine pP h1 (fun c e h=>?_)
        unfold dUn at h
        split at h <;> first | (cases h;exact ⟨_,rfl⟩) | cases h
      · refine pP h1 (fun c e h=>?_)
        unfold dExtract at h
        split at h
        · rename_i l _
          rename_i i _ _ _
          simp only [Option.map_eq_some_iff,Prod.mk.injEq] at h
          obtain ⟨a,_,_,rfl⟩:=h
          exact ⟨_,rfl⟩
        · cases h
      · refine pP h1 (fun c e h=>?_)
        unfold dFieldAddr at h
        (repeat' split at h) <;> first | (cases h;exact ⟨_,rfl⟩) | cases h
      · refine pP h1 (fun c e h=>?_)
        unfold dIndexAddr dIxD at h
        (repeat' split at h) <;> first | (cases h;exact ⟨_,rfl⟩) | cases h
      · refine pP h1 (fun c e h=>?_)
        unfold dLoad at h
        (repeat' split at h) <;> first | (cases h;exact ⟨_,rfl⟩) | cases h | (simp only [Option.map_eq_some_iff,Prod.mk.injEq] at h;obtain ⟨a,_,_,rfl⟩:=h;exact ⟨_,rfl⟩)
      · rename_i ho;rw [ho] at hc;exact absurd rfl hc
      · rename_i T ho
        have hn:¬ clsOp o.op≤1:=by rw [ho];simp [clsOp]
        unfold dAlloc at h1
        split at h1
        · rename_i d i hdst hi
          simp only [Option.some.injEq,Prod.mk.injEq] at h1
          obtain ⟨rfl,rfl⟩:=h1
          exact ⟨rfl,fun q hq=>by cases hq;exact ⟨hdst,hc'.2⟩,fun hle=>absurd hle hn⟩
        · cases h1
      · rename_i T x ho
        have hn:¬ clsOp o.op≤1:=by rw [ho];simp [clsOp]
        unfold dBox at h1
        split at h1
        · rename_i d m hdst hi
          simp only [Option.some.injEq,Prod.mk.injEq] at h1
          obtain ⟨rfl,rfl⟩:=h1
          exact ⟨rfl,fun q hq=>by cases hq;exact ⟨hdst,hc'.2.2⟩,fun hle=>absurd hle hn⟩
        · cases h1
      · rename_i T len parts ho
        have hn:¬ clsOp o.op≤1:=by rw [ho];simp [clsOp]
        unfold dBuildSlice at h1
        (repeat' split at h1) <;> first | cases h1 | skip
        simp only [Option.map_eq_some_iff,Prod.mk.injEq] at h1
        obtain ⟨a,_,_,rfl⟩:=h1
        exact ⟨rfl,fun q hq=>(by cases hq),fun hle=>absurd hle hn⟩
      · rename_i c0 ho
        split at h1
        · rename_i hcal
          split at h1
          · refine pP h1 (fun c e h=>?_)
            unfold dLen at h
            (repeat' split at h) <;> first | (cases h;exact ⟨_,rfl⟩) | cases h | (simp only [Option.map_eq_some_iff,Prod.mk.injEq] at h;obtain ⟨a,_,_,rfl⟩:=h;exact ⟨_,rfl⟩)
          · cases h1
        · rename_i hcal
          have hn:¬ clsOp o.op≤1:=by rw [ho];simp [clsOp,hcal]
          split at h1
          · unfold dAppend at h1
            (repeat' split at h1) <;> first | (cases h1;exact ⟨rfl,fun q hq=>(by cases hq),fun hle=>absurd hle hn⟩) | cases h1
          · cases h1
        · split at h1
          · refine pP h1 (fun c e h=>?_)
            unfold dMM at h
            split at h <;> first | (cases h;exact ⟨_,rfl⟩) | cases h
          · cases h1
        · split at h1
          · refine pP h1 (fun c e h=>?_)
            unfold dMM at h
            split at h <;> first | (cases h;exact ⟨_,rfl⟩) | cases h
          · cases h1
        · cases h1
      · refine pP h1 (fun c e h=>?_)
        unfold dNil at h
        split at h <;> first | (cases h;exact ⟨_,rfl⟩) | cases h
      · refine pP h1 (fun c e h=>?_)
        unfold dCvt at h
        split at h <;> first | (cases h;exact ⟨_,rfl⟩) | cases h
      · refine pP h1 (fun c e h=>?_)
        unfold dSlice dSlc dSlcB dSlcS at h
        (repeat' split at h) <;> first | (cases h;exact ⟨_,rfl⟩) | cases h
      · refine pP h1 (fun c e h=>?_)
        unfold dIndex at h
        (repeat' split at h) <;> first | (cases h;exact ⟨_,rfl⟩) | cases h
      · refine pP h1 (fun c e h=>?_)
        unfold dBuild dBldI dBldQ dBldM at h
        (repeat' split at h) <;> first | (cases h;exact ⟨_,rfl⟩) | cases h
      · cases h1
  unfold OSG at h
  split at h
  · exact hOS h
  · rename_i j want hg
    obtain ⟨t,b,_,_,_,h5,h6⟩:=h
    by_cases e1:b=want
    · exact hOS (h5 e1)
    · have:=h6 e1
      subst this
      obtain rfl:=he
      exact ⟨rfl,fun d hd=>(by cases hd),fun _=>⟨rfl,rfl⟩⟩
theorem scr_id {e:Eff} {fb fo:Nat→Bool} (hb:∀ g,fb g=true) (ho:∀ q,fo q=true):e.scr fb fo=e:=by
  have h1:∀ l,scrubs fb fo l=l:=scrubs_all hb ho
  cases e with
  | mk nb no ol sq val =>
    simp only [Eff.scr,scrub_all hb ho]
    congr 1
    · cases ol with
      | none=>rfl
      | some l=>simp only [Option.map_some,h1]
    · cases sq with
      | none=>rfl
      | some p=>simp only [Option.map_some,h1]
theorem plain_k (hb:e0.nb=none) (ho:e0.no=none):(∀ g,e0.kb g=true)∧∀ q,e0.ko q=true:=⟨fun g=>kb_of (by rw [hb];exact fun x=>(by cases x)),fun q=>ko_of (by rw [ho];exact fun x=>(by cases x))⟩
theorem fa_junk {live:Nat→Bool} {T:TypeId} {f:Nat}:dFieldAddr ty live T f .junk=none:=by
  unfold dFieldAddr
  (repeat' split) <;> first | rfl | (rename_i h;cases h)
theorem ia_junk {live:Nat→Bool} {T:TypeId} {ix:AV}:dIndexAddr ty live T .junk ix=none:=by
  unfold dIndexAddr
  (repeat' split) <;> first | rfl | (rename_i h;cases h)
theorem ia_live {live:Nat→Bool} {T:TypeId} {q k n:Nat} {ix:AV} {c:Prop} {e:Eff} (h:dIndexAddr ty live T (.arr q k n) ix=some (c,e)) (hc:c):live q=true:=by
  unfold dIndexAddr at h
  split at h
  · split at h
    · simp only [Option.some.injEq,Prod.mk.injEq] at h
      obtain ⟨rfl,_⟩:=h
      exact hc.2.2.2
    · cases h
  · cases h
theorem ld_junk {ob:Nat→Option (List AV)} {T:TypeId}:dLoad ty ob T .junk=none:=by
  unfold dLoad
  cases ty T <;> rfl
theorem fa_live {live:Nat→Bool} {T:TypeId} {f q i:Nat} {c:Prop} {e:Eff} (h:dFieldAddr ty live T f (.ptr q i)=some (c,e)) (hc:c):live q=true:=by
  unfold dFieldAddr at h
  split at h
  · split at h
    · split at h
      · simp only [Option.some.injEq,Prod.mk.injEq] at h
        obtain ⟨rfl,_⟩:=h
        exact hc.2
      · cases h
    · cases h
  · cases h
theorem ld_live {ob:Nat→Option (List AV)} {T:TypeId} {q r:Nat} {c:Prop} {e:Eff} (h:dLoad ty ob T (.ptr q r)=some (c,e)):ob q ≠ none:=by
  intro e1
  unfold dLoad at h
  split at h
  · simp only [e1] at h;cases h
  · cases h
theorem dOp_congr {s':AS} (h1:∀ x,(∀ t,x=.tmp t→t∈rdOp o.op)→ev N s' x=ev N s x) (h2:clsOp o.op=0∨s'.ob=s.ob) (h3:∀ q,(s'.ob q).isSome=(s.ob q).isSome):dOp ty N o s'=dOp ty N o s:=by
  have hl:liveO s'=liveO s:=by funext q;exact h3 q
  have hm:∀ {l:List Operand} {x:Operand},x∈l→(∀ t∈opTmps l,t∈rdOp o.op)→ev N s' x=ev N s x:=fun {l x} hx hh=>h1 x (fun t e=>hh t (List.mem_filterMap.2 ⟨x,hx,by rw [e]⟩))
  have hms:∀ {l m:List Operand},(∀ x∈m,x∈l)→(∀ t∈opTmps l,t∈rdOp o.op)→evs N s' m=evs N s m:=fun {l m} hx hh=>by
    induction m with
    | nil=>rfl
    | cons x m ih=>simp only [evs];rw [hm (hx x (List.mem_cons_self ..)) hh,ih (fun y hy=>hx y (List.mem_cons_of_mem _ hy))]
  unfold dOp
  split
  · rename_i x ho;rw [ho] at hm;rw [hm (l:=[x]) (by simp) (fun t h=>h)]
  · rename_i x ho;rw [ho] at hm;rw [hm (l:=[x]) (by simp) (fun t h=>h)]
  · rename_i c x y ho;rw [ho] at hm;rw [hm (l:=[c,x,y]) (by simp) (fun t h=>h),hm (l:=[c,x,y]) (by simp) (fun t h=>h),hm (l:=[c,x,y]) (by simp) (fun t h=>h)]
  · rename_i op T x y T' ho;rw [ho] at hm;rw [hm (l:=[x,y]) (by simp) (fun t h=>h),hm (l:=[x,y]) (by simp) (fun t h=>h)]
  · rename_i op T x ho;rw [ho] at hm;rw [hm (l:=[x]) (by simp) (fun t h=>h)]
  · rename_i x i ho;rw [ho] at hm;rw [hm (l:=[x]) (by simp) (fun t h=>h)]
  · rename_i T x f ho;rw [ho] at hm;rw [hm (l:=[x]) (by simp) (fun t h=>h),hl]
  · rename_i T x y ho;rw [ho] at hm;rw [hm (l:=[x,y]) (by simp) (fun t h=>h),hm (l:=[x,y]) (by simp) (fun t h=>h),hl]
  · rename_i T x ho
    rcases h2 with h2 | h2
    · rw [ho] at h2;cases h2
    · rw [ho] at hm;rw [hm (l:=[x]) (by simp) (fun t h=>h),h2]
  · rename_i T p x ho
    rcases h2 with h2 | h2
    · rw [ho] at h2;cases h2
    · rw [ho] at hm;rw [hm (l:=[p,x]) (by simp) (fun t h=>h),hm (l:=[p,x]) (by simp) (fun t h=>h),h2]
  · rename_i T ho
    rcases h2 with h2 | h2
    · rw [ho] at h2;cases h2
    · rw [h2]
  · rename_i T x ho
    rcases h2 with h2 | h2
    · rw [ho] at h2;cases h2
    · rw [ho] at hm;rw [hm (l:=[x]) (by simp) (fun t h=>h),h2]
  · rename_i T len parts ho
    rw [ho] at hms;rw [hms (l:=parts.toList.map (fun p:Nat×Operand=>p.2)) (fun x h=>h) (fun t h=>h)]
  · rename_i c ho
    rw [ho] at hm
    split
    · split
      · rename_i x T e1 e2;rw [hm (l:=c.args.toList) (by rw [e1];simp) (fun t h=>h)]
      · rfl
    · split
      · rename_i x y T T' e1 e2;rw [hm (l:=c.args.toList) (by rw [e1];simp) (fun t h=>h),hm (l:=c.args.toList) (by rw [e1];simp) (fun t h=>h)]
      · rfl
    · split
      · rename_i x y e1;rw [hm (l:=c.args.toList) (by rw [e1];simp) (fun t h=>h),hm (l:=c.args.toList) (by rw [e1];simp) (fun t h=>h)]
      · rfl
    · split
      · rename_i x y e1;rw [hm (l:=c.args.toList) (by rw [e1];simp) (fun t h=>h),hm (l:=c.args.toList) (by rw [e1];simp) (fun t h=>h)]
      · rfl
    · rfl
  · rename_i x ho;rw [ho] at hm;rw [hm (l:=[x]) (by simp) (fun t h=>h),hl]
  · rename_i S T x ho;rw [ho] at hm;rw [hm (l:=[x]) (by simp) (fun t h=>h)]
  · rename_i T x lo hi mx ho
    rw [ho] at hm
    have e1:lo.map (ev N s')=lo.map (ev N s):=by
      cases lo with
      | none=>rfl
      | some y=>simp only [Option.map_some];rw [hm (l:=x :: ((some y).toList ++ hi.toList)) (by simp) (fun t h=>h)]
    have e2:hi.map (ev N s')=hi.map (ev N s):=by
      cases hi with
      | none=>rfl
      | some y=>simp only [Option.map_some];rw [hm (l:=x :: (lo.toList ++ (some y).toList)) (by simp) (fun t h=>h)]
    rw [hm (l:=x :: (lo.toList ++ hi.toList)) (by simp) (fun t h=>h),e1,e2]
  · rename_i T x ix ho;rw [ho] at hm;rw [hm (l:=[x,ix]) (by simp) (fun t h=>h),hm (l:=[x,ix]) (by simp) (fun t h=>h)]
  · rename_i T parts ho
    rw [ho] at hm
    have hp:∀ l:List (Nat×Operand),(∀ p∈l,p∈parts.toList)→prts N s' l=prts N s l:=by
      intro l
      induction l with
      | nil=>intro _;rfl
      | cons p l ih =>
        intro hl
        simp only [prts]
        rw [hm (l:=parts.toList.map (fun q:Nat×Operand=>q.2)) (x:=p.2) (List.mem_map.2 ⟨p,hl p (List.mem_cons_self ..),rfl⟩) (fun t h=>h),ih (fun q hq=>hl q (List.mem_cons_of_mem _ hq))]
    rw [hp _ (fun p h=>h)]
  · rfl
theorem OSG.fwd (ht:TabOK ty) (h:OSG ty N ops o s V) (hr:∀ t∈rdG ops o,d0 ≠ some t) (h0:Quiet0 e0 s) (hd:clsOp o.op=2∨clsOp o.op=4→∀ d,o.dst=some d→e0.no ≠ some d∧e0.nb ≠ some d) (hn:∀ e,V e→∀ g,e.nb=some g→e0.nb ≠ some g)
    (hc3:clsOp o.op=3→e0.nb=none∧e0.no=none):OSG ty N ops o (e0.app d0 s) (fun e'=>∃ e,V e∧e'=e.scr e0.kb e0.ko):=by
  have hr1:∀ t∈rdOp o.op,d0 ≠ some t:=fun t h=>hr t (List.mem_append_left _ h)
  have hOS:OS ty N o s V→OS ty N o (e0.app d0 s) (fun e'=>∃ e,V e∧e'=e.scr e0.kb e0.ko):=by
    intro h
    unfold OS at h ⊢
    split at h
    · rename_i h4
      rw [if_pos h4]
      obtain ⟨d,c,g,ns,os0,args,R,ho,hcal,hdst,hlt,hob,hln,hsub,hA,hne,hle,rfl⟩:=h
      have hko:=ko_of (hd (.inr h4) d hdst).1
      have hkb:=kb_of (hd (.inr h4) d hdst).2
      have hnk:=hln.ko h0
      refine ⟨d,c,g,ns,os0,args,R,ho,hcal,hdst,hlt,by rw [ob_other h0 hko,hob];rfl,hln.fwd h0,?_,hA,hne,hle,?_⟩
      · rw [app_evs (rd_ne (by rw [ho] at hr1;exact hr1))];exact asubs_fwd hnk hsub
      · funext e'
        apply propext
        constructor
        · rintro ⟨e,⟨r,os,h1,rfl⟩,rfl⟩;exact ⟨r,os,h1,cE_scr hnk hkb hko⟩
        · rintro ⟨r,os,h1,rfl⟩;exact ⟨_,⟨r,os,h1,rfl⟩,(cE_scr hnk hkb hko).symm⟩
    · rename_i h4
      rw [if_neg h4]
      obtain ⟨c,e,h1,hc,rfl⟩:=h
      have fin:∀ {c':Prop},dOp ty N o (e0.app d0 s)=some (c',e.scr e0.kb e0.ko)→c'→∃ c e_1,dOp ty N o (e0.app d0 s)=some (c,e_1)∧c∧(fun e'=>∃ e_2,e_2=e∧e'=e_2.scr e0.kb e0.ko)=fun e'=>e'=e_1:=fun h2 h3 =>
        ⟨_,_,h2,h3,by funext e';apply propext;constructor;(rintro ⟨_,rfl,rfl⟩;rfl);(rintro rfl;exact ⟨_,rfl,rfl⟩)⟩
      by_cases hle:clsOp o.op≤1
      · have nkf:∀ q,s.ob q ≠ none→e0.ko q=true:=fun q hq=>ko_of (fun e=>hq (h0.fresh q e))
        have:=dOp_same (ty:=ty) (N:=N) (d0:=d0) (s:=s) hle hr1 h0 (fun x q i hx=>⟨fun T f ho=>nkf q (by
          unfold dOp at h1;rw [ho] at h1;simp only at h1
          rw [hx] at h1
          have:=fa_live h1 hc
          intro e;simp only [liveO,e] at this;cases this),fun T ho=>nkf q (by
          unfold dOp at h1;rw [ho] at h1;simp only at h1
          rw [hx] at h1
          exact ld_live h1),fun ho=>nkf q (by
          unfold dOp at h1;rw [ho] at h1;simp only at h1
          rw [hx] at h1
          simp only [dNil,Option.some.injEq,Prod.mk.injEq] at h1
          obtain ⟨rfl,_⟩:=h1
          intro e;simp only [liveO,e] at hc;cases hc)⟩) (fun x ix T q k n hx ho=>nkf q (by
          unfold dOp at h1;rw [ho] at h1;simp only at h1
          rw [hx] at h1
          have:=ia_live h1 hc
          intro e;simp only [liveO,e] at this;cases this))
        rw [h1] at this
        exact fin this hc
      · by_cases h2:clsOp o.op=2
        · obtain ⟨c',g1,g2⟩:=(dOp_mem ht h2 hr1 h0 (hd (.inl h2)) (c:=c) (e:=e)).1 h1 hc (hn e rfl)
          exact fin g1 g2
        · by_cases h3:clsOp o.op=3
          · obtain ⟨q1,q2⟩:=hc3 h3
            obtain ⟨k1,k2⟩:=plain_k q1 q2
            have hob:(e0.app d0 s).ob=s.ob:=by
              funext q
              rw [ob_other h0 (k2 q)]
              cases s.ob q with
              | none=>rfl
              | some l=>simp only [Option.map_some];rw [scrubs_all k1 k2]
            have:=dOp_congr (ty:=ty) (N:=N) (o:=o) (s:=s) (s':=e0.app d0 s) (fun x hx=>by rw [app_ev (fun t e=>hr1 t (hx t e)),scrub_all k1 k2]) (.inr hob) (fun q=>by rw [hob])
            rw [h1] at this
            exact fin (by rw [this,scr_id k1 k2]) hc
          · exfalso
            unfold dOp at h1
            split at h1 <;> first | (rename_i ho;rw [ho] at hle h2 h3;simp [clsOp] at hle h2 h3;done) | skip
            · rename_i c1 ho
              rw [ho] at hle h2 h3 h4
              split at h1
              · rename_i hcal;simp [clsOp,hcal] at hle
              · rename_i hcal;simp [clsOp,hcal] at h2
              · rename_i hcal;simp [clsOp,hcal] at hle
              · rename_i hcal;simp [clsOp,hcal] at hle
              · cases h1
            · cases h1
  unfold OSG at h ⊢
  split at h
  · exact hOS h
  · rename_i j want hg
    obtain ⟨t,b,h1,h2,h3,h4,h5⟩:=h
    have hdt:d0 ≠ some t:=hr t (List.mem_append_right _ (by rw [hg];simp [h1]))
    refine ⟨t,b,h1,h2,by rw [tm_app hdt];exact bool_scr.2 h3,fun e=>hOS (h4 e),fun e=>?_⟩
    have:=h5 e
    subst this
    funext e'
    apply propext
    constructor
    · rintro ⟨_,rfl,rfl⟩;rfl
    · rintro rfl;exact ⟨_,rfl,rfl⟩
theorem OSG.bwd (ht:TabOK ty) (h:OSG ty N ops o (e0.app d0 s) V) (hr:∀ t∈rdG ops o,d0 ≠ some t) (h0:Quiet0 e0 s) (hd:clsOp o.op=2∨clsOp o.op=4→∀ d,o.dst=some d→e0.no ≠ some d∧e0.nb ≠ some d)
    (hc3:clsOp o.op=3→e0.nb=none∧e0.no=none):∃ V',OSG ty N ops o s V'∧(∀ e,V' e→V (e.scr e0.kb e0.ko))∧((∃ e,V e)→∃ e,V' e)∧∀ e,V' e→∀ g,e.nb=some g→e0.nb ≠ some g:=by
  have hr1:∀ t∈rdOp o.op,d0 ≠ some t:=fun t h=>hr t (List.mem_append_left _ h)
  have hOS:OS ty N o (e0.app d0 s) V→∃ V',OS ty N o s V'∧(∀ e,V' e→V (e.scr e0.kb e0.ko))∧((∃ e,V e)→∃ e,V' e)∧∀ e,V' e→∀ g,e.nb=some g→e0.nb ≠ some g:=by
    intro h
    unfold OS at h
    split at h
    · rename_i h4
      obtain ⟨d,c,g,ns,os0,args,R,ho,hcal,hdst,hlt,hob,hln,hsub,hA,hne,hle,rfl⟩:=h
      have hko:=ko_of (hd (.inr h4) d hdst).1
      have hnb:=(hd (.inr h4) d hdst).2
      have hkb:=kb_of hnb
      rw [app_evs (rd_ne (by rw [ho] at hr1;exact hr1))] at hsub
      have hnk:∀ q∈ns,e0.ko q=true:=fun q hq=>by
        rcases hln with ⟨rfl,_⟩ | ⟨q',l,rfl,_,_,_,_,j,hj⟩
        · cases hq
        · obtain rfl:=List.mem_singleton.1 hq
          exact asubs_ko hsub hj
      refine ⟨fun e=>∃ r ext,R r (os0 ++ ext)∧e=cE ns d r ext,?_,?_,fun _=>?_,?_⟩
      · unfold OS
        rw [if_pos h4]
        refine ⟨d,c,g,ns,os0,args,R,ho,hcal,hdst,hlt,?_,hln.bwd h0 hnk,asubs_bwd hsub,hA,hne,hle,rfl⟩
        · rw [ob_other h0 hko] at hob
          cases hx:s.ob d with
          | none=>rfl
          | some l=>rw [hx] at hob;cases hob
      · rintro e ⟨r,os,h1,rfl⟩;exact ⟨r,os,h1,cE_scr hnk hkb hko⟩
      · obtain ⟨r,os,h1⟩:=hne
        obtain ⟨ext,rfl,_⟩:=hle r os h1
        exact ⟨_,r,ext,h1,rfl⟩
      · rintro e ⟨r,os,h1,rfl⟩ g hg
        cases hg
        exact hnb
    · rename_i h4
      obtain ⟨c,e1,h1,hc,rfl⟩:=h
      have fin:∀ {c':Prop} {e:Eff},dOp ty N o s=some (c',e)→c'→e1=e.scr e0.kb e0.ko→(∀ g,e.nb=some g→e0.nb ≠ some g)→∃ V',OS ty N o s V'∧(∀ e,V' e→(e.scr e0.kb e0.ko)=e1)∧((∃ e,e=e1)→∃ e,V' e)∧∀ e,V' e→∀ g,e.nb=some g→e0.nb ≠ some g:=fun {c' e} g1 g2 g3 g4 =>
        ⟨fun e'=>e'=e,by unfold OS;rw [if_neg h4];exact ⟨c',e,g1,g2,rfl⟩,by rintro _ rfl;exact g3.symm,fun _=>⟨e,rfl⟩,by rintro _ rfl;exact g4⟩
      by_cases hle:clsOp o.op≤1
      · have hj:∀ q i,e0.ko q ≠ true→scrub e0.kb e0.ko (.ptr q i)=.junk:=fun q i hq=>by simp only [scrub,if_neg hq]
        have:=dOp_same (ty:=ty) (N:=N) (d0:=d0) (s:=s) hle hr1 h0 (fun x q i hx=>⟨fun T f ho=>(by
          refine Decidable.byContradiction fun hq=>?_
          unfold dOp at h1;rw [ho] at h1 hr1;simp only at h1
          rw [app_ev (rd_ne hr1 x (by simp)),hx,hj q i hq] at h1
          rw [fa_junk] at h1
          exact (by cases h1)),fun T ho=>(by
          refine Decidable.byContradiction fun hq=>?_
          unfold dOp at h1;rw [ho] at h1 hr1;simp only at h1
          rw [app_ev (rd_ne hr1 x (by simp)),hx,hj q i hq] at h1
          rw [ld_junk] at h1
          exact (by cases h1)),fun ho=>(by
          refine Decidable.byContradiction fun hq=>?_
          unfold dOp at h1;rw [ho] at h1 hr1;simp only at h1
          rw [app_ev (rd_ne hr1 x (by simp)),hx,hj q i hq] at h1
          exact (by cases h1))⟩) (fun x ix T q k n hx ho=>(by
          refine Decidable.byContradiction fun hq=>?_
          have hj2:scrub e0.kb e0.ko (.arr q k n)=.junk:=by simp only [scrub,if_neg hq]
          unfold dOp at h1;rw [ho] at h1 hr1;simp only at h1
          rw [app_ev (rd_ne hr1 x (by simp)),hx,hj2,ia_junk] at h1
          exact (by cases h1)))
        rw [h1] at this
        obtain ⟨e,g1,g2⟩:=mapE_some this.symm
        have hw:=OSG.wf (o:=o) (ops:=ops) (s:=s) (V:=fun e'=>e'=e) (ty:=ty) (N:=N) (e:=e)
        refine fin g1 hc g2 (fun g hg=>?_)
        exfalso
        have hgd:OS ty N o s (fun e'=>e'=e):=by unfold OS;rw [if_neg h4];exact ⟨c,e,g1,hc,rfl⟩
        have h9:=OSG.wf (ty:=ty) (N:=N) (ops:=ops) (o:={ o with guard:=none }) (s:=s) (V:=fun e'=>e'=e) (by
          unfold OSG;simp only
          have:OS ty N { o with guard:=none } s (fun e'=>e'=e)=OS ty N o s (fun e'=>e'=e):=by unfold OS dOp;rfl
          rw [this];exact hgd) (by show clsOp o.op ≠ 3;omega) rfl
        have:=(h9.2.2 hle).1
        rw [this] at hg;cases hg
      · by_cases h2:clsOp o.op=2
        · obtain ⟨c',e',g1,g2,g3,g4⟩:=(dOp_mem ht h2 hr1 h0 (hd (.inl h2)) (c:=c) (e:=e1)).2 h1 hc
          exact fin g1 g2 g3 g4
        · by_cases h3:clsOp o.op=3
          · obtain ⟨q1,q2⟩:=hc3 h3
            obtain ⟨k1,k2⟩:=plain_k q1 q2
            have hob:(e0.app d0 s).ob=s.ob:=by
              funext q
              rw [ob_other h0 (k2 q)]
              cases s.ob q with
              | none=>rfl
              | some l=>simp only [Option.map_some];rw [scrubs_all k1 k2]
            have:=dOp_congr (ty:=ty) (N:=N) (o:=o) (s:=s) (s':=e0.app d0 s) (fun x hx=>by rw [app_ev (fun t e=>hr1 t (hx t e)),scrub_all k1 k2]) (.inr hob) (fun q=>by rw [hob])
            rw [h1] at this
            exact fin this.symm hc (scr_id k1 k2).symm (fun g hg=>by rw [q1];exact fun x=>(by cases x))
          · exfalso
            unfold dOp at h1
            split at h1 <;> first | (rename_i ho;rw [ho] at hle h2 h3;simp [clsOp] at hle h2 h3;done) | skip
            · rename_i c1 ho
              rw [ho] at hle h2 h3 h4
              split at h1
              · rename_i hcal;simp [clsOp,hcal] at hle
              · rename_i hcal;simp [clsOp,hcal] at h2
              · rename_i hcal;simp [clsOp,hcal] at hle
              · rename_i hcal;simp [clsOp,hcal] at hle
              · cases h1
            · cases h1
  unfold OSG at h
  split at h
  · rename_i hg
    obtain ⟨V',g1,g2⟩:=hOS h
    exact ⟨V',by unfold OSG;rw [hg];exact g1,g2⟩
  · rename_i j want hg
    obtain ⟨t,b,h1,h2,h3,h4,h5⟩:=h
    have hdt:d0 ≠ some t:=hr t (List.mem_append_right _ (by rw [hg];simp [h1]))
    rw [tm_app hdt] at h3
    have h3':=bool_scr.1 h3
    by_cases e1:b=want
    · obtain ⟨V',g1,g2⟩:=hOS (h4 e1)
      exact ⟨V',by unfold OSG;rw [hg];exact ⟨t,b,h1,h2,h3',fun _=>g1,fun e=>absurd e1 e⟩,g2⟩
    · have:=h5 e1
      subst this
      exact ⟨fun e=>e=pE .junk,by unfold OSG;rw [hg];exact ⟨t,b,h1,h2,h3',fun e=>absurd e e1,fun _=>rfl⟩,by rintro _ rfl;rfl,fun _=>⟨_,rfl⟩,by rintro _ rfl g hg;cases hg⟩
theorem OSG.uni {V':Eff→Prop} (h:OSG ty N ops o s V) (h':OSG ty N ops o s V') (hc:clsOp o.op ≠ 4):V=V':=by
  have hOS:OS ty N o s V→OS ty N o s V'→V=V':=fun a b=>by
    unfold OS at a b
    rw [if_neg hc] at a b
    obtain ⟨c,e,h1,_,rfl⟩:=a
    obtain ⟨c',e',h2,_,rfl⟩:=b
    rw [h1] at h2
    cases h2
    rfl
  unfold OSG at h h'
  split at h
  · rename_i hg;rw [hg] at h';exact hOS h h'
  · rename_i j want hg
    rw [hg] at h'
    obtain ⟨t,b,h1,h2,h3,h4,h5⟩:=h
    obtain ⟨t',b',g1,g2,g3,g4,g5⟩:=h'
    rw [h1] at g1;cases g1
    rw [h3] at g3;cases g3
    by_cases e:b=want
    · exact hOS (h4 e) (g4 e)
    · rw [h5 e,g5 e]
theorem OSG.one (h:OSG ty N ops o s V) (hc:clsOp o.op ≠ 4) {e e':Eff} (h1:V e) (h2:V e'):e=e':=by
  have hOS:OS ty N o s V→e=e':=fun a=>by
    unfold OS at a
    rw [if_neg hc] at a
    obtain ⟨c,f,_,_,rfl⟩:=a
    exact h1.trans h2.symm
  unfold OSG at h
  split at h
  · exact hOS h
  · rename_i j want hg
    obtain ⟨t,b,_,_,_,h4,h5⟩:=h
    by_cases e:b=want
    · exact hOS (h4 e)
    · have:=h5 e
      subst this
      exact h1.trans h2.symm
theorem OSG.st {s':AS} (h:OSG ty N ops o s V) (hc:clsOp o.op=0) (h1:s'.tm=s.tm) (h2:∀ q,(s'.ob q).isSome=(s.ob q).isSome):OSG ty N ops o s' V:=by
  have hev:∀ x,ev N s' x=ev N s x:=fun x=>by cases x <;> simp only [ev,h1]
  have hdo:=dOp_congr (ty:=ty) (N:=N) (o:=o) (s:=s) (s':=s') (fun x _=>hev x) (.inl hc) h2
  have hOS:OS ty N o s V→OS ty N o s' V:=fun a=>by
    unfold OS at a ⊢
    rw [if_neg (by omega)] at a ⊢
    rw [hdo];exact a
  unfold OSG at h ⊢
  split at h
  · exact hOS h
  · obtain ⟨t,b,g1,g2,g3,g4,g5⟩:=h
    exact ⟨t,b,g1,g2,by rw [h1];exact g3,fun e=>hOS (g4 e),g5⟩
theorem OSG.sto (h:OSG ty N ops o s V) (hc:clsOp o.op=3) {e:Eff} (he:V e):(e=pE .junk)∨∃ q l l0,e=sE q l∧s.ob q=some l0∧o.dst=none:=by
  have hOS:OS ty N o s V→∃ q l l0,e=sE q l∧s.ob q=some l0∧o.dst=none:=fun a=>by
    unfold OS at a
    rw [if_neg (by omega)] at a
    obtain ⟨c,f,h1,hcc,rfl⟩:=a
    obtain rfl:=he
    unfold dOp at h1
    split at h1 <;> first | (rename_i ho;rw [ho] at hc;simp [clsOp] at hc;done) | skip
    · rename_i T p x ho
      unfold dStore at h1
      split at h1
      · rename_i i hd hi
        split at h1
        · rename_i q r hp
          split at h1
          · rename_i l hob
            (repeat' split at h1) <;> first | (cases h1;exact ⟨q,_,l,rfl,hob,hd⟩) | cases h1
          · cases h1
        · cases h1
      · cases h1
    · rename_i c1 ho
      rw [ho] at hc
      simp only [clsOp] at hc
      (repeat' split at hc) <;> omega
    · cases h1
  unfold OSG at h
  split at h
  · exact .inr (hOS h)
  · rename_i j want hg
    obtain ⟨t,b,_,_,_,h4,h5⟩:=h
    by_cases e1:b=want
    · exact .inr (hOS (h4 e1))
    · have:=h5 e1
      subst this
      exact .inl he
end
structure Ind (ops:List Oper) (fp fq:List Nat) (p q:Oper):Prop where
  d:∀ t,p.dst=some t→q.dst ≠ some t
  rq:∀ t∈rdG ops q,p.dst ≠ some t
  rp:∀ t∈rdG ops p,q.dst ≠ some t
  c4:¬ (clsOp p.op=4∧clsOp q.op=4)
  c3:clsOp p.op=3→clsOp q.op=0
  c3':clsOp q.op=3→clsOp p.op=0
  fp:clsOp q.op=2∨clsOp q.op=4→∀ t,q.dst=some t→t∈fp
  fq:clsOp p.op=2∨clsOp p.op=4→∀ t,p.dst=some t→t∈fq
section
variable {ty:TypeId→Option TyI} {N:Nat} {ops:List Oper} {s:AS} {K:AS→Prop} {p q:Oper} {fp fq:List Nat}
theorem swap_q (ht:TabOK ty) (h:Ind ops fp fq p q) (h3:clsOp p.op ≠ 3) (h3':clsOp q.op ≠ 3) (hs:stepD ty N ops fp p s (fun s1=>stepD ty N ops fq q s1 K)):stepD ty N ops fq q s (fun s2=>stepD ty N ops fp p s2 K):=by
  obtain ⟨Vp,hp,⟨es,hes⟩,hall⟩:=hs
  have quiet:∀ e0,Vp e0→Quiet0 e0 s:=fun e0 h0=>⟨(hp.wf h3 h0).1,fun d hd=>((hp.wf h3 h0).2.1 d hd).2⟩
  have hdq:∀ e0,Vp e0→clsOp q.op=2∨clsOp q.op=4→∀ d,q.dst=some d→e0.no ≠ some d∧e0.nb ≠ some d:=fun e0 h0 hc d hd=>by
    refine ⟨fun e=>h.d d ((hp.wf h3 h0).2.1 d e).1 hd,fun e=>?_⟩
    rcases (hall e0 h0).1 d e with e1 | e1
    · exact h.d d e1.symm hd
    · exact e1 (h.fp hc d hd)
  have back:∀ e0,Vp e0→∃ V1 V':Eff→Prop,OSG ty N ops q (e0.app p.dst s) V1∧OSG ty N ops q s V'∧(∃ e,V' e)∧(∀ e,V' e→V1 (e.scr e0.kb e0.ko))∧(∀ e,V' e→∀ g,e.nb=some g→e0.nb ≠ some g) ∧
      ∀ e,V1 e→(∀ g,e.nb=some g→some g=q.dst∨g ∉ fq)∧K (e.app q.dst (e0.app p.dst s)):=fun e0 h0=>by
    obtain ⟨V1,g1,g2,g3⟩:=(hall e0 h0).2
    obtain ⟨V',k1,k2,k3,k4⟩:=OSG.bwd ht g1 h.rq (quiet e0 h0) (hdq e0 h0) (fun x=>absurd x h3')
    exact ⟨V1,V',g1,k1,k3 g2,k2,k4,g3⟩
  obtain ⟨V1s,Vq,_,hq,hne,m1,m2,m3⟩:=back es hes
  have all:∀ e0,Vp e0→∃ V1:Eff→Prop,(∀ e,Vq e→V1 (e.scr e0.kb e0.ko))∧(∀ e,Vq e→∀ g,e.nb=some g→e0.nb ≠ some g)∧∀ e,V1 e→(∀ g,e.nb=some g→some g=q.dst∨g ∉ fq)∧K (e.app q.dst (e0.app p.dst s)):=fun e0 h0=>by
    by_cases hc:clsOp q.op=4
    · have hcp:clsOp p.op ≠ 4:=fun x=>h.c4 ⟨x,hc⟩
      obtain rfl:=hp.one hcp h0 hes
      exact ⟨V1s,m1,m2,m3⟩
    · obtain ⟨V1,V',_,k1,_,k2,k3,k4⟩:=back e0 h0
      have:=hq.uni k1 hc
      subst this
      exact ⟨V1,k2,k3,k4⟩
  refine ⟨Vq,hq,hne,fun e he=>?_⟩
  have hwq:=hq.wf h3' he
  obtain ⟨V1s',a1,a2,a3⟩:=all es hes
  have hnb:∀ g,e.nb=some g→some g=q.dst∨g ∉ fq:=fun g hg=>(a3 _ (a1 e he)).1 g hg
  refine ⟨hnb,fun e'=>∃ e0,Vp e0∧e'=e0.scr e.kb e.ko,?_,⟨_,es,hes,rfl⟩,?_⟩
  · refine OSG.fwd ht hp h.rp ⟨hwq.1,fun d hd=>(hwq.2.1 d hd).2⟩ (fun hc d hd=>⟨fun x=>h.d d hd (hwq.2.1 d x).1,fun x=>?_⟩) (fun e0 h0 g hg x=>?_) (fun x=>absurd x h3)
    · rcases hnb d x with e1 | e1
      · exact h.d d hd e1.symm
      · exact e1 (h.fq hc d hd)
    · obtain ⟨_,_,b2,_⟩:=all e0 h0
      exact b2 e he g x hg
  · rintro e' ⟨e0,h0,rfl⟩
    obtain ⟨V1,b1,b2,b3⟩:=all e0 h0
    refine ⟨fun g hg=>(hall e0 h0).1 g hg,?_⟩
    have:=(b3 _ (b1 e he)).2
    rw [app_comm (hp.wf h3 h0).1 hwq.1 (fun n hn x=>h.d n ((hp.wf h3 h0).2.1 n hn).1 (hwq.2.1 n x).1) h.d] at this
    exact this
theorem plain0 {o:Oper} {V:Eff→Prop} (h:OSG ty N ops o s V) (hc:clsOp o.op=0) {e:Eff} (he:V e):e.sq=none∧e.nb=none∧e.no=none:=by
  have hw:=h.wf (by omega) he
  exact ⟨hw.1,hw.2.2 (by omega)⟩
theorem sto_comm {e:Eff} (h:e.sq=none∧e.nb=none∧e.no=none) {qn:Nat} {l:List AV} {d:Option Nat}:e.app d ((sE qn l).app none s)=(sE qn l).app none (e.app d s):=by
  obtain ⟨h1,h2,h3⟩:=h
  obtain ⟨k1,k2⟩:=plain_k h2 h3
  have hap:∀ s:AS,e.app d s=s.putD d e.val:=fun s=>by
    have:e.app d s=(pE e.val).app d s:=by
      unfold Eff.app
      congr 1
      congr 1
      · funext t;rw [scrub_all k1 k2,scrub_all (fb:=(pE e.val).kb) (fo:=(pE e.val).ko) (fun _=>rfl) (fun _=>rfl)]
      · funext o
        simp only [Eff.ob,h1,h3,pE,reduceCtorEq,if_false]
        cases s.ob o with
        | none=>rfl
        | some l=>simp only [Option.map_some];rw [scrubs_all k1 k2];exact congrArg some (scrubs_all (fun _=>rfl) (fun _=>rfl) l).symm
    rw [this,pE_app]
  rw [sE_app,hap,hap,sE_app]
  cases d <;> rfl
theorem st_setOb {q0:Nat} {l l0:List AV} (h:s.ob q0=some l0):∀ q,((s.setOb q0 (some l)).ob q).isSome=(s.ob q).isSome:=fun q=>by
  simp only [AS.setOb]
  split
  · rename_i e;rw [e,h];rfl
  · rfl
theorem swap_p3 (ht:TabOK ty) (h:Ind ops fp fq p q) (h3:clsOp p.op=3) (hs:stepD ty N ops fp p s (fun s1=>stepD ty N ops fq q s1 K)):stepD ty N ops fq q s (fun s2=>stepD ty N ops fp p s2 K):=by
  have hq0:=h.c3 h3
  obtain ⟨Vp,hp,⟨es,hes⟩,hall⟩:=hs
  obtain ⟨hnb,Vq,hq,⟨eq,heq⟩,hall2⟩:=hall es hes
  have hone:=fun e0 h0=>hp.one (by omega) (e:=e0) (e':=es) h0 hes
  rcases hp.sto h3 hes with rfl | ⟨q0,l,l0,rfl,hob,hdst⟩
  · -- the guard says no
    obtain ⟨V',k1,k2,k3,k4⟩:=OSG.bwd ht hq h.rq ⟨rfl,fun d hd=>(by cases hd)⟩ (fun hc=>by omega) (fun hc=>by omega)
    refine ⟨V',k1,k3 ⟨eq,heq⟩,fun e he=>?_⟩
    have hpl:=plain0 k1 hq0 he
    refine ⟨fun g hg=>(by rw [hpl.2.1] at hg;cases hg),fun e'=>∃ e0,Vp e0∧e'=e0.scr e.kb e.ko,?_,⟨_,_,hes,rfl⟩,?_⟩
    · exact OSG.fwd ht hp h.rp ⟨hpl.1,fun d hd=>by rw [hpl.2.2] at hd;cases hd⟩ (fun hc=>by omega) (fun e0 h0 g hg x=>by rw [hpl.2.1] at x;cases x) (fun _=>hpl.2)
    · rintro e' ⟨e0,h0,rfl⟩
      obtain rfl:=hone e0 h0
      refine ⟨fun g hg=>(by simp [Eff.scr,pE] at hg),?_⟩
      have:=(hall2 _ (k2 e he)).2
      rw [app_comm (e0:=pE .junk) rfl hpl.1 (fun n hn=>(by cases hn)) h.d] at this
      exact this
  · have hs':(sE q0 l).app p.dst s=s.setOb q0 (some l):=by rw [hdst];exact sE_app q0 l s
    rw [hs'] at hq
    have hq2:OSG ty N ops q s Vq:=OSG.st hq hq0 rfl (fun x=>(st_setOb hob x).symm)
    refine ⟨Vq,hq2,⟨eq,heq⟩,fun e he=>?_⟩
    have hpl:=plain0 hq2 hq0 he
    obtain ⟨k1,k2⟩:=plain_k hpl.2.1 hpl.2.2
    refine ⟨fun g hg=>(by rw [hpl.2.1] at hg;cases hg),fun e'=>∃ e0,Vp e0∧e'=e0.scr e.kb e.ko,?_,⟨_,_,hes,rfl⟩,?_⟩
    · exact OSG.fwd ht hp h.rp ⟨hpl.1,fun d hd=>by rw [hpl.2.2] at hd;cases hd⟩ (fun hc=>by omega) (fun e0 h0 g hg x=>by rw [hpl.2.1] at x;cases x) (fun _=>hpl.2)
    · rintro e' ⟨e0,h0,rfl⟩
      obtain rfl:=hone e0 h0
      rw [scr_id k1 k2]
      refine ⟨fun g hg=>(by cases hg),?_⟩
      have:=(hall2 e he).2
      rw [hdst] at this ⊢
      rw [sto_comm hpl] at this
      exact this
theorem swap_q3 (ht:TabOK ty) (h:Ind ops fp fq p q) (h3:clsOp q.op=3) (hs:stepD ty N ops fp p s (fun s1=>stepD ty N ops fq q s1 K)):stepD ty N ops fq q s (fun s2=>stepD ty N ops fp p s2 K):=by
  have hp0:=h.c3' h3
  obtain ⟨Vp,hp,⟨es,hes⟩,hall⟩:=hs
  obtain ⟨hnb,V1,hq,⟨e1,he1⟩,hall2⟩:=hall es hes
  have hone:=fun e0 h0=>hp.one (by omega) (e:=e0) (e':=es) h0 hes
  have hpl:=plain0 hp hp0 hes
  obtain ⟨k1,k2⟩:=plain_k hpl.2.1 hpl.2.2
  obtain ⟨Vq,g1,g2,g3,g4⟩:=OSG.bwd ht hq h.rq ⟨hpl.1,fun d hd=>by rw [hpl.2.2] at hd;cases hd⟩ (fun hc=>by omega) (fun _=>hpl.2)
  refine ⟨Vq,g1,g3 ⟨e1,he1⟩,fun e he=>?_⟩
  have hV1:=g2 e he
  rw [scr_id k1 k2] at hV1
  rcases g1.sto h3 he with rfl | ⟨q0,l,l0,rfl,hob,hdst⟩
  · refine ⟨fun g hg=>(by cases hg),fun e'=>∃ e0,Vp e0∧e'=e0.scr (pE .junk).kb (pE .junk).ko,?_,⟨_,es,hes,rfl⟩,?_⟩
    · exact OSG.fwd ht hp h.rp ⟨rfl,fun d hd=>(by cases hd)⟩ (fun hc=>by omega) (fun e0 h0 g hg x=>(by cases x)) (fun hc=>by omega)
    · rintro e' ⟨e0,h0,rfl⟩
      obtain rfl:=hone e0 h0
      refine ⟨fun g hg=>(by rw [show (e0.scr (pE .junk).kb (pE .junk).ko).nb=e0.nb from rfl,hpl.2.1] at hg;cases hg),?_⟩
      have:=(hall2 _ hV1).2
      have hc:=app_comm (e0:=e0) (e:=pE .junk) (d0:=p.dst) (d:=q.dst) (s:=s) hpl.1 rfl (fun n hn=>by rw [hpl.2.2] at hn;cases hn) h.d
      rw [scr_id k1 k2] at hc
      rw [← hc];exact this
  · have hs':(sE q0 l).app q.dst s=s.setOb q0 (some l):=by rw [hdst];exact sE_app q0 l s
    refine ⟨fun g hg=>(by cases hg),Vp,?_,⟨es,hes⟩,?_⟩
    · rw [hs'];exact OSG.st hp hp0 rfl (st_setOb hob)
    · intro e0 h0
      obtain rfl:=hone e0 h0
      refine ⟨fun g hg=>(by rw [hpl.2.1] at hg;cases hg),?_⟩
      have:=(hall2 _ hV1).2
      rw [hdst] at this ⊢
      rw [sto_comm hpl];exact this
theorem swap (ht:TabOK ty) (h:Ind ops fp fq p q) (hs:stepD ty N ops fp p s (fun s1=>stepD ty N ops fq q s1 K)):stepD ty N ops fq q s (fun s2=>stepD ty N ops fp p s2 K):=by
  by_cases h3:clsOp p.op=3
  · exact swap_p3 ht h h3 hs
  · by_cases h3':clsOp q.op=3
    · exact swap_q3 ht h h3' hs
    · exact swap_q ht h h3 h3' hs
end
end Go.Proofs.Ytpbclpopoodklaa
