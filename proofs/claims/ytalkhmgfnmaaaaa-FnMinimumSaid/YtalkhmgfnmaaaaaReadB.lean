/- Lemmas for the proof of FnMinimum, part 50 of 52: no condition of their own. -/
import Derived.Test.YtalkhmgfnmaaaaaReads
import Derived.Test.YtalkhmgfnmaaaaaZD
import Derived.ChangeSame
namespace Go.Proofs.Ytalkhmgfnmaaaaa
set_option linter.unusedSimpArgs false
set_option linter.unusedVariables false
open Go.ChangeShapes Go.WideShapes Go.ChangeAt Go.RowKit Go.Deep
def byteR:Rep Int:=fun _ _ _ _ cs x=>cs=[.int .u8 x]∧0≤x∧x≤255
abbrev BytesA:=SlA 1 byteR
theorem u8_of_wf {x:Int} (h:(Lit.int .u8 x).wf=true):0≤x∧x≤255:=by
  simp [Lit.wf,IntKind.min,IntKind.max,IntKind.bits,IntKind.signed] at h
  omega
theorem cellsU8:Try.prog.cellsOf 5=1:=by kernel_rfl
theorem reads_byte:ReadsBy byteR 5:=by
  intro H enc W fuel cs x h
  obtain ⟨n,rfl,_,hw⟩:=DataW.trod_int Try.underlying5 h
  exact ⟨n,rfl,u8_of_wf hw⟩
theorem reads_bytes {H:Type} (enc:TypeId×Value→H) (W:World) (fuel:Nat) (cs:List Value) (x:DataW H×List MemPlace) (h:DataW.trod enc Try.prog W 0 (fun _=>true) true fuel 22 cs=some x) :
    ∃ a n c xs,cs=[.slice a n c]∧BytesA false 0 W.heap.size W a n c xs:=reads_slice Try.underlying22 cellsU8 (by omega) reads_byte enc W fuel cs x h
theorem bytes_cx {C:Nat→Nat→Prop} {fz:Bool} {lo hi:Nat} {w:World} {a:Option Addr} {n c:Nat} {xs:List Int} (h:BytesA fz lo hi w a n c xs) (hC:∀ b i,lo≤b→b<hi→C b i):CX C w (.sl 1 (xs.map .byte)) [.slice a n c]:=by
  have h1:=h.len
  obtain ⟨_,h2,h3,h4,h5⟩:=h
  have key:0<n→∃ b off,a=some ⟨b,off,none⟩∧lo≤b∧b<hi∧∀ i (hi':i<xs.length),(0≤xs[i]∧xs[i]≤255)∧w.cell? ⟨b,off+i,none⟩=some (.int .u8 xs[i]):=fun hn=>by
    obtain ⟨b,off,ha,hl,hb,hc⟩:=h4 hn
    refine ⟨b,off,ha,hl,hb,fun i hi'=>?_⟩
    obtain ⟨cs,x,g1,g2,⟨rfl,g3⟩,g4⟩:=hc i (by omega)
    rw [List.getElem?_eq_getElem hi'] at g2
    cases g2
    exact ⟨g3,by simpa using (g4 0 (by omega)).1⟩
  refine ⟨a,n,c,xs.map (fun x=>Value.int .u8 x),rfl,by simpa using h1,CXk.singles.2 ⟨by simp,fun i x hx=>?_⟩,by simp [h1],h2,h3,h5,?_,fun hn=>?_⟩
  · rw [List.getElem?_map] at hx
    cases e:xs[i]? with
    | none=>rw [e] at hx;cases hx
    | some y =>
      rw [e] at hx;cases hx
      have hi':=(List.getElem?_eq_some_iff.1 e).1
      obtain ⟨b,off,_,_,_,hk⟩:=key (by omega)
      have hy:xs[i]=y:=(List.getElem?_eq_some_iff.1 e).2
      have:=(hk i hi').1
      rw [hy] at this
      exact ⟨.int .u8 y,by rw [List.getElem?_map,e];rfl,rfl,this⟩
  · intro u hu
    obtain ⟨y,_,rfl⟩:=List.mem_map.1 hu
    rfl
  · obtain ⟨b,off,ha,hl,hb,hk⟩:=key hn
    refine ⟨b,off,ha,fun i u hu=>⟨hC _ _ hl hb,?_⟩⟩
    rw [List.getElem?_map] at hu
    cases e:xs[i]? with
    | none=>rw [e] at hu;cases hu
    | some y =>
      rw [e] at hu;cases hu
      obtain ⟨hi',hy⟩:=List.getElem?_eq_some_iff.1 e
      have:=(hk i hi').2
      rw [hy] at this
      exact this
end Go.Proofs.Ytalkhmgfnmaaaaa
