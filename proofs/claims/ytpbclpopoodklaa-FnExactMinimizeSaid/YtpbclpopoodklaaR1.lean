/- Lemmas for the proof of FnExactMaximize, part 20 of 56: no condition of their own. -/
import Derived.Test.YtpbclpopoodklaaBase
namespace Go.Proofs.Ytpbclpopoodklaa
set_option linter.unusedSimpArgs false
set_option linter.unusedVariables false
open Go.RowKit
theorem gcd_turn {p q:Nat}:Nat.gcd q (p % q)=Nat.gcd p q:=by rw [Nat.gcd_comm q,← Nat.gcd_rec,Nat.gcd_comm]
set_option maxHeartbeats 800000 in
theorem implGcd (x y:Nat) (w:World) (hx:x≤4000000000000000000) (hy:y≤4000000000000000000) :
    Calls Try.prog 71 #[.int .i64 x,.int .i64 y] w (Gives w (.int .i64 (Nat.gcd x y:Nat))):=by
  go_enter Try.func71,Try.ntmps71
  go_wp2
  go_loopw [0,1] (fun a b wr=>∃ p q:Nat,a=.int .i64 p∧b=.int .i64 q∧p≤4000000000000000000∧q≤4000000000000000000∧Hid (Nat.gcd p q=Nat.gcd x y)∧∃ m,wr=w.drewN m) (fun _ b _=>(intOf b).toNat)
  case atStart=>exact ⟨x,y,rfl,rfl,hx,hy,hid rfl,0,rfl⟩
  case round =>
    obtain ⟨p,q,rfl,rfl,hp,hq,HG,m,rfl⟩:=hrel
    by_cases h0:q=0
    · subst h0
      have HE:=hid (show Nat.gcd x y=p by rw [← HG.out];simp)
      go_wp2
      go_ret
      exact ⟨by rw [HE.out];rfl,by first | exact ⟨_,rfl⟩ | exact ⟨_,dd⟩⟩
    · have hlt:p % q<q:=Nat.mod_lt _ (by omega)
      have HG2:=hid (show Nat.gcd q (p % q)=Nat.gcd x y by rw [gcd_turn];exact HG.out)
      go_wp2
      go_quiet (fail)
      go_wp2
      go_roundw
      case rel=>exact ⟨q,p % q,rfl,by go_num,hq,by omega,HG2,by first | exact ⟨_,rfl⟩ | exact ⟨_,dd⟩⟩
      case measure=>simp [intOf];omega
set_option maxHeartbeats 800000 in
theorem specGcd (x y:Nat) (w:World) (hx:x≤4000000000000000000) (hy:y≤4000000000000000000) :
    Calls Try.prog 68 #[.int .i64 x,.int .i64 y] w (Gives w (.int .i64 (Nat.gcd x y:Nat))):=by
  go_enter Try.func68,Try.ntmps68
  go_wp2
  go_loopw [0,1] (fun a b wr=>∃ p q:Nat,a=.int .i64 p∧b=.int .i64 q∧p≤4000000000000000000∧q≤4000000000000000000∧Hid (Nat.gcd p q=Nat.gcd x y)∧∃ m,wr=w.drewN m) (fun _ b _=>(intOf b).toNat)
  case atStart=>exact ⟨x,y,rfl,rfl,hx,hy,hid rfl,0,rfl⟩
  case round =>
    obtain ⟨p,q,rfl,rfl,hp,hq,HG,m,rfl⟩:=hrel
    by_cases h0:q=0
    · subst h0
      have HE:=hid (show Nat.gcd x y=p by rw [← HG.out];simp)
      go_wp2
      go_ret
      exact ⟨by rw [HE.out];rfl,by first | exact ⟨_,rfl⟩ | exact ⟨_,dd⟩⟩
    · have hlt:p % q<q:=Nat.mod_lt _ (by omega)
      have HG2:=hid (show Nat.gcd q (p % q)=Nat.gcd x y by rw [gcd_turn];exact HG.out)
      go_wp2
      go_roundw
      case rel=>exact ⟨q,p % q,rfl,by go_num,hq,by omega,HG2,by first | exact ⟨_,rfl⟩ | exact ⟨_,dd⟩⟩
      case measure=>simp [intOf];omega
end Go.Proofs.Ytpbclpopoodklaa
