/- Walks: the reference's intersection of lists. -/
import Derived.Test.YtniecclococcfaaW7
namespace Go.Proofs.Ytniecclococcfaa
open Go.RowKit

set_option maxHeartbeats 1000000 in
theorem specInter {fz : Bool} {lo hi : Nat} (a : Option Addr) (n c : Nat) (xss : List (List Int)) (w : World) (hI : RowsA fz lo hi w a n c xss) (hh : hi ≤ w.heap.size) (hr : ∀ i, (rx xss i).length ≤ 1048576) :
    Calls Try.prog 20 #[.slice a n c] w (GivesOwn w (interF xss)) := by
  have hl := hI.len
  have hs := hI.small
  have HL := hid hl; clear hl
  have HR := hid hr; clear hr
  by_cases hn0 : 0 < n
  · obtain ⟨b, off, rfl⟩ := hI.some hn0
    go_enter Try.func20, Try.ntmps20
    go_wp2
    go_loopw [3, 4] (fun v i wr => ∃ (k : Nat) (ao : Option Addr) (m co : Nat), i = .int .i64 k ∧ v = .slice ao m co ∧ k ≤ (rx xss 0).length ∧ Own w.heap.size wr ao m co (interTo xss k) ∧ Below w.heap.size w wr) (fun _ i _ => (rx xss 0).length - (intOf i).toNat)
    case atStart => exact ⟨0, _, 0, 0, rfl, rfl, by omega, ⟨World.ownsRow_made w #[] 0 (Nat.le_refl _) (by simp [maxLen]) rfl, fun _ h => nomatch h⟩, (Below.refl w.heap.size w).alloc (Nat.le_refl _) _⟩
    case round =>
      obtain ⟨k, ao, m, co, rfl, rfl, hk, hown, hbel⟩ := hrel
      have hm : m ≤ k := by have h1 := hown.len; have h2 := interTo_len xss k; omega
      have hIr : RowsA fz lo hi wr _ n c xss := hI.keep intsOK (Keeps.of_below hbel hh)
      obtain ⟨_, _, ra, rn, rc, hc, hr0, _⟩ := hIr.at (i := 0) hn0
      simp only [Nat.add_zero] at hc
      have hrl := hr0.len
      have hsz := hbel.size
      have HO := hid hown; clear hown
      have HB := hid hbel; clear hbel
      by_cases hlt : k < (rx xss 0).length
      · have hkr : k < rn := by omega
        have hk2 : k ≤ 1048576 := by have := HR.out 0; omega
        have HRL := hid hrl; clear hrl
        obtain ⟨b0, off0, rfl, _, _, hc0, _⟩ := hr0.open (by omega)
        have c0 := hc0 k (by omega)
        have hat := hr0.at hkr
        clear hc0 hr0
        have HK := hid hlt
        clear hlt hk
        go_wp2_with fail
        refine (specAscL _ n c xss wr hIr).mono ?_
        rintro e w1 ⟨rfl, m1, rfl⟩
        obtain ⟨wo, hwo⟩ : ∃ wo : World, wo = wr.drewN m1 := ⟨_, rfl⟩
        rw [← hwo]
        have hIo : RowsA fz lo hi wo (some ⟨b, off, none⟩) n c xss := by rw [hwo]; exact hIr.drewN intsOK m1
        have hco : wo.cell? ⟨b, off, none⟩ = some (.slice (some ⟨b0, off0, none⟩) rn rc) := by rw [hwo]; exact hc
        have hco0 : wo.cell? ⟨b0, off0 + k, none⟩ = some (.int .i64 (ix (rx xss 0) k)) := by rw [hwo]; exact c0
        have hOo : Own w.heap.size wo ao m co (interTo xss k) := by rw [hwo]; exact HO.out.drewN m1
        have hBo : Below w.heap.size w wo := by rw [hwo]; exact below_drewN HB.out m1
        have hszo := hBo.size
        have HO' := hid hOo; clear hOo HO
        have HB' := hid hBo; clear hBo HB
        clear hwo hIr hc c0 hsz
        generalize hx : ix (rx xss 0) k = x at *
        have HX := hid hx; clear hx
        rw [← isTo_one xss x]
        go_wp2
        go_loopw [5, 6] (fun bb i wq => ∃ (j : Nat) (e : Bool), i = .int .i64 j ∧ bb = .bool e ∧ e = isTo xss x j ∧ 1 ≤ j ∧ j ≤ n ∧ ∃ q, wq = wo.drewN q) (fun _ i _ => n - (intOf i).toNat)
        case atStart => exact ⟨1, _, rfl, rfl, rfl, by omega, by omega, 0, rfl⟩
        case round =>
          obtain ⟨j, e, rfl, rfl, he, hj1, hjn, hD⟩ := hrel
          have hIq : RowsA fz lo hi wr (some ⟨b, off, none⟩) n c xss := hIo.keep intsOK (keeps_dr lo hi hD)
          have hcq : wr.cell? ⟨b, off, none⟩ = some (.slice (some ⟨b0, off0, none⟩) rn rc) := by obtain ⟨q, rfl⟩ := hD; exact hco
          have hcq0 : wr.cell? ⟨b0, off0 + k, none⟩ = some (.int .i64 x) := by obtain ⟨q, rfl⟩ := hD; exact hco0
          have hOq : Own w.heap.size wr ao m co (interTo xss k) := by obtain ⟨q, rfl⟩ := hD; exact HO'.out
          have hBq : Below w.heap.size w wr := by obtain ⟨q, rfl⟩ := hD; exact below_drewN HB'.out q
          have HOq := hid hOq; clear hOq
          have HBq := hid hBq; clear hBq
          have HD := hid hD; clear hD
          have HEE := hid he; clear he
          by_cases hlt : j < n
          · obtain ⟨_, _, ra, rn', rc', hcj, hrj, _⟩ := hIq.at hlt
            have HRJ := hid hrj; clear hrj hIq
            cases e with
            | true =>
              go_wp2
              go_quiet ((go_at_call 33; exact (Calls.quiet_of (specFind ra rn' rc' _ x _ (HRJ.out.drewN _)))))
              go_wp2
              go_roundw
              case rel => exact ⟨j + 1, _, by go_num, rfl, by rw [isTo_succ (by omega), ← HEE.out]; simp, by omega, by omega, dr_more HD.out _⟩
              case measure => simp [intOf]; omega
            | false =>
              go_wp2
              go_quiet (fail)
              go_wp2
              go_roundw
              case rel => exact ⟨j + 1, _, by go_num, rfl, by rw [isTo_succ (by omega), ← HEE.out]; simp, by omega, by omega, dr_more HD.out _⟩
              case measure => simp [intOf]; omega
          · have hjn' : j = n := by omega
            have HE2 := hid (show e = isTo xss x xss.length by rw [HL.out, ← hjn']; exact HEE.out)
            clear hjn'
            cases e with
            | true =>
              go_wp2_with (at_builtin; refine wpApp rfl (.tmp 45) (.tmp 52) rfl w.heap.size ao m co _ rfl (HOq.out.alloc _) _ 1 1 [x] rfl (one_ints _ _ _ hat) (by omega) (by have := HBq.out.size; simp; omega) ?_)
              intro a1 c1 w1 ho1 hg1
              have hb1 := hid (ho0' HOq.out HBq.out (by have := HBq.out.size; omega) hg1)
              have HO1 := hid ho1; clear ho1 hg1
              go_wp2
              go_roundw
              case rel => exact ⟨k + 1, a1, m + 1, c1, by go_num, rfl, HK.out, by rw [interTo_yes HK.out (by rw [HX.out]; exact HE2.out.symm), HX.out]; exact HO1.out, hb1.out⟩
              case measure => have := HK.out; simp [intOf]; omega
            | false =>
              go_wp2
              go_roundw
              case rel => exact ⟨k + 1, ao, m, co, by go_num, rfl, HK.out, by rw [interTo_no HK.out (by rw [HX.out]; exact HE2.out.symm)]; exact HOq.out, HBq.out⟩
              case measure => have := HK.out; simp [intOf]; omega
      · have hrn : rn ≤ k := by omega
        have hkk : (rx xss 0).length ≤ k := by omega
        have HKK := hid hkk
        clear hlt hk hrl hkk
        go_wp2
        go_ret
        exact ⟨_, _, _, rfl, by rw [← interTo_end HKK.out]; exact HO.out, HB.out⟩
  · have hxe : xss = [] := List.eq_nil_of_length_eq_zero (by rw [HL.out]; omega)
    have hn : n ≤ 0 := by omega
    have HX := hid hxe; clear hxe
    go_enter Try.func20, Try.ntmps20
    go_wp2
    go_loopw [3, 4] (fun v i wr => v = .slice (some ⟨w.heap.size, 0, none⟩) 0 0 ∧ i = .int .i64 0 ∧ wr = w.alloc (.cells #[] 3)) (fun _ i _ => n - (intOf i).toNat)
    case atStart => exact ⟨rfl, rfl, rfl⟩
    case round =>
      obtain ⟨rfl, rfl, rfl⟩ := hrel
      go_wp2
      go_ret
      exact ⟨_, 0, 0, rfl, by rw [HX.out]; exact ⟨World.ownsRow_made w #[] 0 (Nat.le_refl _) (by simp [maxLen]) rfl, fun _ h => nomatch h⟩, (Below.refl w.heap.size w).alloc (Nat.le_refl _) _⟩
end Go.Proofs.Ytniecclococcfaa
