/- Walks: the reference's leapfrog intersection. -/
import Derived.Test.YtkhilfgkejienaaW10
import Derived.Maps.AppendAt
namespace Go.Proofs.Ytkhilfgkejienaa
set_option linter.unusedSimpArgs false
set_option linter.unusedVariables false
open Go.RowKit
/-- append of numbers onto a slice of the call's own; and where the new slice lies -/
theorem wpAppAt {fz : Bool} {lo hi : Nat} {w : World} {ops : Array Oper} {rest : List Oper} {o : Oper} {a : Act} {Q : Exit → Act → World → Prop} (hgd : o.guard = none) (s x : Operand)
    (ho : o.op = .call { callee := .builtin .append, args := #[s, x], argTypes := #[26, 26] })
    (base : Nat) (a1 : Option Addr) (n1 c1 : Nat) (xs : List Int) (hs : a.eval s = .slice a1 n1 c1) (hown : Own base w a1 n1 c1 xs)
    (ad : Addr) (m c : Nat) (ys : List Int) (hx : a.eval x = .slice (some ad) m c) (hI : IntsA fz lo hi w (some ad) m c ys) (hb : n1 + m ≤ 8796093022208) (hbase : base ≤ w.heap.size)
    (h : ∀ a' c' w', Own base w' a' (n1 + m) c' (xs ++ ys) → w.grownBy w' (Value.slice a1 n1 c1).ownBlock → ((Value.slice a' (n1 + m) c').ownBlock = (Value.slice a1 n1 c1).ownBlock ∨ (Value.slice a' (n1 + m) c').ownBlock = some w.heap.size) → wpList Try.prog ops Q rest (a.put o.dst (.slice a' (n1 + m) c')) w') :
    wpList Try.prog ops Q (o :: rest) a w := by
  obtain ⟨i0, hi0, hz0, hz1, hz2⟩ := info_parts infoInt
  have h64 : ∀ z ∈ xs ++ ys, I64 z := fun z hz => (List.mem_append.1 hz).elim (hown.2 z) (hI.2.2.2.1 z)
  have hlen := hI.len
  obtain ⟨v', w', hr, hown', hgrow, _, hat⟩ := run_append_own_at (P := Try.prog) w base 26 o.type 3 i0 (.int .i64 0) 1 8 Try.underlying26 hi0 hz0 hz1 hz2 rfl (by decide) _ n1 _ hown.1 ad m c (ys.map (Value.int .i64)) (by simp [hlen]) (fun j u hj => by
      have hjm : j < m := by have := (List.getElem?_eq_some_iff.1 hj).1; simpa [hlen] using this
      obtain ⟨b, off, hab, _, _, hcell, _⟩ := hI.open (by omega)
      obtain rfl : ad = ⟨b, off, none⟩ := by simpa using hab
      rw [Addr.add_lit, hcell j hjm, ix_lt (by omega)]
      rw [List.getElem?_map, List.getElem?_eq_getElem (by omega)] at hj
      simpa using hj) (ints_oneCell .i64 ys) (by unfold maxLen; omega) (by omega) hbase
  obtain ⟨a', c', rfl⟩ : ∃ a' c', v' = .slice a' (n1 + m) c' := by
    rcases hown'.2 with ⟨rfl, hz⟩ | ⟨g, cap, cur, rfl, _⟩
    · exact ⟨none, 0, by rw [hz]⟩
    · exact ⟨_, _, rfl⟩
  refine wpList_plain hgd fun K hK => ?_
  unfold Oper.wp
  simp [execOp, ho, resolve, invoke, builtin, hs, hx, hr, Result.andThen]
  exact hK _ _ (h a' c' w' ⟨by simpa using hown', h64⟩ hgrow hat)
/-- the places by position -/
def pm (xss : List (List Int)) (k : Nat) (pl : List Nat) : List Nat := (ordIx xss k).map (ox pl)
theorem ox_pm {xss : List (List Int)} {k q : Nat} {pl : List Nat} (h : q < k) : ox (pm xss k pl) q = ox pl (ox (ordIx xss k) q) := by
  have hl := ordIx_len xss k
  rw [ox_lt (by simp [pm, hl]; exact h), ox_lt (o := ordIx xss k) (by omega)]; simp [pm]
theorem nodup_inj {l : List Nat} (h : l.Nodup) {i j : Nat} (hi : i < l.length) (hj : j < l.length) (e : l[i] = l[j]) : i = j := by
  have h' := List.pairwise_iff_getElem.1 h
  rcases Nat.lt_trichotomy i j with g | g | g
  · exact absurd e (h' i j hi hj g)
  · exact g
  · exact absurd e.symm (h' j i hj hi g)
theorem pm_set {xss : List (List Int)} {k q v : Nat} {pl : List Nat} (h : q < k) (hpl : pl.length = k) : pm xss k (pl.set (ox (ordIx xss k) q) v) = (pm xss k pl).set q v := by
  have hl := ordIx_len xss k
  have hb := ox_bound (xss := xss) h
  apply List.ext_getElem
  · simp [pm, hl]
  intro j h1 h2
  have hj : j < k := by simpa [pm, hl] using h1
  rw [List.getElem_set]
  simp only [pm, List.getElem_map]
  rw [ox_set (by omega), ← ox_lt (o := ordIx xss k) (j := j) (by omega)]
  by_cases e : q = j
  · subst e; rw [if_pos rfl, if_pos rfl]
  · rw [if_neg e, if_neg]
    intro hc
    rw [ox_lt (by omega), ox_lt (by omega)] at hc
    exact e (nodup_inj (ordIx_nodup xss k) _ _ hc).symm
theorem pm_rep {xss : List (List Int)} {k : Nat} (n : Nat) : pm xss k (List.replicate n 0) = List.replicate k 0 := by
  have hl := ordIx_len xss k
  apply List.ext_getElem
  · simp [pm, hl]
  intro j h1 h2
  simp [pm, ox_rep]
/-- a slice's own block is the first one or lies behind s -/
def OutOK (g0 s : Nat) (a : Option Addr) : Prop := ∀ p, a = some p → p.block = g0 ∨ s ≤ p.block
theorem OutOK.blk {g0 s : Nat} {a : Option Addr} {n c : Nat} (h : OutOK g0 s a) (j : Nat) (e : some j = (Value.slice a n c).ownBlock) : j = g0 ∨ s ≤ j := by
  cases a with
  | none => simp [Value.ownBlock] at e
  | some p => simp only [Value.ownBlock, Option.some.injEq] at e; rw [e]; exact h p rfl
theorem OutOK.next {g0 s z : Nat} {a a' : Option Addr} {n c n' c' : Nat} (h : OutOK g0 s a) (e : (Value.slice a' n' c').ownBlock = (Value.slice a n c).ownBlock ∨ (Value.slice a' n' c').ownBlock = some z) (hz : s ≤ z) : OutOK g0 s a' := by
  intro p hp
  subst hp
  rcases e with e | e
  · exact h.blk p.block (by rw [← e]; rfl)
  · simp only [Value.ownBlock, Option.some.injEq] at e; right; omega
theorem Own.put {base g0 s g k : Nat} {w : World} {a : Option Addr} {n c : Nat} {xs : List Int} (h : Own base w a n c xs) (ho : OutOK g0 s a) (h1 : g0 < g) (h2 : g < s) (u : Value) : Own base (w.setCell ⟨g, k, none⟩ u) a n c xs :=
  ⟨h.1.kept (row := some g) ⟨rfl, rfl, rfl, by simp [World.setCell], fun j _ hj => heap_setCell_other _ _ j _ (fun e => hj (by rw [e]))⟩ (.inr (fun e => by rcases ho.blk g e.symm with e | e <;> omega)), h.2⟩
set_option maxHeartbeats 6400000 in
set_option maxRecDepth 100000 in
theorem specLeap {fz : Bool} {lo hi : Nat} (b off : Nat) (k c : Nat) (xss : List (List Int)) (w : World) (hI : RowsA fz lo hi w (some ⟨b, off, none⟩) k c xss) (hh : hi ≤ w.heap.size) (hr : ∀ i, (rx xss i).length ≤ 1048576) (hn : k ≤ 1048576)
    (hE : ascAll xss = true) (hS : shF xss ≠ 0) :
    Calls Try.prog 7 #[.slice (some ⟨b, off, none⟩) k c] w (GivesOwn2 w (leapF xss).1 (leapF xss).2) := by
  have hl := hI.len
  have HL := hid hl; clear hl
  have HR := hid hr; clear hr
  have HE := hid hE; clear hE
  have hsm := hI.small
  obtain ⟨hdr, hH, hcell⟩ := rowsA_hdrs hI
  have HH := hid hH; clear hH
  have HC := hid hcell; clear hcell
  obtain ⟨s, hs⟩ : ∃ s, shF xss = s := ⟨_, rfl⟩
  have hs1 : s ≠ 0 := by rw [← hs]; exact hS
  have hb0 : (s == 0) = false := by simpa using hs1
  have HS := hid hs
  have HS1 := hid hs1
  clear hs hs1 hS
  obtain ⟨hok, hpos', _⟩ := leap_start HE.out (by rw [HS.out]; exact HS1.out)
  have hpos : ∀ i, i < k → 0 < (rx xss i).length := fun i hi => hpos' i (by rw [HL.out]; exact hi)
  have hrun := leapF_run HE.out (by rw [HS.out]; exact HS1.out)
  have hk0 : 0 < k := by have := (ascAll_at HE.out).1; have := HL.out; omega
  have HOK := hid hok; clear hok hpos'
  have HRUN := hid hrun; clear hrun
  have HP := hid hpos; clear hpos
  go_enter Try.func7, Try.ntmps7
  go_wp2_with fail
  have hw0 : ∃ wz : World, wz = w.alloc (.cells #[] 3) := ⟨_, rfl⟩
  obtain ⟨wz, hwz⟩ := hw0
  have hbz : Below w.heap.size w wz := by rw [hwz]; exact (Below.refl w.heap.size w).alloc (Nat.le_refl _) _
  have hsz : wz.heap.size = w.heap.size + 1 := by rw [hwz]; simp
  have hoz : Own w.heap.size wz (some ⟨w.heap.size, 0, none⟩) 0 0 [] := by rw [hwz]; exact ⟨World.ownsRow_made w #[] 0 (Nat.le_refl _) (by simp [maxLen]) rfl, fun _ h => nomatch h⟩
  have hIz : RowsA fz lo hi wz (some ⟨b, off, none⟩) k c xss := hI.keep intsOK (Keeps.of_below hbz hh)
  rw [← hwz]
  have HBZ := hid (And.intro hbz (And.intro hsz hoz)); clear hbz hsz hoz hwz
  refine (specAscL _ k c xss wz hIz).mono ?_
  rintro e w1 ⟨rfl, m1, rfl⟩
  rw [HE.out]
  go_wp2_with fail
  refine (specShort _ k c xss _ (SlA.drewN intsOK hIz m1)).mono ?_
  rintro e w2 ⟨rfl, m2, rfl⟩
  rw [HS.out]
  go_wp2_with fail
  refine (specOrder b off k c xss _ (SlA.drewN intsOK hIz _) (by have := HBZ.out.2.1; simp; omega) hn HP.out).mono ?_
  rintro e wo ⟨oa, on, oc, rfl, hord, hbo⟩
  have hon : on = k := by have := hord.len; rw [ixVals_len] at this; omega
  subst hon
  have hbo' : Below w.heap.size w wo := Below.calm (below_drewN HBZ.out.1 _) hbo
  have hvals := hord.vals
  have hoW := (HBZ.out.2.2.drewN (m1 + m2)).keep (Keeps.of_below hbo (Nat.le_refl _))
  have hlo2 : w.heap.size < wz.heap.size := by have := HBZ.out.2.1; omega
  have hlo3 : wz.heap.size ≤ wo.heap.size := by have := hbo.size; simpa using this
  have HV := hid hvals
  have HOW := hid hoW
  have HBO := hid hbo'
  clear hord hbo hvals hoW hbo'
  obtain ⟨i0, hi0, hz0', hz1, hz2⟩ := info_parts infoInt
  go_wp2_with (at_make; refine wpList_make_full _ rfl _ _ 26 rfl wo.heap.size 3 i0 (.int .i64 0) 1 Try.underlying26 hi0 hz0' hz1 _ _ _ _ on rfl rfl rfl rfl (by rw [hz2]; omega) (by unfold maxLen; omega) (Nat.le_refl _) ?_)
  intro w1 hat hgrow
  have hbA : Below wo.heap.size wo w1 := (Below.refl _ _).grown hgrow (Nat.le_refl _) (fun k h => by cases h)
  have hszA : wo.heap.size < w1.heap.size := (hat.lt wo.heap.size rfl).2
  obtain ⟨g, hg⟩ : ∃ g, g = wo.heap.size := ⟨_, rfl⟩
  rw [← hg] at hat hszA ⊢
  have HG := hid hg
  have hgz : wz.heap.size ≤ g := by omega
  clear hg hgrow
  have hordA : ValsA wz.heap.size g w1 oa on oc (ixVals xss on) := by
    have := HV.out.keep (Keeps.of_below hbA (Nat.le_refl _))
    rw [HG.out]; simpa using this
  have hOutA : Own w.heap.size w1 (some ⟨w.heap.size, 0, none⟩) 0 0 [] := HOW.out.keep (Keeps.of_below hbA (Nat.le_refl _))
  obtain ⟨bo, oo, rfl, hbo1, hbo2, hco⟩ := hordA.open hk0
  have hlast := hco (on - 1) _ (ixVals_at (by omega))
  have hkk : (on : Int) - 1 = ((on - 1 : Nat) : Int) := by omega
  have hbA' : Below w.heap.size w w1 := HBO.out.trans (hbA.mono (by omega))
  have hcr : w1.cell? ⟨b, off + ox (ordIx xss on) (on - 1), none⟩ = some (hdr (ox (ordIx xss on) (on - 1))) := by
    have hb' := ox_bound (xss := xss) (i := on) (j := on - 1) (by omega)
    rw [World.cell?_of_block (w := w) (hbA'.block b (by have := (hI.at hb').2.1; omega))]; exact HC.out _ hb'
  obtain ⟨la, ln, lc, hhl, hlr⟩ := (HH.out.keep (Keeps.of_below hbA' hh)) (ox (ordIx xss on) (on - 1)) (by have := ox_bound (xss := xss) (i := on) (j := on - 1) (by omega); have := HL.out; omega)
  rw [hhl] at hcr
  have hln : 0 < ln := by have := hlr.len; have := HP.out (ox (ordIx xss on) (on - 1)) (by have := ox_bound (xss := xss) (i := on) (j := on - 1) (by omega); omega); omega
  obtain ⟨lb, lo', rfl, _, _, hcl, _⟩ := hlr.open hln
  have hcl0 := hcl 0 hln
  simp only [Nat.add_zero] at hcl0
  have hoxl := ox_bound (xss := xss) (i := on) (j := on - 1) (by omega)
  have htp64 : I64 (leapTop xss) := by
    have h1 := HL.out
    unfold leapTop; rw [h1, rx_ordL (by omega)]; exact hlr.at hln
  have htop : ix (rx xss (ox (ordIx xss on) (on - 1))) 0 = leapTop xss := by
    have h1 := HL.out
    unfold leapTop; rw [h1, rx_ordL (by omega)]
  rw [htop] at hcl0
  clear hlr
  generalize leapTop xss = tp at *
  have HORDA := hid hordA
  have HAT := hid hat
  have HBA2 := hid hbA'
  have HOUTA := hid hOutA
  clear htop hcl hhl hordA hco hat hbA hbA' hOutA
  have hat0 : AtA g w1 on (leapP xss) := by
    have := HAT.out
    rw [toList_madeCells_one] at this
    unfold AtA leapP
    rw [HL.out, List.map_replicate]
    exact this
  have hfu : leapFuel xss ≤ 1099511627777 := by
    have h1 := remTo_le (L := ordL xss xss.length) (p := leapP xss) (B := 1048576) (fun i => by
      by_cases hi : i < xss.length
      · rw [rx_ordL hi]; exact HR.out _
      · have : rx (ordL xss xss.length) i = [] := by
          have h2 := ordL_len xss xss.length
          simp [rx, List.getElem?_eq_none (show (ordL xss xss.length).length ≤ i by omega)]
        rw [this]; simp) xss.length
    have h2 := HL.out
    unfold leapFuel; rw [h2] at h1 ⊢
    have : on * 1048576 ≤ 1048576 * 1048576 := Nat.mul_le_mul_right _ hn
    omega
  have HAT0 := hid (And.intro hat0 hfu); clear hat0 hfu
  obtain ⟨L, hL⟩ : ∃ L, L = ordL xss xss.length := ⟨_, rfl⟩
  have HLL := hid hL
  have hLlen : L.length = on := by rw [hL, ordL_len, HL.out]
  have hrunL : leapN L (leapFuel xss) 0 (pm xss on (leapP xss)) tp [] = some (leapF xss) := by rw [hL]; unfold leapP; rw [pm_rep]; have := HRUN.out; unfold leapP at this; rw [HL.out] at this ⊢; exact this
  have hokL : LeapOK L (pm xss on (leapP xss)) tp := by rw [hL]; unfold leapP; rw [pm_rep]; have := HOK.out; unfold leapP at this; rw [HL.out] at this ⊢; exact this
  have HLLEN := hid hLlen
  have HRL := hid (And.intro hrunL hokL)
  clear hL hLlen hrunL hokL
  have HTP := hid htp64; clear htp64
  go_wp2
  go_loopg [4, 7, 8, 9] (leapFuel xss) (fun gf ou pp to nn wq => ∃ (s : Nat) (top : Int) (outL : List Int) (pl : List Nat) (ao : Option Addr) (m co : Nat), ou = .slice ao m co ∧ pp = .int .i64 ((s % on : Nat) : Int) ∧ to = .int .i64 top ∧ nn = .int .i64 (s : Int) ∧ I64 top ∧ Own w.heap.size wq ao m co outL ∧ OutOK w.heap.size w1.heap.size ao ∧ AtA g wq on pl ∧ ValsA wz.heap.size g wq (some ⟨bo, oo, none⟩) on oc (ixVals xss on) ∧ Below w.heap.size w wq ∧ w1.heap.size ≤ wq.heap.size ∧ leapN L gf s (pm xss on pl) top outL = some (leapF xss) ∧ LeapOK L (pm xss on pl) top ∧ outL.length ≤ s ∧ s + gf ≤ 1099511627777)
  case atStart => exact ⟨0, tp, [], leapP xss, _, 0, 0, rfl, by simp, rfl, rfl, HTP.out, HOUTA.out, fun p hp => by cases hp; exact .inl rfl, HAT0.out.1, HORDA.out, HBA2.out, Nat.le_refl _, HRL.out.1, HRL.out.2, Nat.le_refl _, by have := HAT0.out.2; omega⟩
  case round =>
    obtain ⟨s', top, outL, pl, ao, m, co', rfl, rfl, rfl, rfl, ht64, hout, hoo, hatq, hvq, hbq, hszq, hlp, hok, hlen, hsum⟩ := hrel
    obtain ⟨f, hf⟩ := leap_pos hlp
    have hq : s' % on < on := Nat.mod_lt _ hk0
    have HMQ := hid (show s' % L.length = s' % on by rw [HLLEN.out])
    have HNX2 := hid (show (((s' % on : Nat) : Int) + 1) % (on : Int) = (((s' + 1) % on : Nat) : Int) by simp [Int.add_emod])
    generalize hqe : s' % on = q at *
    have hgf : s' ≤ 1099511627777 := by omega
    have hml : m ≤ s' := by have := hout.len; omega
    obtain ⟨b', o', hbo', _, _, hco⟩ := hvq.open hk0
    simp only [Option.some.injEq, Addr.mk.injEq, and_true] at hbo'
    obtain ⟨rfl, rfl⟩ := hbo'
    have hoq := hco q _ (ixVals_at hq)
    have hkq := ox_bound (xss := xss) (i := on) (j := q) hq
    have hcq := hatq.cell hkq
    have hlcq : wr.cell? ⟨b, off + ox (ordIx xss on) q, none⟩ = some (hdr (ox (ordIx xss on) q)) := by
      rw [World.cell?_of_block (w := w) (hbq.block b (by have := (hI.at hkq).2.1; omega))]; exact HC.out _ hkq
    obtain ⟨qa, qn, qc, hhq, hqr⟩ := (HH.out.keep (Keeps.of_below hbq hh)) (ox (ordIx xss on) q) (by have := HL.out; omega)
    rw [hhq] at hlcq
    have hrxe : rx L q = rx xss (ox (ordIx xss on) q) := by rw [HLL.out, HL.out]; exact rx_ordL hq
    rw [← hrxe] at hqr
    have hat' := hok.at_ q (by rw [HLLEN.out]; exact hq)
    rw [ox_pm hq] at hat'
    have hqn := hqr.len
    have hqs : qn ≤ 1048576 := by have := HR.out (ox (ordIx xss on) q); rw [← hrxe] at this; omega
    have hpq : ox pl (ox (ordIx xss on) q) < qn := by omega
    obtain ⟨qb, qo, rfl, hqb1, hqb2, hqc, _⟩ := hqr.open (by omega)
    have hqv := hqc _ hpq
    have hne : ¬ g = qb := by omega
    have hneb : ¬ g = b := by have := (hI.at hkq).2.1; omega
    have hascq : ∀ i, i + 1 < qn → ix (rx L q) i < ix (rx L q) (i + 1) := fun i hi => by
      rw [hrxe]
      exact (ascAll_at HE.out).2 (ox (ordIx xss on) q) (by have := HL.out; omega) i (by rw [← hrxe]; omega)
    have HASC := hid hascq; clear hascq
    have hpl : pl.length = on := by have := hatq.1; simpa using this
    have hpml : q < (pm xss on pl).length := by rw [hok.len, HLLEN.out]; exact hq
    have hoxpm := ox_pm (xss := xss) (pl := pl) hq
    have hpms := fun v => pm_set (xss := xss) (v := v) hq hpl
    have hnext : ∀ i, i < qn → I64 (ix (rx L q) i) := fun i hi => hqr.at hi
    have hv64 := hqr.at hpq
    generalize hpqe : ox pl (ox (ordIx xss on) q) = pq at *
    generalize hkqe : ox (ordIx xss on) q = kq at *
    generalize hve : ix (rx L q) pq = v at *
    have HQ := hid (And.intro hq (And.intro hpml (And.intro hlen hsum)))
    have HVE := hid hve; clear hve
    have HPM := hid (And.intro hoxpm hpms)
    clear hoxpm hpms
    have HF := hid hf; clear hf
    have HLP := hid hlp; clear hlp
    have HOKR := hid hok; clear hok
    have HOUT := hid hout; clear hout
    have HATQ := hid hatq; clear hatq
    have HBQ := hid hbq; clear hbq
    have HQC := hid hqc; clear hqc
    have HQR := hid hqr; clear hqr
    have HNX := hid hnext; clear hnext
    have HQN := hid hqn; clear hqn
    have HVQ := hid hvq; clear hvq
    have HQE := hid hqe
    have HPQ := hid hpqe
    have HPL := hid hpl
    have hbw : b < w.heap.size := by have := (hI.at hkq).2.1; omega
    clear hco hhq hpml hsum hlen hrxe hpqe hkqe hpl hqe
    have hcq1 := hcq.1
    have hcq2 := hcq.2
    clear hcq
    by_cases hv : v = top
    · have hvb : (v == top) = true := by simp [hv]
      have HV := hid hv; clear hv
      go_wp2
      go_quiet (fail)
      go_wp2_with (at_builtin; refine wpAppAt rfl (.tmp 57) (.tmp 59) rfl w.heap.size ao m co' outL rfl ((HOUT.out.drewN _).alloc _) _ 1 1 [v] rfl (one_ints _ _ _ hv64) (by omega) (by have := HBQ.out.size; simp; omega) ?_)
      intro a2 c2 w2 ho2 hg2 hat2'
      have hsw := HBQ.out.size
      have hooS : OutOK w.heap.size w1.heap.size a2 := hoo.next hat2' (by omega)
      have kp2 : Keeps wz.heap.size w1.heap.size wr w2 := fun j h1 h2 => by
        rw [hg2.block j (by simp; omega) (fun e => by rcases hoo.blk j e with h | h <;> omega)]
        exact Below.heap_alloc _ _ _ (by simp; omega)
      have b2 : Below w.heap.size wr w2 := Below.grown ((below_drewN (Below.refl w.heap.size wr) _).alloc (by simp; omega) _) hg2 (by simp; omega) (fun j hj => (HOUT.out.1.lt j hj).1)
      have hat2 : AtA g w2 on pl := HATQ.out.keep (kp2 g hgz hszA)
      have hv2 := HVQ.out.keep (kp2.mono (Nat.le_refl _) (Nat.le_of_lt hszA))
      have hsz2 : w1.heap.size ≤ w2.heap.size := by have := b2.size; omega
      have hcg := hat2.cell hkq
      rw [HPQ.out] at hcg
      have hcg1 := hcg.1
      have hcg2 := hcg.2
      have hlh := leap_hit (f := f) (by rw [← HF.out]; exact HLP.out) HMQ.out (by rw [HPM.out.1, HVE.out]; exact HV.out)
      rw [HPM.out.1] at hlh
      have HLH := hid hlh
      have HB2 := hid b2
      have HO2 := hid ho2
      have HV2 := hid hv2
      have HSET := hid (hat2.set kq (pq + 1))
      clear kp2 hg2 hat2' hlh hcg b2 ho2 hv2 hat2
      go_wp2
      rw [show ((pq : Int) + 1) = ((pq + 1 : Nat) : Int) by omega]
      obtain ⟨nn, hnn⟩ : ∃ nn, nn = pq + 1 := ⟨_, rfl⟩
      rw [← hnn]
      obtain ⟨wS, hwS⟩ : ∃ wS : World, wS = w2.setCell ⟨g, kq, none⟩ (.int .i64 (nn : Int)) := ⟨_, rfl⟩
      rw [← hwS]
      obtain ⟨aS, haS⟩ : ∃ aS, aS = a2 := ⟨_, rfl⟩
      obtain ⟨mS, hmS⟩ : ∃ mS, mS = m + 1 := ⟨_, rfl⟩
      obtain ⟨cS, hcS⟩ : ∃ cS, cS = c2 := ⟨_, rfl⟩
      obtain ⟨outS, houtS⟩ : ∃ outS, outS = outL ++ [top] := ⟨_, rfl⟩
      have HOS : Hid (Own w.heap.size wS aS mS cS outS) := hid (by
        rw [hwS, haS, hmS, hcS, houtS]; have := HO2.out; rw [HV.out] at this
        exact this.put hooS (by omega) hszA _)
      have HATS : Hid (AtA g wS on (pl.set kq nn)) := hid (by rw [hwS, hnn]; exact HSET.out)
      have HBS : Hid (Below w.heap.size wr wS) := hid (by rw [hwS]; exact HB2.out.setCell (p := ⟨g, kq, none⟩) (by show w.heap.size ≤ g; omega) _)
      have HVS : Hid (ValsA wz.heap.size g wS (some ⟨bo, oo, none⟩) on oc (ixVals xss on)) := hid (by rw [hwS]; exact HV2.out.keep (fun j h1 h2 => heap_setCell_other _ _ j _ (by show j ≠ g; omega)))
      have hszS : w1.heap.size ≤ wS.heap.size := by rw [hwS]; simpa [World.setCell] using hsz2
      have HTOP : Hid (nn < qn → top ≤ ix (rx L q) nn) := hid (fun h => by
        have h1 := HASC.out pq (by omega); have h2 := HVE.out; have h3 := HV.out; rw [hnn]; omega)
      have hlenS : outS.length ≤ s' + 1 := by have := HQ.out.2.2.1; rw [houtS]; simp; omega
      have hnle : nn ≤ qn := by omega
      rw [← hnn, ← houtS] at HLH
      rw [← haS] at hooS
      rw [← haS, ← hmS, ← hcS]
      clear hwS haS hmS hcS houtS hnn hcg1 hcg2 hcq1 hcq2
      have hlS : wS.cell? ⟨b, off + kq, none⟩ = some (.slice (some ⟨qb, qo, none⟩) qn qc) := by rw [World.cell?_of_block (w := wr) (HBS.out.block b hbw)]; exact hlcq
      have hcS := HATS.out.cell hkq
      rw [ox_set (by rw [HPL.out]; exact hkq), if_pos rfl] at hcS
      have hcS1 := hcS.1
      clear hcS
      by_cases hend : nn = qn
      · have hendb : ((nn : Int) == (qn : Int)) = true := by simp; omega
        have HEND := hid hend; clear hend
        have HR2 := hid (HLH.out.1 (by have := HEND.out; have := HQN.out; omega))
        go_quiet (fail)
        go_wp2
        go_ret2
        have hRR := HR2.out
        rw [hRR]
        exact ⟨aS, mS, cS, rfl, HOS.out.drewN _, HBQ.out.trans (below_drewN HBS.out _)⟩
      · have hendb : ((nn : Int) == (qn : Int)) = false := by simp; omega
        have hpn : nn < qn := by omega
        have HEND := hid hend; clear hend
        have hnc2 : wS.cell? ⟨qb, qo + nn, none⟩ = some (.int .i64 (ix (rx L q) nn)) := by
          rw [World.cell?_of_block (w := wr) (HBS.out.block qb (by omega))]; exact HQC.out nn hpn
        have HR2 := hid (HLH.out.2 (by have := HEND.out; have := HQN.out; omega))
        have HRO := hid (HOKR.out.next (k := q) (v := nn) (by rw [HLLEN.out]; exact HQ.out.1) (by have := HEND.out; have := HQN.out; omega) (HTOP.out hpn))
        have HN64 := hid (HNX.out nn hpn)
        go_quiet (fail)
        go_wp2
        go_quiet (fail)
        go_wp2
        go_roundg f
        case measure => have := HF.out; omega
        case rel => exact ⟨s' + 1, ix (rx L q) nn, outS, pl.set kq nn, aS, mS, cS, rfl, by rw [HNX2.out], rfl, by go_num, HN64.out, HOS.out.drewN _, hooS, HATS.out, HVS.out.drewN _, HBQ.out.trans (below_drewN HBS.out _), by have := hszS; simpa using this, by rw [HPM.out.2]; exact HR2.out, by rw [HPM.out.2]; exact HRO.out, hlenS, by have := HQ.out.2.2.2; have := HF.out; omega⟩
    · have hvb : (v == top) = false := by simp [hv]
      have HV := hid hv; clear hv
      go_wp2
      go_quiet (fail)
      go_wp2
      go_region_law (first | (go_simp; go_at_call 12; refine (specSeek _ qn qc (rx L q) _ top _ (HQR.out.drewN _)).mono ?_; rintro e w2' ⟨rfl, m3, rfl⟩))
      all_goals go_wp2
      all_goals (
        obtain ⟨nn, hqq, hq1, hq2, hq3⟩ := seekF_nat (rx L q) pq top
        have HLH := hid (leap_seek (f := f) (by rw [← HF.out]; exact HLP.out) HMQ.out (by rw [HPM.out.1, HVE.out]; exact HV.out) (by rw [HPM.out.1]; exact hqq))
        rw [hqq]
        obtain ⟨wS, hwS⟩ : ∃ wS : World, wS = (wr.drewN (nq + 1 + m3)).setCell ⟨g, kq, none⟩ (.int .i64 (nn : Int)) := ⟨_, rfl⟩
        rw [← hwS]
        have hooS := hoo
        have hnle : nn ≤ qn := by have := HQN.out; omega
        have HOS : Hid (Own w.heap.size wS ao m co' outL) := hid (by
          rw [hwS]; exact (HOUT.out.drewN (nq + 1 + m3)).put hooS (by omega) hszA _)
        have HATS : Hid (AtA g wS on (pl.set kq nn)) := hid (by rw [hwS]; exact AtA.set (w := wr.drewN (nq + 1 + m3)) HATQ.out kq nn)
        have HBS : Hid (Below w.heap.size wr wS) := hid (by rw [hwS]; exact (below_drewN (Below.refl _ _) _).setCell (p := ⟨g, kq, none⟩) (by show w.heap.size ≤ g; omega) _)
        have HVS : Hid (ValsA wz.heap.size g wS (some ⟨bo, oo, none⟩) on oc (ixVals xss on)) := hid (by rw [hwS]; exact (HVQ.out.drewN (nq + 1 + m3)).keep (fun j h1 h2 => heap_setCell_other _ _ j _ (by show j ≠ g; omega)))
        have hszS : w1.heap.size ≤ wS.heap.size := by rw [hwS]; simpa [World.setCell] using hszq
        have HTOP : Hid (nn < qn → top ≤ ix (rx L q) nn) := hid (fun h => (hq2 (by have := HQN.out; omega)).2)
        have hlenS : outL.length ≤ s' + 1 := by have := HQ.out.2.2.1; omega
        clear hqq hq1 hq2 hq3 hwS hcq1 hcq2
        obtain ⟨aS, haS⟩ : ∃ aS, aS = ao := ⟨_, rfl⟩
        obtain ⟨mS, hmS⟩ : ∃ mS, mS = m := ⟨_, rfl⟩
        obtain ⟨cS, hcS⟩ : ∃ cS, cS = co' := ⟨_, rfl⟩
        obtain ⟨outS, houtS⟩ : ∃ outS, outS = outL := ⟨_, rfl⟩
        rw [← haS] at hooS
        rw [← haS, ← hmS, ← hcS, ← houtS] at HOS
        rw [← houtS] at HLH hlenS
        rw [← haS, ← hmS, ← hcS]
        clear haS hmS hcS houtS
        have hlS : wS.cell? ⟨b, off + kq, none⟩ = some (.slice (some ⟨qb, qo, none⟩) qn qc) := by rw [World.cell?_of_block (w := wr) (HBS.out.block b hbw)]; exact hlcq
        have hcS := HATS.out.cell hkq
        rw [ox_set (by rw [HPL.out]; exact hkq), if_pos rfl] at hcS
        have hcS1 := hcS.1
        clear hcS
        by_cases hend : nn = qn
        · have hendb : ((nn : Int) == (qn : Int)) = true := by simp; omega
          have HEND := hid hend; clear hend
          have HR2 := hid (HLH.out.1 (by have := HEND.out; have := HQN.out; omega))
          go_quiet (fail)
          go_wp2
          go_ret2
          have hRR := HR2.out
          rw [hRR]
          exact ⟨aS, mS, cS, rfl, HOS.out.drewN _, HBQ.out.trans (below_drewN HBS.out _)⟩
        · have hendb : ((nn : Int) == (qn : Int)) = false := by simp; omega
          have hpn : nn < qn := by omega
          have HEND := hid hend; clear hend
          have hnc2 : wS.cell? ⟨qb, qo + nn, none⟩ = some (.int .i64 (ix (rx L q) nn)) := by
            rw [World.cell?_of_block (w := wr) (HBS.out.block qb (by omega))]; exact HQC.out nn hpn
          have HR2 := hid (HLH.out.2 (by have := HEND.out; have := HQN.out; omega))
          have HRO := hid (HOKR.out.next (k := q) (v := nn) (by rw [HLLEN.out]; exact HQ.out.1) (by have := HEND.out; have := HQN.out; omega) (HTOP.out hpn))
          have HN64 := hid (HNX.out nn hpn)
          go_quiet (fail)
          go_wp2
          go_quiet (fail)
          go_wp2
          go_roundg f
          case measure => have := HF.out; omega
          case rel => exact ⟨s' + 1, ix (rx L q) nn, outS, pl.set kq nn, aS, mS, cS, rfl, by rw [HNX2.out], rfl, by go_num, HN64.out, HOS.out.drewN _, hooS, HATS.out, HVS.out.drewN _, HBQ.out.trans (below_drewN HBS.out _), by have := hszS; simpa using this, by rw [HPM.out.2]; exact HR2.out, by rw [HPM.out.2]; exact HRO.out, hlenS, by have := HQ.out.2.2.2; have := HF.out; omega⟩)
end Go.Proofs.Ytkhilfgkejienaa
