/- The walk of the implementation's test of a query. -/
import Derived.Test.YtalfldflnacpeaaB2
import Derived.Test.YtalfldflnacpeaaAQ
namespace Go.Proofs.Ytalfldflnacpeaa
set_option linter.unusedSimpArgs false
set_option linter.unusedVariables false
open Go.RowKit
theorem infoBool : (Try.prog.info? 4).map (fun i => (i.zero, i.size, i.bytes)) = some (some (.bool false), 1, 1) := by kernel_rfl
/-- block g holds the bools us -/
def BoolsAt (g : Nat) (w : World) (n : Nat) (us : List Bool) : Prop := w.ownsRow g 4 1 (.slice (some ⟨g, 0, none⟩) n n) n (us.map Value.bool)
def bx (us : List Bool) (i : Nat) : Bool := us.getD i false
theorem BoolsAt.len {g : Nat} {w : World} {n : Nat} {us : List Bool} (h : BoolsAt g w n us) : us.length = n := by have := h.1; simpa using this
theorem BoolsAt.cell {g : Nat} {w : World} {n : Nat} {us : List Bool} (h : BoolsAt g w n us) {q : Nat} (hq : q < n) : w.cell? ⟨g, q, none⟩ = some (.bool (bx us q)) ∧ w.frozen? ⟨g, q, none⟩ = false := by
  have hl := h.len
  have := h.cells (g := g) rfl q (.bool (bx us q)) (by rw [List.getElem?_map, List.getElem?_eq_getElem (by omega)]; simp [bx, hl, hq])
  rw [Addr.add_lit] at this
  exact ⟨by simpa using this, h.frozenAt q⟩
theorem BoolsAt.be {g : Nat} {w w' : World} {n : Nat} {us : List Bool} (h : BoolsAt g w n us) (hb : Below w.heap.size w w') : BoolsAt g w' n us :=
  World.ownsRow.kept h (row := none) ⟨hb.os, hb.tape, hb.output, hb.size, fun k hk _ => hb.block k hk⟩ (.inr (by simp [Value.ownBlock]))
theorem BoolsAt.set {g : Nat} {w : World} {n : Nat} {us : List Bool} (h : BoolsAt g w n us) (q : Nat) (b : Bool) : BoolsAt g (w.setCell ⟨g, q, none⟩ (.bool b)) n (us.set q b) := by
  have := (h.stored q (.bool b)).1
  rw [show (us.map Value.bool).set q (.bool b) = (us.set q b).map Value.bool by rw [List.map_set]] at this
  exact this
theorem BoolsAt.lt {g : Nat} {w : World} {n : Nat} {us : List Bool} (h : BoolsAt g w n us) : g < w.heap.size := (World.ownsRow.lt h g rfl).2
/-- variable v occurs in one of the first i atoms, or among the first j variables of atom i -/
def Seen (xs : List AtomD) (i j : Nat) (v : Nat) : Prop := (∃ i', i' < i ∧ occ (ax xs i').vs v = true) ∨ ∃ j', j' < j ∧ ix (ax xs i).vs j' = (v : Int)
def SeenAll (xs : List AtomD) (i j n : Nat) (us : List Bool) : Prop := us.length = n ∧ ∀ v, v < n → (bx us v = true ↔ Seen xs i j v)
theorem bx_set (us : List Bool) (q v : Nat) (hq : q < us.length) : bx (us.set q true) v = true ↔ v = q ∨ bx us v = true := by
  unfold bx
  by_cases e : v = q
  · subst e; simp [List.getD, hq]
  · simp only [List.getD, List.getElem?_set_ne (Ne.symm e)]
    exact ⟨fun h => .inr h, fun h => h.elim (fun h => absurd h e) id⟩
theorem SeenAll.step {xs : List AtomD} {i j n q : Nat} {us : List Bool} (h : SeenAll xs i j n us) (hq : q < n) (hx : ix (ax xs i).vs j = (q : Int)) : SeenAll xs i (j + 1) n (us.set q true) := by
  refine ⟨by simpa using h.1, fun v hv => ?_⟩
  rw [bx_set us q v (by rw [h.1]; exact hq), h.2 v hv]
  constructor
  · rintro (rfl | h1 | ⟨j', h1, h2⟩)
    · exact .inr ⟨j, by omega, hx⟩
    · exact .inl h1
    · exact .inr ⟨j', by omega, h2⟩
  · rintro (h1 | ⟨j', h1, h2⟩)
    · exact .inr (.inl h1)
    · by_cases e : j' = j
      · subst e; rw [hx] at h2; left; omega
      · exact .inr (.inr ⟨j', by omega, h2⟩)
theorem SeenAll.next {xs : List AtomD} {i n : Nat} {us : List Bool} (h : SeenAll xs i (ax xs i).vs.length n us) : SeenAll xs (i + 1) 0 n us := by
  refine ⟨h.1, fun v hv => ?_⟩
  rw [h.2 v hv]
  constructor
  · rintro (⟨i', h1, h2⟩ | ⟨j', h1, h2⟩)
    · exact .inl ⟨i', by omega, h2⟩
    · refine .inl ⟨i, by omega, ?_⟩
      cases ho : occ (ax xs i).vs v with
      | true => rfl
      | false =>
        have : ¬ 0 ≤ findF (ax xs i).vs v := by simpa [occ] using ho
        exact absurd h2 (findF_miss this j' h1)
  · rintro (⟨i', h1, h2⟩ | ⟨j', h1, _⟩)
    · by_cases e : i' = i
      · subst e
        obtain ⟨j', g1, g2⟩ := findF_hit (by simpa [occ] using h2)
        exact .inr ⟨j', g1, g2⟩
      · exact .inl ⟨i', by omega, h2⟩
    · omega
theorem SeenAll.start (xs : List AtomD) (n : Nat) : SeenAll xs 0 0 n (List.replicate n false) := by
  refine ⟨by simp, fun v hv => ?_⟩
  constructor
  · intro h; simp [bx, hv] at h
  · rintro (⟨i', h1, _⟩ | ⟨j', h1, _⟩) <;> omega
theorem SeenAll.cov {xs : List AtomD} {n : Nat} {us : List Bool} (h : SeenAll xs xs.length 0 n us) (ha : ∀ v, v < n → bx us v = true) : CovOK n xs := by
  intro v hv
  have := (h.2 v (by omega)).1 (ha v (by omega))
  rcases this with ⟨i, h1, h2⟩ | ⟨j', h1, _⟩
  · exact ⟨i, h1, h2⟩
  · omega
theorem SeenAll.nocov {xs : List AtomD} {n : Nat} {us : List Bool} (h : SeenAll xs xs.length 0 n us) {v : Nat} (hv : v < n) (ha : bx us v = false) : ¬ CovOK n xs := by
  intro hc
  obtain ⟨i, h1, h2⟩ := hc v (by omega)
  have := (h.2 v hv).2 (.inl ⟨i, h1, h2⟩)
  rw [ha] at this; cases this
theorem intsAtB {fz : Bool} {lo hi : Nat} {w : World} {a : Option Addr} {n c : Nat} {xs : List Int} (h : IntsA fz lo hi w a n c xs) {i : Nat} (hi' : i < n) :
    ∃ b off, a = some ⟨b, off, none⟩ ∧ w.cell? ⟨b, off + i, none⟩ = some (.int .i64 (ix xs i)) ∧ I64 (ix xs i) := by
  obtain ⟨b, off, rfl, _, _, hc, _⟩ := h.open (by omega)
  exact ⟨b, off, rfl, hc i hi', h.at hi'⟩
theorem setB_iff (us : List Int) (n : Int) : setB us n = true ↔ SetTo us n us.length := by simp [setB]
set_option maxRecDepth 100000 in
set_option maxHeartbeats 6400000 in
theorem implValidQ {fz : Bool} {lo hi : Nat} (nv : Int) (a : Option Addr) (n c : Nat) (xs : List AtomD) (ua : Option Addr) (un uc : Nat) (us : List Int) (w : World) (hI : QueryA fz lo hi w nv a n c xs ua un uc us) (hh : hi ≤ w.heap.size) :
    Calls Try.prog 42 #[queryV nv a n c ua un uc] w (Leaves w (.bool (qOK nv xs us))) := by
  have hlx := hI.2.1.len
  have hsx := hI.2.1.small
  have HL := hid (And.intro hlx hI.2.2.len); clear hlx
  have HI := hid hI; clear hI
  by_cases h1 : 1 ≤ nv ∧ nv ≤ 5
  · have hd1 : decide (1 ≤ nv ∧ nv ≤ 5) = true := by simpa using h1
    obtain ⟨m, rfl⟩ := Int.eq_ofNat_of_zero_le (show 0 ≤ nv by omega)
    have hm1 : 1 ≤ m := by omega
    have hm5 : m ≤ 5 := by omega
    by_cases h2 : (1 : Int) ≤ n ∧ (n : Int) ≤ 4
    · have hd2 : decide ((1 : Int) ≤ n ∧ (n : Int) ≤ 4) = true := by simpa using h2
      obtain ⟨sb, hsb⟩ : ∃ sb, setB us m = sb := ⟨_, rfl⟩
      have HSB := hid hsb; clear hsb
      cases sb with
      | false =>
        have HF := hid (qOK_set (nv := (m : Int)) (xs := xs) (us := us) (fun g => by have := (setB_iff us m).2 g; rw [HSB.out] at this; cases this))
        have H12 := hid (And.intro h1 h2); clear h1 h2
        go_enter Try.func42, Try.ntmps42
        go_wp2_with fail
        refine (implWithin (m : Int) 1 5 _).mono ?_
        rintro e w1 ⟨rfl, m1, rfl⟩
        rw [hd1]
        go_wp2_with fail
        refine (implWithin (n : Int) 1 4 _).mono ?_
        rintro e w2 ⟨rfl, m2, rfl⟩
        rw [hd2]
        go_wp2_with fail
        refine (implIsSet ua un uc us m _ (beInts (B := w.heap.size) HI.out.2.2 (by repeat (first | with_reducible assumption | with_reducible exact Below.refl _ _ | with_reducible refine below_drewN ?_ _ | with_reducible refine Below.al ?_ (by first | with_reducible exact Nat.le_refl _ | omega | (simp; done) | (simp; omega) | exact Nat.le_refl _) _ | with_reducible refine Below.setCell ?_ (by first | with_reducible exact Nat.le_refl _ | omega | (simp; done) | (simp; omega) | exact Nat.le_refl _) _ | assumption | exact Below.refl _ _ | refine below_drewN ?_ _ | refine Below.al ?_ (by first | with_reducible exact Nat.le_refl _ | omega | (simp; done) | (simp; omega) | exact Nat.le_refl _) _ | refine Below.setCell ?_ (by first | with_reducible exact Nat.le_refl _ | omega | (simp; done) | (simp; omega) | exact Nat.le_refl _) _)) hh) (by omega) (by omega)).mono ?_
        rintro e w3 ⟨rfl, m3, rfl⟩
        rw [HSB.out]
        go_wp2_with fail
        go_ret
        exact ⟨by rw [HF.out]; rfl, (by repeat (first | with_reducible assumption | with_reducible exact Below.refl _ _ | with_reducible refine below_drewN ?_ _ | with_reducible refine Below.al ?_ (by first | with_reducible exact Nat.le_refl _ | omega | (simp; done) | (simp; omega) | exact Nat.le_refl _) _ | with_reducible refine Below.setCell ?_ (by first | with_reducible exact Nat.le_refl _ | omega | (simp; done) | (simp; omega) | exact Nat.le_refl _) _ | assumption | exact Below.refl _ _ | refine below_drewN ?_ _ | refine Below.al ?_ (by first | with_reducible exact Nat.le_refl _ | omega | (simp; done) | (simp; omega) | exact Nat.le_refl _) _ | refine Below.setCell ?_ (by first | with_reducible exact Nat.le_refl _ | omega | (simp; done) | (simp; omega) | exact Nat.le_refl _) _))⟩
      | true =>
        have HST := hid ((setB_iff us m).1 HSB.out)
        have HHD : Hid (HeadOK m xs.length) := hid ⟨h1, by have := HL.out.1; omega⟩
        have H12 := hid (And.intro h1 h2); clear h1 h2
        obtain ⟨i0, hi0, hz0, hz1, hz2⟩ := info_parts infoBool
        go_enter Try.func42, Try.ntmps42
        go_wp2_with fail
        refine (implWithin (m : Int) 1 5 _).mono ?_
        rintro e w1 ⟨rfl, m1, rfl⟩
        rw [hd1]
        go_wp2_with fail
        refine (implWithin (n : Int) 1 4 _).mono ?_
        rintro e w2 ⟨rfl, m2, rfl⟩
        rw [hd2]
        go_wp2_with fail
        refine (implIsSet ua un uc us m _ (beInts (B := w.heap.size) HI.out.2.2 (by repeat (first | with_reducible assumption | with_reducible exact Below.refl _ _ | with_reducible refine below_drewN ?_ _ | with_reducible refine Below.al ?_ (by first | with_reducible exact Nat.le_refl _ | omega | (simp; done) | (simp; omega) | exact Nat.le_refl _) _ | with_reducible refine Below.setCell ?_ (by first | with_reducible exact Nat.le_refl _ | omega | (simp; done) | (simp; omega) | exact Nat.le_refl _) _ | assumption | exact Below.refl _ _ | refine below_drewN ?_ _ | refine Below.al ?_ (by first | with_reducible exact Nat.le_refl _ | omega | (simp; done) | (simp; omega) | exact Nat.le_refl _) _ | refine Below.setCell ?_ (by first | with_reducible exact Nat.le_refl _ | omega | (simp; done) | (simp; omega) | exact Nat.le_refl _) _)) hh) (by omega) (by omega)).mono ?_
        rintro e w3 ⟨rfl, m3, hw3⟩
        rw [HSB.out]
        have k0 : w3.cell? ⟨w.heap.size, 0, none⟩ = some (.int .i64 m) := by rw [hw3]; simp
        have k1 : w3.cell? ⟨w.heap.size, 1, none⟩ = some (.slice a n c) := by rw [hw3]; simp
        have hb3 : Below w.heap.size w w3 := by rw [hw3]; exact (by repeat (first | with_reducible assumption | with_reducible exact Below.refl _ _ | with_reducible refine below_drewN ?_ _ | with_reducible refine Below.al ?_ (by first | with_reducible exact Nat.le_refl _ | omega | (simp; done) | (simp; omega) | exact Nat.le_refl _) _ | with_reducible refine Below.setCell ?_ (by first | with_reducible exact Nat.le_refl _ | omega | (simp; done) | (simp; omega) | exact Nat.le_refl _) _ | assumption | exact Below.refl _ _ | refine below_drewN ?_ _ | refine Below.al ?_ (by first | with_reducible exact Nat.le_refl _ | omega | (simp; done) | (simp; omega) | exact Nat.le_refl _) _ | refine Below.setCell ?_ (by first | with_reducible exact Nat.le_refl _ | omega | (simp; done) | (simp; omega) | exact Nat.le_refl _) _))
        have hz3 : w.heap.size < w3.heap.size := World.block_lt_of_cell? _ _ k0
        have HB3 := hid hb3; clear hb3 hw3
        go_wp2_with (at_make; refine wpList_make_full _ rfl _ _ 72 rfl w3.heap.size 4 i0 (.bool false) 1 Try.underlying72 hi0 hz0 hz1 _ _ _ _ m rfl rfl rfl rfl ?b1 ?b2 ?b3 ?_)
        case b1 => rw [hz2]; omega
        case b2 => unfold maxLen; omega
        case b3 => exact Nat.le_refl _
        intro w4 hown hgrow
        have hb4 : Below w3.heap.size w3 w4 := (Below.refl _ _).grown hgrow (Nat.le_refl _) (fun k h => by cases h)
        have hU : BoolsAt w3.heap.size w4 m (List.replicate m false) := by
          have := hown
          rw [toList_madeCells_one] at this
          unfold BoolsAt
          rw [List.map_replicate]; exact this
        have hz4 := hU.lt
        replace k0 : w4.cell? ⟨w.heap.size, 0, none⟩ = some (.int .i64 m) := by rw [(bcell hb4).1 _ _ hz3]; exact k0
        replace k1 : w4.cell? ⟨w.heap.size, 1, none⟩ = some (.slice a n c) := by rw [(bcell hb4).1 _ _ hz3]; exact k1
        have HA := hid (beAtoms HI.out.2.1 (HB3.out.trans (hb4.mono (by omega))) hh)
        have HU := hid hU
        have HB4 := hid (HB3.out.trans (hb4.mono (show w.heap.size ≤ w3.heap.size by omega)))
        clear hb4 hown hgrow hU
        obtain ⟨g, hg⟩ : ∃ g, g = w3.heap.size := ⟨_, rfl⟩
        have HUg : Hid (BoolsAt g w4 m (List.replicate m false)) := hid (by rw [hg]; exact HU.out)
        have hgw : w.heap.size < g := by omega
        have hg4 : g < w4.heap.size := by omega
        rw [← hg]
        have HG := hid hg; clear hg HU
        go_wp2_with fail
        go_loopw [35] (fun s wr => ∃ (i : Nat) (bs : List Bool), s = .int .i64 i ∧ i ≤ n ∧ Hid (BoolsAt g wr m bs) ∧ Hid (SeenAll xs i 0 m bs) ∧ Hid (∀ j, j < i → AtomOK m (ax xs j)) ∧ Hid (Below g w4 wr)) (fun s _ => n - (intOf s).toNat)
        case atStart => exact ⟨0, _, rfl, by omega, HUg, hid (SeenAll.start xs m), hid (fun j hj => by omega), hid (Below.refl _ _)⟩
        case round =>
          obtain ⟨i, bs, rfl, hi, HBS, HSN, HAO, HBW⟩ := hrel
          have hzr := HBW.out.size
          have HBWW := hid (HB4.out.trans (HBW.out.mono (show w.heap.size ≤ g by omega)))
          by_cases hlt : i < n
          · have hAr := beAtoms HI.out.2.1 HBWW.out hh
            obtain ⟨b, off, rfl⟩ := atomsSome hAr (by omega)
            obtain ⟨_, _, hsz, ra, rn, rc, d0, d1, hr, _⟩ := atomsAt hAr hlt
            have hrl := hr.len
            have hrs := hr.small
            have HAR := hid (And.intro hAr hr); clear hAr hr
            have HRL := hid hrl; clear hrl
            obtain ⟨nb, hnb⟩ : ∃ nb, nameOK (ax xs i).nm = nb := ⟨_, rfl⟩
            have HNB := hid hnb; clear hnb
            obtain ⟨nm, hnm⟩ : ∃ nm, nm = (ax xs i).nm := ⟨_, rfl⟩
            rw [← hnm] at d0 hsz
            have HNM := hid hnm; clear hnm
            have HFA := hid (fun (hn : ¬ AtomOK m (ax xs i)) => qOK_atom (us := us) (by rw [HL.out.1]; exact hlt) hn)
            have HNC := hid (fun w' => by have := implName nm w' hsz; rwa [show nameOK nm = nb by rw [HNM.out]; exact HNB.out] at this)
            cases nb with
            | false =>
              have HF := hid (HFA.out (fun g => by have := g.1; rw [HNB.out] at this; cases this))
              go_wp2_with fail
              refine (HNC.out _).mono ?_
              rintro e w5 ⟨rfl, hb5⟩
              have HB5 := hid (Below.trans (B := w.heap.size) (Below.trans HBWW.out (by repeat (first | with_reducible assumption | with_reducible exact Below.refl _ _ | with_reducible refine below_drewN ?_ _ | with_reducible refine Below.al ?_ (by first | with_reducible exact Nat.le_refl _ | omega | (simp; done) | (simp; omega) | exact Nat.le_refl _) _ | with_reducible refine Below.setCell ?_ (by first | with_reducible exact Nat.le_refl _ | omega | (simp; done) | (simp; omega) | exact Nat.le_refl _) _ | assumption | exact Below.refl _ _ | refine below_drewN ?_ _ | refine Below.al ?_ (by first | with_reducible exact Nat.le_refl _ | omega | (simp; done) | (simp; omega) | exact Nat.le_refl _) _ | refine Below.setCell ?_ (by first | with_reducible exact Nat.le_refl _ | omega | (simp; done) | (simp; omega) | exact Nat.le_refl _) _))) (hb5.mono (by first | with_reducible exact Nat.le_refl _ | omega | (simp; done) | (simp; omega) | exact Nat.le_refl _))); clear hb5
              go_wp2_with fail
              go_ret
              exact ⟨by rw [HF.out]; rfl, HB5.out⟩
            | true =>
              by_cases h5 : (1 : Int) ≤ rn ∧ (rn : Int) ≤ 5
              · have hd5 : decide ((1 : Int) ≤ rn ∧ (rn : Int) ≤ 5) = true := by simpa using h5
                have hr5 : rn ≤ 5 := by omega
                have H5 := hid h5; clear h5
                go_wp2_with fail
                refine (HNC.out _).mono ?_
                rintro e w5 ⟨rfl, hb5⟩
                have c50 : w5.cell? ⟨wr.heap.size, 0, none⟩ = some (.string nm) := (by rw [(bcell hb5).1 _ _ (by first | omega | (simp; done) | (simp; omega))]; first | with_reducible assumption | (go_simp; done) | assumption | (simp [World.cell?]; done))
                have c51 : w5.cell? ⟨wr.heap.size, 1, none⟩ = some (.slice ra rn rc) := (by rw [(bcell hb5).1 _ _ (by first | omega | (simp; done) | (simp; omega))]; first | with_reducible assumption | (go_simp; done) | assumption | (simp [World.cell?]; done))
                have hz5 : wr.heap.size < w5.heap.size := World.block_lt_of_cell? _ _ c50
                have hb6 : Below wr.heap.size wr w5 := Below.trans (by repeat (first | with_reducible assumption | with_reducible exact Below.refl _ _ | with_reducible refine below_drewN ?_ _ | with_reducible refine Below.al ?_ (by first | with_reducible exact Nat.le_refl _ | omega | (simp; done) | (simp; omega) | exact Nat.le_refl _) _ | with_reducible refine Below.setCell ?_ (by first | with_reducible exact Nat.le_refl _ | omega | (simp; done) | (simp; omega) | exact Nat.le_refl _) _ | assumption | exact Below.refl _ _ | refine below_drewN ?_ _ | refine Below.al ?_ (by first | with_reducible exact Nat.le_refl _ | omega | (simp; done) | (simp; omega) | exact Nat.le_refl _) _ | refine Below.setCell ?_ (by first | with_reducible exact Nat.le_refl _ | omega | (simp; done) | (simp; omega) | exact Nat.le_refl _) _)) (hb5.mono (by first | with_reducible exact Nat.le_refl _ | omega | (simp; done) | (simp; omega) | exact Nat.le_refl _))
                have HB6 := hid hb6
                have HBS5 := hid (HBS.out.be hb6)
                have HBW5 := hid (HBW.out.trans (hb6.mono (by omega)))
                clear hb5 hb6
                go_wp2_with fail
                refine (implWithin (rn : Int) 1 5 _).mono ?_
                rintro e w6 ⟨rfl, m6, hw6⟩
                rw [hd5]
                replace c50 : w6.cell? ⟨wr.heap.size, 0, none⟩ = some (.string nm) := by rw [hw6]; exact c50
                replace c51 : w6.cell? ⟨wr.heap.size, 1, none⟩ = some (.slice ra rn rc) := by rw [hw6]; exact c51
                have HBS6 : Hid (BoolsAt g w6 m bs) := hid (by rw [hw6]; exact HBS5.out)
                have HBW6 : Hid (Below g w4 w6) := hid (by rw [hw6]; exact below_drewN HBW5.out _)
                clear hw6
                go_wp2_with fail
                obtain ⟨wo, hwo⟩ : ∃ wo : World, wo = wr := ⟨_, rfl⟩
                rw [← hwo] at *
                clear hwo
                go_loopw [53] (fun s wr => ∃ (j : Nat) (bs : List Bool), s = .int .i64 j ∧ j ≤ rn ∧ Hid (BoolsAt g wr m bs) ∧ Hid (SeenAll xs i j m bs) ∧ Hid (∀ q, q < j → 0 ≤ ix (ax xs i).vs q ∧ ix (ax xs i).vs q ≤ (m : Int) - 1) ∧ Hid (Below g w4 wr)) (fun s _ => rn - (intOf s).toNat)
                case atStart => exact ⟨0, bs, rfl, by omega, HBS6, HSN, hid (fun q hq => by omega), HBW6⟩
                case round =>
                  obtain ⟨j, cs, rfl, hj, HCS, HSC, HVV, HCW⟩ := hrel
                  have hzc := HCW.out.size
                  have HCWW := hid (HB4.out.trans (HCW.out.mono (show w.heap.size ≤ g by omega)))
                  have hAc := beAtoms HI.out.2.1 HCWW.out hh
                  obtain ⟨_, _, _, ra', rn', rc', _, d1', hr', _⟩ := atomsAt hAc hlt
                  have hrr : wr.cell? ⟨b, off + i * 2 + 1, none⟩ = some (.slice ra rn rc) := by
                    have hbg : b < g := by
                      obtain ⟨b', o', e, _, h2, _⟩ := HI.out.2.1.open (show 0 < n by omega)
                      simp only [Option.some.injEq, Addr.mk.injEq, and_true] at e
                      omega
                    rw [HCW.out.cell (p := ⟨b, off + i * 2 + 1, none⟩) hbg, ← HBW.out.cell (p := ⟨b, off + i * 2 + 1, none⟩) hbg]
                    exact d1
                  rw [hrr] at d1'
                  simp only [Option.some.injEq, Value.slice.injEq] at d1'
                  obtain ⟨rfl, rfl, rfl⟩ := d1'
                  clear hrr
                  have HRC := hid (And.intro hAc hr'); clear hAc hr'
                  by_cases hltj : j < rn
                  · obtain ⟨vb, vo, rfl, y0, _⟩ := intsAtB HRC.out.2 hltj
                    have HX0 := hid (show ix (ax xs i).vs j = ix (ax xs i).vs j from rfl)
                    obtain ⟨x, hx⟩ : ∃ x, ix (ax xs i).vs j = x := ⟨_, rfl⟩
                    rw [hx] at y0
                    have hw1 : IntKind.i64.wrap ((m : Int) - 1) = (m : Int) - 1 := IntWalk.i64_in _ (by omega)
                    by_cases h6 : 0 ≤ x ∧ x ≤ (m : Int) - 1
                    · have hd6 : decide (0 ≤ x ∧ x ≤ (m : Int) - 1) = true := by simpa using h6
                      obtain ⟨q, rfl⟩ := Int.eq_ofNat_of_zero_le h6.1
                      have hqm : q < m := by omega
                      have HSC2 := hid (HSC.out.step hqm hx)
                      have HVV2 : Hid (∀ q, q < j + 1 → 0 ≤ ix (ax xs i).vs q ∧ ix (ax xs i).vs q ≤ (m : Int) - 1) := hid (fun q' hq' => by
                        by_cases e : q' = j
                        · subst e; rw [hx]; exact h6
                        · exact HVV.out q' (by omega))
                      obtain ⟨u0, u1⟩ := HCS.out.cell hqm
                      have HCS2 := hid (HCS.out.set q true)
                      have HCW2 : Hid (Below g w4 (wr.setCell ⟨g, q, none⟩ (.bool true))) := hid (Below.setCell HCW.out (Nat.le_refl _) _)
                      have hqi : (q : Int) < (m : Int) := by omega
                      have H6 := hid (And.intro h6 hx); clear h6 hx
                      go_wp2_with fail
                      refine (implWithin (q : Int) 0 ((m : Int) - 1) _).mono ?_
                      rintro e w7 ⟨rfl, m7, rfl⟩
                      rw [hd6]
                      go_wp2_with fail
                      go_roundw
                      case rel => exact ⟨j + 1, _, by go_num, by omega, hid HCS2.out, HSC2, HVV2, hid (below_drewN HCW2.out _)⟩
                      case measure => simp [intOf]; omega
                    · have hd6 : decide (0 ≤ x ∧ x ≤ (m : Int) - 1) = false := by simpa using h6
                      have HF := hid (HFA.out (fun g => h6 (by have := g.2.2 j (by rw [HRL.out]; exact hltj); rwa [hx] at this)))
                      have H6 := hid (And.intro h6 hx); clear h6 hx
                      go_wp2_with fail
                      refine (implWithin x 0 ((m : Int) - 1) _).mono ?_
                      rintro e w7 ⟨rfl, m7, rfl⟩
                      rw [hd6]
                      go_wp2_with fail
                      go_ret
                      exact ⟨by rw [HF.out]; rfl, below_drewN HCWW.out _⟩
                  · have hjl : j = (ax xs i).vs.length := by have := HRL.out; omega
                    have HSN2 : Hid (SeenAll xs (i + 1) 0 m cs) := hid (SeenAll.next (by have := HSC.out; rwa [hjl] at this))
                    have HAO2 : Hid (∀ q, q < i + 1 → AtomOK m (ax xs q)) := hid (fun q hq => by
                      by_cases e : q = i
                      · subst e; exact ⟨HNB.out, by have := HRL.out; have := H5.out; omega, fun t ht => HVV.out t (by omega)⟩
                      · exact HAO.out q (by omega))
                    clear hjl
                    go_wp2_with fail
                    go_roundw
                    case rel => exact ⟨i + 1, cs, by go_num, by omega, HCS, HSN2, HAO2, HCW⟩
                    case measure => simp [intOf]; omega
              · have hd5 : decide ((1 : Int) ≤ rn ∧ (rn : Int) ≤ 5) = false := by simpa using h5
                have HF := hid (HFA.out (fun g => h5 (by have g2 := g.2.1; have := HRL.out; omega)))
                have H5 := hid h5; clear h5
                go_wp2_with fail
                refine (HNC.out _).mono ?_
                rintro e w5 ⟨rfl, hb5⟩
                have c50 : w5.cell? ⟨wr.heap.size, 0, none⟩ = some (.string nm) := (by rw [(bcell hb5).1 _ _ (by first | omega | (simp; done) | (simp; omega))]; first | with_reducible assumption | (go_simp; done) | assumption | (simp [World.cell?]; done))
                have c51 : w5.cell? ⟨wr.heap.size, 1, none⟩ = some (.slice ra rn rc) := (by rw [(bcell hb5).1 _ _ (by first | omega | (simp; done) | (simp; omega))]; first | with_reducible assumption | (go_simp; done) | assumption | (simp [World.cell?]; done))
                have HB5 := hid (Below.trans (B := w.heap.size) (Below.trans HBWW.out (by repeat (first | with_reducible assumption | with_reducible exact Below.refl _ _ | with_reducible refine below_drewN ?_ _ | with_reducible refine Below.al ?_ (by first | with_reducible exact Nat.le_refl _ | omega | (simp; done) | (simp; omega) | exact Nat.le_refl _) _ | with_reducible refine Below.setCell ?_ (by first | with_reducible exact Nat.le_refl _ | omega | (simp; done) | (simp; omega) | exact Nat.le_refl _) _ | assumption | exact Below.refl _ _ | refine below_drewN ?_ _ | refine Below.al ?_ (by first | with_reducible exact Nat.le_refl _ | omega | (simp; done) | (simp; omega) | exact Nat.le_refl _) _ | refine Below.setCell ?_ (by first | with_reducible exact Nat.le_refl _ | omega | (simp; done) | (simp; omega) | exact Nat.le_refl _) _))) (hb5.mono (by first | with_reducible exact Nat.le_refl _ | omega | (simp; done) | (simp; omega) | exact Nat.le_refl _))); clear hb5
                go_wp2_with fail
                refine (implWithin (rn : Int) 1 5 _).mono ?_
                rintro e w6 ⟨rfl, m6, rfl⟩
                rw [hd5]
                go_wp2_with fail
                go_ret
                exact ⟨by rw [HF.out]; rfl, below_drewN HB5.out _⟩
          · have hin : i = xs.length := by have := HL.out.1; omega
            have HSE : Hid (SeenAll xs xs.length 0 m bs) := hid (by have := HSN.out; rwa [hin] at this)
            have HAE : Hid (∀ j, j < xs.length → AtomOK m (ax xs j)) := hid (by have := HAO.out; rwa [hin] at this)
            clear hin
            go_wp2_with fail
            go_loopw [69] (fun s wq => ∃ k : Nat, s = .int .i64 k ∧ k ≤ m ∧ Hid (∀ v, v < k → bx bs v = true) ∧ wq = wr) (fun s _ => m - (intOf s).toNat)
            case atStart => exact ⟨0, rfl, by omega, hid (fun v hv => by omega), rfl⟩
            case round =>
              obtain ⟨k, rfl, hk, HT, rfl⟩ := hrel
              by_cases hlt2 : k < m
              · obtain ⟨y0, _⟩ := HBS.out.cell hlt2
                obtain ⟨ub, hub⟩ : ∃ ub, bx bs k = ub := ⟨_, rfl⟩
                rw [hub] at y0
                cases ub with
                | true =>
                  have HT2 : Hid (∀ v, v < k + 1 → bx bs v = true) := hid (fun v hv => by
                    by_cases e : v = k
                    · subst e; exact hub
                    · exact HT.out v (by omega))
                  clear hub
                  go_wp2_with fail
                  go_roundw
                  case rel => exact ⟨k + 1, by go_num, by omega, HT2, by first | rfl | trivial⟩
                  case measure => simp [intOf]; omega
                | false =>
                  have HF := hid (qOK_cov (us := us) (HSE.out.nocov hlt2 hub))
                  clear hub
                  go_wp2_with fail
                  go_ret
                  exact ⟨by rw [HF.out]; rfl, HBWW.out⟩
              · have HF := hid (qOK_yes HHD.out HST.out HAE.out (HSE.out.cov (fun v hv => HT.out v (by omega))))
                go_wp2_with fail
                go_ret
                exact ⟨by rw [HF.out]; rfl, HBWW.out⟩
    · have hd2 : decide ((1 : Int) ≤ n ∧ (n : Int) ≤ 4) = false := by simpa using h2
      have HF := hid (qOK_head (nv := (m : Int)) (xs := xs) (us := us) (fun g => h2 (by have := g.2; have := HL.out.1; omega)))
      have H12 := hid (And.intro h1 h2); clear h1 h2
      go_enter Try.func42, Try.ntmps42
      go_wp2_with fail
      refine (implWithin (m : Int) 1 5 _).mono ?_
      rintro e w1 ⟨rfl, m1, rfl⟩
      rw [hd1]
      go_wp2_with fail
      refine (implWithin (n : Int) 1 4 _).mono ?_
      rintro e w2 ⟨rfl, m2, rfl⟩
      rw [hd2]
      go_wp2_with fail
      go_ret
      exact ⟨by rw [HF.out]; rfl, (by repeat (first | with_reducible assumption | with_reducible exact Below.refl _ _ | with_reducible refine below_drewN ?_ _ | with_reducible refine Below.al ?_ (by first | with_reducible exact Nat.le_refl _ | omega | (simp; done) | (simp; omega) | exact Nat.le_refl _) _ | with_reducible refine Below.setCell ?_ (by first | with_reducible exact Nat.le_refl _ | omega | (simp; done) | (simp; omega) | exact Nat.le_refl _) _ | assumption | exact Below.refl _ _ | refine below_drewN ?_ _ | refine Below.al ?_ (by first | with_reducible exact Nat.le_refl _ | omega | (simp; done) | (simp; omega) | exact Nat.le_refl _) _ | refine Below.setCell ?_ (by first | with_reducible exact Nat.le_refl _ | omega | (simp; done) | (simp; omega) | exact Nat.le_refl _) _))⟩
  · have hd1 : decide (1 ≤ nv ∧ nv ≤ 5) = false := by simpa using h1
    have HF := hid (qOK_head (xs := xs) (us := us) (fun g => h1 g.1))
    go_enter Try.func42, Try.ntmps42
    go_wp2_with fail
    refine (implWithin nv 1 5 _).mono ?_
    rintro e w1 ⟨rfl, m1, rfl⟩
    rw [hd1]
    go_wp2_with fail
    go_ret
    exact ⟨by rw [HF.out]; rfl, (by repeat (first | with_reducible assumption | with_reducible exact Below.refl _ _ | with_reducible refine below_drewN ?_ _ | with_reducible refine Below.al ?_ (by first | with_reducible exact Nat.le_refl _ | omega | (simp; done) | (simp; omega) | exact Nat.le_refl _) _ | with_reducible refine Below.setCell ?_ (by first | with_reducible exact Nat.le_refl _ | omega | (simp; done) | (simp; omega) | exact Nat.le_refl _) _ | assumption | exact Below.refl _ _ | refine below_drewN ?_ _ | refine Below.al ?_ (by first | with_reducible exact Nat.le_refl _ | omega | (simp; done) | (simp; omega) | exact Nat.le_refl _) _ | refine Below.setCell ?_ (by first | with_reducible exact Nat.le_refl _ | omega | (simp; done) | (simp; omega) | exact Nat.le_refl _) _))⟩
end Go.Proofs.Ytalfldflnacpeaa
