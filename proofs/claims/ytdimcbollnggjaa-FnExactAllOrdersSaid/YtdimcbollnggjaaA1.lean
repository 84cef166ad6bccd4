/- Atoms: a name and a list of variables; slices of them: how they read, and the laws' own functions on them. -/
import Derived.Test.YtdimcbollnggjaaK1
namespace Go.Proofs.Ytdimcbollnggjaa
set_option linter.unusedSimpArgs false
set_option linter.unusedVariables false
open Go.RowKit
/-- an atom: a name and its variables -/
structure AtomD where
  nm : ByteArray
  vs : List Int
/-- the two cells of an atom -/
def atomR : Rep AtomD := fun fz lo hi w cs x => ∃ a n c, cs = [.string x.nm, .slice a n c] ∧ x.nm.size ≤ 9223372036854775807 ∧ IntsA fz lo hi w a n c x.vs
theorem atomOK : RepOK atomR :=
  ⟨fun ⟨a, n, c, h1, h2, h3⟩ hk => ⟨a, n, c, h1, h2, h3.keep hk⟩, fun ⟨a, n, c, h1, h2, h3⟩ g1 g2 => ⟨a, n, c, h1, h2, h3.wide g1 g2⟩, fun ⟨a, n, c, h1, h2, h3⟩ => ⟨a, n, c, h1, h2, h3.read⟩⟩
abbrev AtomsA := SlA 2 atomR
/-- atom i, closed to simp -/
def ax (xs : List AtomD) (i : Nat) : AtomD := xs.getD i ⟨⟨#[]⟩, []⟩
theorem ax_lt {xs : List AtomD} {i : Nat} (h : i < xs.length) : ax xs i = xs[i] := by simp [ax, h]
theorem atomsSome {fz : Bool} {lo hi : Nat} {w : World} {a : Option Addr} {n c : Nat} {xs : List AtomD} (h : AtomsA fz lo hi w a n c xs) (hn : 0 < n) : ∃ b off, a = some ⟨b, off, none⟩ := by
  obtain ⟨b, off, ha, _⟩ := h.open hn
  exact ⟨b, off, ha⟩
theorem atomsAt {fz : Bool} {lo hi : Nat} {w : World} {b off n c : Nat} {xs : List AtomD} (h : AtomsA fz lo hi w (some ⟨b, off, none⟩) n c xs) {i : Nat} (hi' : i < n) :
    lo ≤ b ∧ b < hi ∧ (ax xs i).nm.size ≤ 9223372036854775807 ∧ ∃ ra rn rc, w.cell? ⟨b, off + i * 2, none⟩ = some (.string (ax xs i).nm) ∧ w.cell? ⟨b, off + i * 2 + 1, none⟩ = some (.slice ra rn rc) ∧ IntsA fz lo hi w ra rn rc (ax xs i).vs ∧
      (fz = true → w.frozen? ⟨b, off + i * 2, none⟩ = false ∧ w.frozen? ⟨b, off + i * 2 + 1, none⟩ = false) := by
  obtain ⟨b', off', ha, hl, hb, hc⟩ := h.open (by omega)
  simp only [Option.some.injEq, Addr.mk.injEq, and_true] at ha
  obtain ⟨rfl, rfl⟩ := ha
  obtain ⟨cs, x, g1, g2, ⟨ra, rn, rc, rfl, g3, g5⟩, g4⟩ := hc i hi'
  have k0 := g4 0 (by omega)
  have k1 := g4 1 (by omega)
  have hx : ax xs i = x := by simp [ax, g2]
  rw [hx]
  exact ⟨hl, hb, g3, ra, rn, rc, by simpa using k0.1, by simpa using k1.1, g5, fun hf => ⟨by simpa using k0.2 hf, by simpa using k1.2 hf⟩⟩
/-- how many places the first k atoms take in the measure -/
def atomLens (xs : List AtomD) : Nat → Nat
  | 0 => 0
  | k + 1 => atomLens xs k + ((ax xs k).nm.size + (ax xs k).vs.length)
def atomsSz (xs : List AtomD) : Nat := xs.length + atomLens xs xs.length
theorem atomLens_mono {xs : List AtomD} {i k : Nat} (h : i ≤ k) : atomLens xs i ≤ atomLens xs k := by
  induction k with
  | zero => obtain rfl : i = 0 := by omega
            exact Nat.le_refl _
  | succ k ih =>
    by_cases e : i = k + 1
    · subst e; exact Nat.le_refl _
    · have := ih (by omega); simp only [atomLens]; omega
theorem atomsSz_at {xs : List AtomD} {B i : Nat} (h : atomsSz xs ≤ B) (hi : i < xs.length) : (ax xs i).nm.size + (ax xs i).vs.length ≤ B := by
  have := atomLens_mono (xs := xs) (i := i + 1) (k := xs.length) (by omega)
  unfold atomsSz at h; simp only [atomLens] at this; omega
/-- the value of an atom -/
abbrev atomV (s : ByteArray) (a : Option Addr) (n c : Nat) : Value := .agg #[.string s, .slice a n c]
set_option maxHeartbeats 800000 in
theorem szAtom1 {fz : Bool} {lo hi : Nat} (s : ByteArray) (a : Option Addr) (n c : Nat) (xs : List Int) (left : Int) (w : World) (hI : IntsA fz lo hi w a n c xs) (hh : hi ≤ w.heap.size) (hs : s.size ≤ 9223372036854775807) (h0 : 0 ≤ left) (h1 : left ≤ 1048576) :
    Calls Try.prog 27 #[atomV s a n c, .int .i64 left] w (Leaves w (.int .i64 (szI (s.size + xs.length) left))) := by
  by_cases hle : (s.size : Int) ≤ left
  · obtain ⟨t, ht⟩ : ∃ t, t = left - s.size := ⟨_, rfl⟩
    have ht0 : 0 ≤ t := by omega
    have ht1 : t ≤ 1048576 := by omega
    by_cases hle2 : (xs.length : Int) ≤ t
    · obtain ⟨u, hu⟩ : ∃ u, u = t - xs.length := ⟨_, rfl⟩
      have hu0 : 0 ≤ u := by omega
      have HS := hid (szI_yes hle2)
      have HE : Hid (szI (s.size + xs.length) left = u) := hid (by rw [szI_yes (by omega)]; omega)
      have HU := hid (And.intro hle2 (And.intro hu ht)); clear hle2 hu
      go_enter Try.func27, Try.ntmps27
      go_wp2_with fail
      rw [← ht]
      refine (szK_Ints a n c xs t _ (beInts (B := w.heap.size) hI (by repeat (first | with_reducible assumption | with_reducible exact Below.refl _ _ | with_reducible refine below_drewN ?_ _ | with_reducible refine Below.al ?_ (by first | with_reducible exact Nat.le_refl _ | omega | (simp; done) | (simp; omega) | exact Nat.le_refl _) _ | with_reducible refine Below.setCell ?_ (by first | with_reducible exact Nat.le_refl _ | omega | (simp; done) | (simp; omega) | exact Nat.le_refl _) _ | assumption | exact Below.refl _ _ | refine below_drewN ?_ _ | refine Below.al ?_ (by first | with_reducible exact Nat.le_refl _ | omega | (simp; done) | (simp; omega) | exact Nat.le_refl _) _ | refine Below.setCell ?_ (by first | with_reducible exact Nat.le_refl _ | omega | (simp; done) | (simp; omega) | exact Nat.le_refl _) _)) hh) ht0 ht1).mono ?_
      rintro e w1 ⟨rfl, m1, rfl⟩
      rw [HS.out, ← HU.out.2.1]
      clear ht
      go_wp2_with fail
      go_ret
      exact ⟨by rw [HE.out]; rfl, (by repeat (first | with_reducible assumption | with_reducible exact Below.refl _ _ | with_reducible refine below_drewN ?_ _ | with_reducible refine Below.al ?_ (by first | with_reducible exact Nat.le_refl _ | omega | (simp; done) | (simp; omega) | exact Nat.le_refl _) _ | with_reducible refine Below.setCell ?_ (by first | with_reducible exact Nat.le_refl _ | omega | (simp; done) | (simp; omega) | exact Nat.le_refl _) _ | assumption | exact Below.refl _ _ | refine below_drewN ?_ _ | refine Below.al ?_ (by first | with_reducible exact Nat.le_refl _ | omega | (simp; done) | (simp; omega) | exact Nat.le_refl _) _ | refine Below.setCell ?_ (by first | with_reducible exact Nat.le_refl _ | omega | (simp; done) | (simp; omega) | exact Nat.le_refl _) _))⟩
    · have HS := hid (szI_no hle2)
      have HE : Hid (szI (s.size + xs.length) left = -1) := hid (by rw [szI_no (by omega)])
      have HU := hid hle2; clear hle2
      go_enter Try.func27, Try.ntmps27
      go_wp2_with fail
      rw [← ht]
      refine (szK_Ints a n c xs t _ (beInts (B := w.heap.size) hI (by repeat (first | with_reducible assumption | with_reducible exact Below.refl _ _ | with_reducible refine below_drewN ?_ _ | with_reducible refine Below.al ?_ (by first | with_reducible exact Nat.le_refl _ | omega | (simp; done) | (simp; omega) | exact Nat.le_refl _) _ | with_reducible refine Below.setCell ?_ (by first | with_reducible exact Nat.le_refl _ | omega | (simp; done) | (simp; omega) | exact Nat.le_refl _) _ | assumption | exact Below.refl _ _ | refine below_drewN ?_ _ | refine Below.al ?_ (by first | with_reducible exact Nat.le_refl _ | omega | (simp; done) | (simp; omega) | exact Nat.le_refl _) _ | refine Below.setCell ?_ (by first | with_reducible exact Nat.le_refl _ | omega | (simp; done) | (simp; omega) | exact Nat.le_refl _) _)) hh) ht0 ht1).mono ?_
      rintro e w1 ⟨rfl, m1, rfl⟩
      rw [HS.out]
      clear ht
      go_wp2_with fail
      go_ret
      exact ⟨by rw [HE.out]; rfl, (by repeat (first | with_reducible assumption | with_reducible exact Below.refl _ _ | with_reducible refine below_drewN ?_ _ | with_reducible refine Below.al ?_ (by first | with_reducible exact Nat.le_refl _ | omega | (simp; done) | (simp; omega) | exact Nat.le_refl _) _ | with_reducible refine Below.setCell ?_ (by first | with_reducible exact Nat.le_refl _ | omega | (simp; done) | (simp; omega) | exact Nat.le_refl _) _ | assumption | exact Below.refl _ _ | refine below_drewN ?_ _ | refine Below.al ?_ (by first | with_reducible exact Nat.le_refl _ | omega | (simp; done) | (simp; omega) | exact Nat.le_refl _) _ | refine Below.setCell ?_ (by first | with_reducible exact Nat.le_refl _ | omega | (simp; done) | (simp; omega) | exact Nat.le_refl _) _))⟩
  · have HE : Hid (szI (s.size + xs.length) left = -1) := hid (by rw [szI_no (by omega)])
    go_enter Try.func27, Try.ntmps27
    go_wp2_with fail
    go_ret
    exact ⟨by rw [HE.out]; rfl, (by repeat (first | with_reducible assumption | with_reducible exact Below.refl _ _ | with_reducible refine below_drewN ?_ _ | with_reducible refine Below.al ?_ (by first | with_reducible exact Nat.le_refl _ | omega | (simp; done) | (simp; omega) | exact Nat.le_refl _) _ | with_reducible refine Below.setCell ?_ (by first | with_reducible exact Nat.le_refl _ | omega | (simp; done) | (simp; omega) | exact Nat.le_refl _) _ | assumption | exact Below.refl _ _ | refine below_drewN ?_ _ | refine Below.al ?_ (by first | with_reducible exact Nat.le_refl _ | omega | (simp; done) | (simp; omega) | exact Nat.le_refl _) _ | refine Below.setCell ?_ (by first | with_reducible exact Nat.le_refl _ | omega | (simp; done) | (simp; omega) | exact Nat.le_refl _) _))⟩
set_option maxHeartbeats 800000 in
theorem eqAtom1 {fz fz' : Bool} {lo hi lo' hi' : Nat} (s : ByteArray) (a a' : Option Addr) (n c n' c' : Nat) (xs : List Int) (w : World) (hI : IntsA fz lo hi w a n c xs) (hh : hi ≤ w.heap.size) (hJ : IntsA fz' lo' hi' w a' n' c' xs) (hh' : hi' ≤ w.heap.size) :
    Calls Try.prog 37 #[atomV s a n c, atomV s a' n' c'] w (Leaves w (.bool true)) := by
  go_enter Try.func37, Try.ntmps37
  go_wp2_with fail
  refine (eqK_Ints a a' n c n' c' xs _ (beInts (B := w.heap.size) hI (by repeat (first | with_reducible assumption | with_reducible exact Below.refl _ _ | with_reducible refine below_drewN ?_ _ | with_reducible refine Below.al ?_ (by first | with_reducible exact Nat.le_refl _ | omega | (simp; done) | (simp; omega) | exact Nat.le_refl _) _ | with_reducible refine Below.setCell ?_ (by first | with_reducible exact Nat.le_refl _ | omega | (simp; done) | (simp; omega) | exact Nat.le_refl _) _ | assumption | exact Below.refl _ _ | refine below_drewN ?_ _ | refine Below.al ?_ (by first | with_reducible exact Nat.le_refl _ | omega | (simp; done) | (simp; omega) | exact Nat.le_refl _) _ | refine Below.setCell ?_ (by first | with_reducible exact Nat.le_refl _ | omega | (simp; done) | (simp; omega) | exact Nat.le_refl _) _)) hh) (beInts (B := w.heap.size) hJ (by repeat (first | with_reducible assumption | with_reducible exact Below.refl _ _ | with_reducible refine below_drewN ?_ _ | with_reducible refine Below.al ?_ (by first | with_reducible exact Nat.le_refl _ | omega | (simp; done) | (simp; omega) | exact Nat.le_refl _) _ | with_reducible refine Below.setCell ?_ (by first | with_reducible exact Nat.le_refl _ | omega | (simp; done) | (simp; omega) | exact Nat.le_refl _) _ | assumption | exact Below.refl _ _ | refine below_drewN ?_ _ | refine Below.al ?_ (by first | with_reducible exact Nat.le_refl _ | omega | (simp; done) | (simp; omega) | exact Nat.le_refl _) _ | refine Below.setCell ?_ (by first | with_reducible exact Nat.le_refl _ | omega | (simp; done) | (simp; omega) | exact Nat.le_refl _) _)) hh')).mono ?_
  rintro e w1 ⟨rfl, m1, rfl⟩
  go_wp2_with fail
  go_ret
  exact ⟨rfl, (by repeat (first | with_reducible assumption | with_reducible exact Below.refl _ _ | with_reducible refine below_drewN ?_ _ | with_reducible refine Below.al ?_ (by first | with_reducible exact Nat.le_refl _ | omega | (simp; done) | (simp; omega) | exact Nat.le_refl _) _ | with_reducible refine Below.setCell ?_ (by first | with_reducible exact Nat.le_refl _ | omega | (simp; done) | (simp; omega) | exact Nat.le_refl _) _ | assumption | exact Below.refl _ _ | refine below_drewN ?_ _ | refine Below.al ?_ (by first | with_reducible exact Nat.le_refl _ | omega | (simp; done) | (simp; omega) | exact Nat.le_refl _) _ | refine Below.setCell ?_ (by first | with_reducible exact Nat.le_refl _ | omega | (simp; done) | (simp; omega) | exact Nat.le_refl _) _))⟩
/-- The call returns an atom in new memory; nothing that was there has turned. -/
def GvAtom (w : World) (s : ByteArray) (xs : List Int) (e : Ending) (w' : World) : Prop := ∃ a n c, e = .returned (atomV s a n c) ∧ IntsA true w.heap.size w'.heap.size w' a n c xs ∧ Below w.heap.size w w'
set_option maxHeartbeats 800000 in
theorem toAtom1 {lo hi : Nat} (s : ByteArray) (a : Option Addr) (n c : Nat) (xs : List Int) (w : World) (hI : IntsA false lo hi w a n c xs) (hh : hi ≤ w.heap.size) (hn : xs.length ≤ 1048576) :
    Calls Try.prog 32 #[atomV s a n c] w (GvAtom w s xs) := by
  go_enter Try.func32, Try.ntmps32
  go_wp2_with fail
  refine (toK_Ints a n c xs _ (beInts (B := w.heap.size) hI (by repeat (first | with_reducible assumption | with_reducible exact Below.refl _ _ | with_reducible refine below_drewN ?_ _ | with_reducible refine Below.al ?_ (by first | with_reducible exact Nat.le_refl _ | omega | (simp; done) | (simp; omega) | exact Nat.le_refl _) _ | with_reducible refine Below.setCell ?_ (by first | with_reducible exact Nat.le_refl _ | omega | (simp; done) | (simp; omega) | exact Nat.le_refl _) _ | assumption | exact Below.refl _ _ | refine below_drewN ?_ _ | refine Below.al ?_ (by first | with_reducible exact Nat.le_refl _ | omega | (simp; done) | (simp; omega) | exact Nat.le_refl _) _ | refine Below.setCell ?_ (by first | with_reducible exact Nat.le_refl _ | omega | (simp; done) | (simp; omega) | exact Nat.le_refl _) _)) hh) (by first | with_reducible exact Nat.le_refl _ | omega | (simp; done) | (simp; omega) | exact Nat.le_refl _) hn).mono ?_
  rintro e w1 ⟨a1, n1, c1, rfl, ho1, hb1⟩
  have hz := hb1.size
  simp at hz
  have hb2 : Below w.heap.size w w1 := Below.trans (by repeat (first | with_reducible assumption | with_reducible exact Below.refl _ _ | with_reducible refine below_drewN ?_ _ | with_reducible refine Below.al ?_ (by first | with_reducible exact Nat.le_refl _ | omega | (simp; done) | (simp; omega) | exact Nat.le_refl _) _ | with_reducible refine Below.setCell ?_ (by first | with_reducible exact Nat.le_refl _ | omega | (simp; done) | (simp; omega) | exact Nat.le_refl _) _ | assumption | exact Below.refl _ _ | refine below_drewN ?_ _ | refine Below.al ?_ (by first | with_reducible exact Nat.le_refl _ | omega | (simp; done) | (simp; omega) | exact Nat.le_refl _) _ | refine Below.setCell ?_ (by first | with_reducible exact Nat.le_refl _ | omega | (simp; done) | (simp; omega) | exact Nat.le_refl _) _)) (hb1.mono (by first | with_reducible exact Nat.le_refl _ | omega | (simp; done) | (simp; omega) | exact Nat.le_refl _))
  have q0 : w1.cell? ⟨w.heap.size + 1, 0, none⟩ = some (.string ⟨#[]⟩) := (by rw [(bcell hb1).1 _ _ (by first | omega | (simp; done) | (simp; omega))]; first | with_reducible assumption | (go_simp; done) | assumption | (simp [World.cell?]; done))
  have q1 : w1.cell? ⟨w.heap.size + 1, 1, none⟩ = some (.slice none 0 0) := (by rw [(bcell hb1).1 _ _ (by first | omega | (simp; done) | (simp; omega))]; first | with_reducible assumption | (go_simp; done) | assumption | (simp [World.cell?]; done))
  have q2 : w1.frozen? ⟨w.heap.size + 1, 0, none⟩ = false := (by rw [(bcell hb1).2 _ _ (by first | omega | (simp; done) | (simp; omega))]; first | with_reducible assumption | (go_simp; done) | assumption | (simp [World.frozen?]; done))
  have q3 : w1.frozen? ⟨w.heap.size + 1, 1, none⟩ = false := (by rw [(bcell hb1).2 _ _ (by first | omega | (simp; done) | (simp; omega))]; first | with_reducible assumption | (go_simp; done) | assumption | (simp [World.frozen?]; done))
  have r0 : w1.cell? ⟨w.heap.size + 1 + 1, 0, none⟩ = some (.string s) := (by rw [(bcell hb1).1 _ _ (by first | omega | (simp; done) | (simp; omega))]; first | with_reducible assumption | (go_simp; done) | assumption | (simp [World.cell?]; done))
  have r1 : w1.cell? ⟨w.heap.size + 1 + 1, 1, none⟩ = some (.slice none 0 0) := (by rw [(bcell hb1).1 _ _ (by first | omega | (simp; done) | (simp; omega))]; first | with_reducible assumption | (go_simp; done) | assumption | (simp [World.cell?]; done))
  have r2 : w1.frozen? ⟨w.heap.size + 1 + 1, 0, none⟩ = false := (by rw [(bcell hb1).2 _ _ (by first | omega | (simp; done) | (simp; omega))]; first | with_reducible assumption | (go_simp; done) | assumption | (simp [World.frozen?]; done))
  have r3 : w1.frozen? ⟨w.heap.size + 1 + 1, 1, none⟩ = false := (by rw [(bcell hb1).2 _ _ (by first | omega | (simp; done) | (simp; omega))]; first | with_reducible assumption | (go_simp; done) | assumption | (simp [World.frozen?]; done))
  have HO := hid ho1; clear ho1
  have HB := hid (And.intro hb1 hb2); clear hb1 hb2
  go_wp2_with fail
  refine bodyPost_ret (v := atomV s a1 n1 c1) ?_ rfl ⟨_, _, _, rfl, ?_, ?_⟩
  · simp [results, Try.results32, go_sem, q0, q1]
  · have h1 : IntsA true (w.heap.size + 1 + 1 + 1) w1.heap.size w1 a1 n1 c1 xs := by simpa using HO.out
    exact hgInts (wdInts (kpInts h1 (Keeps.sc (Keeps.sc (Keeps.sc (Keeps.refl _ _ _) (.inl (by omega)) _) (.inl (by omega)) _) (.inl (by omega)) _)) (by omega)) (by simp only [szSet]; omega)
  · exact Below.trans HB.out.2 (Below.setCell (Below.setCell (Below.setCell (Below.refl _ _) (by dsimp only; omega) _) (by dsimp only; omega) _) (by dsimp only; omega) _)
end Go.Proofs.Ytdimcbollnggjaa
