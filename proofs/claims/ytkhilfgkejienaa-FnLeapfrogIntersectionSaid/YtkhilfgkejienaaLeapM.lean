/- The leapfrog intersection as plain mathematics: the order of the lists, the steps, that they end. -/
import Derived.Test.YtkhilfgkejienaaW4
namespace Go.Proofs.Ytkhilfgkejienaa
set_option linter.unusedSimpArgs false
set_option linter.unusedVariables false
open Go.RowKit

/-- the place at which a number of key x goes among the first k of an ascending order -/
def insK (key : Nat → Int) (x : Int) : Nat → Nat
  | 0 => 0
  | k + 1 => if x < key k then insK key x k else k + 1
theorem insK_le (key : Nat → Int) (x : Int) (k : Nat) : insK key x k ≤ k := by
  induction k with
  | zero => exact Nat.le_refl _
  | succ k ih => simp only [insK]; split <;> omega
theorem insK_lo {key : Nat → Int} {x : Int} {k : Nat} (hs : ∀ i j, i ≤ j → j < k → key i ≤ key j) : ∀ j, j < insK key x k → key j ≤ x := by
  induction k with
  | zero => intro j hj; simp [insK] at hj
  | succ k ih =>
    intro j hj
    simp only [insK] at hj
    split at hj
    · exact ih (fun i j h1 h2 => hs i j h1 (by omega)) j hj
    · rename_i h; have := hs j k (by omega) (by omega); omega
theorem insK_hi {key : Nat → Int} {x : Int} {k : Nat} : ∀ j, insK key x k ≤ j → j < k → x < key j := by
  induction k with
  | zero => intro j _ hj; omega
  | succ k ih =>
    intro j h1 h2
    simp only [insK] at h1
    split at h1
    · rename_i h
      by_cases e : j = k
      · subst e; exact h
      · exact ih j h1 (by omega)
    · omega
theorem insK_congr {key key' : Nat → Int} {x : Int} {k : Nat} (h : ∀ j, j < k → key j = key' j) : insK key x k = insK key' x k := by
  induction k with
  | zero => rfl
  | succ k ih => simp only [insK]; rw [h k (by omega), ih fun j hj => h j (by omega)]
/-- the order of the first i lists, as places -/
def ordIx (L : List (List Int)) : Nat → List Nat
  | 0 => []
  | i + 1 =>
    let o := ordIx L i
    let k := insK (fun j => ix (rx L (o.getD j 0)) 0) (ix (rx L i) 0) o.length
    o.take k ++ [i] ++ o.drop k
theorem ordIx_len (L : List (List Int)) (i : Nat) : (ordIx L i).length = i := by
  induction i with
  | zero => rfl
  | succ i ih =>
    simp only [ordIx, List.length_append, List.length_take, List.length_drop, List.length_singleton]
    have := insK_le (fun j => ix (rx L ((ordIx L i).getD j 0)) 0) (ix (rx L i) 0) (ordIx L i).length
    omega
theorem ordIx_lt (L : List (List Int)) (i : Nat) : ∀ j ∈ ordIx L i, j < i := by
  induction i with
  | zero => intro j hj; simp [ordIx] at hj
  | succ i ih =>
    intro j hj
    simp only [ordIx, List.mem_append, List.mem_singleton] at hj
    rcases hj with (hj | rfl) | hj
    · have := ih j (List.mem_of_mem_take hj); omega
    · omega
    · have := ih j (List.mem_of_mem_drop hj); omega
theorem ordIx_nodup (L : List (List Int)) (i : Nat) : (ordIx L i).Nodup := by
  induction i with
  | zero => exact List.nodup_nil
  | succ i ih =>
    simp only [ordIx]
    generalize insK (fun j => ix (rx L ((ordIx L i).getD j 0)) 0) (ix (rx L i) 0) (ordIx L i).length = k
    have h1 := ordIx_lt L i
    rw [← List.take_append_drop k (ordIx L i)] at ih h1
    rw [List.nodup_append] at ih
    obtain ⟨g1, g2, g3⟩ := ih
    rw [List.append_assoc, List.nodup_append]
    refine ⟨g1, ?_, fun a ha b hb => ?_⟩
    · rw [List.singleton_append, List.nodup_cons]
      exact ⟨fun h => by have := h1 i (List.mem_append_right _ h); omega, g2⟩
    · rw [List.singleton_append, List.mem_cons] at hb
      rcases hb with rfl | hb
      · have := h1 a (List.mem_append_left _ ha); omega
      · exact g3 a ha b hb
/-- place j of the order -/
def ox (o : List Nat) (j : Nat) : Nat := o.getD j 0
theorem ox_lt {o : List Nat} {j : Nat} (h : j < o.length) : ox o j = o[j] := by simp [ox, h]
theorem ox_ins {o : List Nat} {k i j : Nat} (hk : k ≤ o.length) : ox (o.take k ++ [i] ++ o.drop k) j = if j < k then ox o j else if j = k then i else ox o (j - 1) := by
  simp only [ox, List.getD]
  by_cases h1 : j < k
  · rw [if_pos h1, List.append_assoc, List.getElem?_append_left (by simp; omega), List.getElem?_take, if_pos h1]
  · rw [if_neg h1]
    by_cases h2 : j = k
    · subst h2; rw [if_pos rfl, List.append_assoc, List.getElem?_append_right (by simp; omega)]
      have : j - (List.take j o).length = 0 := by simp; omega
      rw [this]; rfl
    · rw [if_neg h2, List.getElem?_append_right (by simp; omega)]
      have : j - (List.take k o ++ [i]).length = j - 1 - k := by simp; omega
      rw [this, List.getElem?_drop]
      congr 2; omega
theorem ordIx_sorted (L : List (List Int)) (i : Nat) : ∀ a b, a ≤ b → b < i → ix (rx L (ox (ordIx L i) a)) 0 ≤ ix (rx L (ox (ordIx L i) b)) 0 := by
  induction i with
  | zero => intro a b _ h; omega
  | succ i ih =>
    have hlen := ordIx_len L i
    have hlo := insK_lo (key := fun j => ix (rx L (ox (ordIx L i) j)) 0) (x := ix (rx L i) 0) (k := (ordIx L i).length) (fun a b h1 h2 => ih a b h1 (by omega))
    have hhi := insK_hi (key := fun j => ix (rx L (ox (ordIx L i) j)) 0) (x := ix (rx L i) 0) (k := (ordIx L i).length)
    have hle := insK_le (fun j => ix (rx L (ox (ordIx L i) j)) 0) (ix (rx L i) 0) (ordIx L i).length
    intro a b hab hb
    have hstep : ordIx L (i + 1) = (ordIx L i).take (insK (fun j => ix (rx L (ox (ordIx L i) j)) 0) (ix (rx L i) 0) (ordIx L i).length) ++ [i] ++ (ordIx L i).drop (insK (fun j => ix (rx L (ox (ordIx L i) j)) 0) (ix (rx L i) 0) (ordIx L i).length) := rfl
    rw [hstep]
    generalize insK (fun j => ix (rx L (ox (ordIx L i) j)) 0) (ix (rx L i) 0) (ordIx L i).length = k at *
    rw [ox_ins hle, ox_ins hle]
    by_cases h1 : b < k
    · rw [if_pos (by omega), if_pos h1]; exact ih a b hab (by omega)
    · rw [if_neg h1]
      by_cases h2 : b = k
      · rw [if_pos h2]
        by_cases h3 : a < k
        · rw [if_pos h3]; exact hlo a h3
        · rw [if_neg h3, if_pos (by omega)]; exact Int.le_refl _
      · rw [if_neg h2]
        have hkb := hhi (b - 1) (by omega) (by omega)
        by_cases h3 : a < k
        · rw [if_pos h3]; exact ih a (b - 1) (by omega) (by omega)
        · rw [if_neg h3]
          by_cases h4 : a = k
          · rw [if_pos h4]; omega
          · rw [if_neg h4]; exact ih (a - 1) (b - 1) (by omega) (by omega)
/-- the lists in that order -/
def ordL (L : List (List Int)) (i : Nat) : List (List Int) := (ordIx L i).map (rx L)
theorem ordL_len (L : List (List Int)) (i : Nat) : (ordL L i).length = i := by simp [ordL, ordIx_len]
theorem rx_ordL {L : List (List Int)} {i j : Nat} (h : j < i) : rx (ordL L i) j = rx L (ox (ordIx L i) j) := by
  have := ordIx_len L i
  rw [rx_lt (by rw [ordL_len]; exact h), ox_lt (by omega)]; simp [ordL]
theorem ordL_succ (L : List (List Int)) (i : Nat) : ordL L (i + 1) = (ordL L i).take (insK (fun j => ix (rx (ordL L i) j) 0) (ix (rx L i) 0) i) ++ [rx L i] ++ (ordL L i).drop (insK (fun j => ix (rx (ordL L i) j) 0) (ix (rx L i) 0) i) := by
  have h : insK (fun j => ix (rx L ((ordIx L i).getD j 0)) 0) (ix (rx L i) 0) (ordIx L i).length = insK (fun j => ix (rx (ordL L i) j) 0) (ix (rx L i) 0) i := by
    rw [ordIx_len]
    exact insK_congr fun j hj => by rw [rx_ordL hj]; rfl
  simp only [ordL, ordIx] at *
  rw [h]
  simp [List.map_append, List.map_take, List.map_drop]

/-- the steps: f bounds their number; s steps are done; p: the places; top: the maximum; out: what was found -/
noncomputable def leapN (L : List (List Int)) : Nat → Nat → List Nat → Int → List Int → Option (List Int × Nat)
  | 0, _, _, _, _ => none
  | f + 1, s, p, top, out =>
    if ix (rx L (s % L.length)) (ox p (s % L.length)) = top then
      if ox p (s % L.length) + 1 = (rx L (s % L.length)).length then some (out ++ [top], s + 1)
      else leapN L f (s + 1) (p.set (s % L.length) (ox p (s % L.length) + 1)) (ix (rx L (s % L.length)) (ox p (s % L.length) + 1)) (out ++ [top])
    else
      if (seekF (rx L (s % L.length)) (ox p (s % L.length)) top).toNat = (rx L (s % L.length)).length then some (out, s + 1)
      else leapN L f (s + 1) (p.set (s % L.length) (seekF (rx L (s % L.length)) (ox p (s % L.length)) top).toNat) (ix (rx L (s % L.length)) (seekF (rx L (s % L.length)) (ox p (s % L.length)) top).toNat) out
theorem firstIx_spec (p : Nat → Prop) (n : Nat) : (firstIx p n < n → p (firstIx p n)) ∧ ∀ j, j < firstIx p n → ¬ p j := by
  induction n with
  | zero => exact ⟨fun h => by simp [firstIx] at h, fun j hj => by simp [firstIx] at hj⟩
  | succ n ih =>
    by_cases h1 : firstIx p n < n
    · have e : firstIx p (n + 1) = firstIx p n := by simp only [firstIx]; rw [if_pos h1]
      rw [e]; exact ⟨fun _ => ih.1 h1, ih.2⟩
    · have h0 := firstIx_le p n
      have hn : firstIx p n = n := by omega
      rw [hn] at ih
      by_cases h2 : p n
      · have e : firstIx p (n + 1) = n := by simp only [firstIx]; rw [if_neg h1, if_pos h2]
        rw [e]; exact ⟨fun _ => h2, ih.2⟩
      · have e : firstIx p (n + 1) = n + 1 := by simp only [firstIx]; rw [if_neg h1, if_neg h2]
        rw [e]; exact ⟨fun h => by omega, fun j hj => by
          by_cases ej : j = n
          · subst ej; exact h2
          · exact ih.2 j (by omega)⟩
theorem seekF_nat (xs : List Int) (f v : Int) : ∃ m : Nat, seekF xs f v = m ∧ m ≤ xs.length ∧ (m < xs.length → f ≤ m ∧ v ≤ ix xs m) ∧ ∀ j : Nat, j < m → f ≤ j → ix xs j < v := by
  refine ⟨_, rfl, firstIx_le _ _, fun h => (firstIx_spec _ _).1 h, fun j hj hf => ?_⟩
  have := (firstIx_spec _ _).2 j hj
  simp only [not_and, Int.not_le] at this
  exact this hf
/-- how far the places are from the ends -/
def remTo (L : List (List Int)) (p : List Nat) : Nat → Nat
  | 0 => 0
  | k + 1 => remTo L p k + ((rx L k).length - ox p k)
theorem remTo_set_ge {L : List (List Int)} {p : List Nat} {j v k : Nat} (h : k ≤ j) : remTo L (p.set j v) k = remTo L p k := by
  induction k with
  | zero => rfl
  | succ k ih =>
    simp only [remTo]
    rw [ih (by omega)]
    have : ox (p.set j v) k = ox p k := by simp [ox, List.getElem?_set_ne (show j ≠ k by omega)]
    rw [this]
theorem remTo_set_lt {L : List (List Int)} {p : List Nat} {j v k : Nat} (hj : j < k) (hp : j < p.length) (h1 : ox p j < v) (h2 : v ≤ (rx L j).length) : remTo L (p.set j v) k < remTo L p k := by
  induction k with
  | zero => omega
  | succ k ih =>
    simp only [remTo]
    by_cases e : j = k
    · subst e
      rw [remTo_set_ge (Nat.le_refl _)]
      have : ox (p.set j v) j = v := by simp [ox, hp]
      rw [this]; omega
    · have h3 := ih (by omega)
      have : ox (p.set j v) k = ox p k := by simp [ox, List.getElem?_set_ne e]
      rw [this]; omega
/-- the places are within, and nothing there is greater than top -/
structure LeapOK (L : List (List Int)) (p : List Nat) (top : Int) : Prop where
  pos : 0 < L.length
  len : p.length = L.length
  at_ : ∀ k, k < L.length → ox p k < (rx L k).length
  le : ∀ k, k < L.length → ix (rx L k) (ox p k) ≤ top
theorem ox_set {p : List Nat} {k v j : Nat} (hk : k < p.length) : ox (p.set k v) j = if j = k then v else ox p j := by
  by_cases e : j = k
  · subst e; simp [ox, hk]
  · rw [if_neg e]; simp [ox, List.getElem?_set_ne (Ne.symm e)]
theorem LeapOK.next {L : List (List Int)} {p : List Nat} {top : Int} (h : LeapOK L p top) {k v : Nat} (hk : k < L.length) (hv : v < (rx L k).length) (ht : top ≤ ix (rx L k) v) : LeapOK L (p.set k v) (ix (rx L k) v) := by
  have hk' : k < p.length := by rw [h.len]; exact hk
  refine ⟨h.pos, by simp [h.len], fun j hj => ?_, fun j hj => ?_⟩
  · rw [ox_set hk']; split
    · rename_i e; rw [e]; exact hv
    · exact h.at_ j hj
  · rw [ox_set hk']; split
    · rename_i e; rw [e]; exact Int.le_refl _
    · have := h.le j hj; omega
theorem leap_ends {L : List (List Int)} (hasc : ∀ k, k < L.length → AscTo (rx L k) (rx L k).length) : ∀ (m s : Nat) (p : List Nat) (top : Int) (out : List Int), remTo L p L.length ≤ m → LeapOK L p top → ∃ R, leapN L (m + 1) s p top out = some R := by
  intro m
  induction m with
  | zero =>
    intro s p top out hm hok
    exfalso
    have hk : 0 < L.length := hok.pos
    have h1 := remTo_set_lt (L := L) (p := p) (j := 0) (v := ox p 0 + 1) hk (by rw [hok.len]; exact hk) (by omega) (by have := hok.at_ 0 hk; omega)
    omega
  | succ m ih =>
    intro s p top out hm hok
    have hk : s % L.length < L.length := Nat.mod_lt _ hok.pos
    have hp : s % L.length < p.length := by rw [hok.len]; exact hk
    have hat := hok.at_ _ hk
    have hle := hok.le _ hk
    have hac := hasc _ hk
    rw [leapN]
    generalize s % L.length = k at *
    by_cases h1 : ix (rx L k) (ox p k) = top
    · rw [if_pos h1]
      by_cases h2 : ox p k + 1 = (rx L k).length
      · rw [if_pos h2]; exact ⟨_, rfl⟩
      · rw [if_neg h2]
        have hlt := hac (ox p k) (by omega)
        exact ih _ _ _ _ (by have := remTo_set_lt (L := L) (p := p) (v := ox p k + 1) hk hp (by omega) (by omega); omega) (hok.next hk (by omega) (by omega))
    · rw [if_neg h1]
      obtain ⟨q, hq, hq1, hq2, hq3⟩ := seekF_nat (rx L k) (ox p k) top
      rw [hq]
      simp only [Int.toNat_natCast]
      by_cases h2 : q = (rx L k).length
      · rw [if_pos h2]; exact ⟨_, rfl⟩
      · rw [if_neg h2]
        have hq4 := hq2 (by omega)
        have hgt : ox p k < q := by
          rcases Nat.lt_or_ge (ox p k) q with g | g
          · exact g
          · have e : q = ox p k := by omega
            rw [e] at hq4; omega
        exact ih _ _ _ _ (by have := remTo_set_lt (L := L) (p := p) (v := q) hk hp hgt (by omega); omega) (hok.next hk (by omega) hq4.2)
theorem leapN_mono {L : List (List Int)} : ∀ (f s : Nat) (p : List Nat) (top : Int) (out : List Int) (R : List Int × Nat), leapN L f s p top out = some R → leapN L (f + 1) s p top out = some R := by
  intro f
  induction f with
  | zero => intro s p top out R h; simp [leapN] at h
  | succ f ih =>
    intro s p top out R h
    rw [leapN] at h ⊢
    split at h
    · rename_i h1; rw [if_pos h1]
      split at h
      · rename_i h2; rw [if_pos h2]; exact h
      · rename_i h2; rw [if_neg h2]; exact ih _ _ _ _ _ h
    · rename_i h1; rw [if_neg h1]
      split at h
      · rename_i h2; rw [if_pos h2]; exact h
      · rename_i h2; rw [if_neg h2]; exact ih _ _ _ _ _ h
theorem leap_hit {L : List (List Int)} {f s : Nat} {p : List Nat} {top : Int} {out : List Int} {R : List Int × Nat} {k : Nat} (h : leapN L (f + 1) s p top out = some R) (hk : s % L.length = k) (hv : ix (rx L k) (ox p k) = top) :
    (ox p k + 1 = (rx L k).length → R = (out ++ [top], s + 1)) ∧ (¬ ox p k + 1 = (rx L k).length → leapN L f (s + 1) (p.set k (ox p k + 1)) (ix (rx L k) (ox p k + 1)) (out ++ [top]) = some R) := by
  rw [leapN, hk, if_pos hv] at h
  refine ⟨fun g => ?_, fun g => ?_⟩
  · rw [if_pos g] at h; exact (Option.some.inj h).symm
  · rw [if_neg g] at h; exact h
theorem leap_seek {L : List (List Int)} {f s : Nat} {p : List Nat} {top : Int} {out : List Int} {R : List Int × Nat} {k q : Nat} (h : leapN L (f + 1) s p top out = some R) (hk : s % L.length = k) (hv : ¬ ix (rx L k) (ox p k) = top)
    (hq : seekF (rx L k) (ox p k) top = q) :
    (q = (rx L k).length → R = (out, s + 1)) ∧ (¬ q = (rx L k).length → leapN L f (s + 1) (p.set k q) (ix (rx L k) q) out = some R) := by
  rw [leapN, hk, if_neg hv, hq] at h
  simp only [Int.toNat_natCast] at h
  refine ⟨fun g => ?_, fun g => ?_⟩
  · rw [if_pos g] at h; exact (Option.some.inj h).symm
  · rw [if_neg g] at h; exact h
theorem leap_pos {L : List (List Int)} {f s : Nat} {p : List Nat} {top : Int} {out : List Int} {R : List Int × Nat} (h : leapN L f s p top out = some R) : ∃ g, f = g + 1 := by
  cases f with
  | zero => simp [leapN] at h
  | succ g => exact ⟨g, rfl⟩
theorem shTo_le {xss : List (List Int)} {i k : Nat} (h : i < k) : shTo xss k ≤ (rx xss i).length := by
  induction k with
  | zero => omega
  | succ k ih =>
    simp only [shTo]
    by_cases e : i = k
    · subst e; split
      · exact Nat.le_refl _
      · omega
    · have := ih (by omega); split <;> omega
theorem ascAll_at {xss : List (List Int)} (h : ascAll xss = true) : 0 < xss.length ∧ ∀ i, i < xss.length → AscTo (rx xss i) (rx xss i).length := by
  simp only [ascAll, decide_eq_true_eq] at h
  refine ⟨h.1, fun i hi => ?_⟩
  have := h.2 i hi
  simpa [ascB] using this
theorem remTo_le {L : List (List Int)} {p : List Nat} {B : Nat} (h : ∀ i, (rx L i).length ≤ B) (k : Nat) : remTo L p k ≤ k * B := by
  induction k with
  | zero => simp [remTo]
  | succ k ih => simp only [remTo]; have := h k; rw [Nat.succ_mul]; omega
/-- where the steps start -/
def leapP (xss : List (List Int)) : List Nat := List.replicate xss.length 0
noncomputable def leapTop (xss : List (List Int)) : Int := ix (rx (ordL xss xss.length) (xss.length - 1)) 0
noncomputable def leapFuel (xss : List (List Int)) : Nat := remTo (ordL xss xss.length) (leapP xss) xss.length + 1
theorem ox_rep (n k : Nat) : ox (List.replicate n 0) k = 0 := by
  simp only [ox, List.getD]
  by_cases h : k < n
  · simp [h]
  · rw [List.getElem?_eq_none (by simp; omega)]; rfl
theorem leap_start {xss : List (List Int)} (hE : ascAll xss = true) (hS : shF xss ≠ 0) :
    LeapOK (ordL xss xss.length) (leapP xss) (leapTop xss) ∧ (∀ i, i < xss.length → 0 < (rx xss i).length) ∧ ∃ R, leapN (ordL xss xss.length) (leapFuel xss) 0 (leapP xss) (leapTop xss) [] = some R := by
  obtain ⟨h0, hasc⟩ := ascAll_at hE
  have hpos : ∀ i, i < xss.length → 0 < (rx xss i).length := by
    intro i hi
    have h1 := shTo_le (xss := xss) hi
    unfold shF at hS
    omega
  have hlen := ordL_len xss xss.length
  have ok : LeapOK (ordL xss xss.length) (leapP xss) (leapTop xss) := by
    refine ⟨by omega, by simp [leapP, hlen], fun k hk => ?_, fun k hk => ?_⟩
    · unfold leapP; rw [ox_rep, rx_ordL (by omega)]
      exact hpos _ (by
        have h2 := ordIx_len xss xss.length
        rw [ox_lt (by omega)]; exact ordIx_lt xss xss.length _ (List.getElem_mem _))
    · unfold leapP leapTop; rw [ox_rep, rx_ordL (by omega), rx_ordL (by omega)]
      exact ordIx_sorted xss xss.length k (xss.length - 1) (by omega) (by omega)
  refine ⟨ok, hpos, ?_⟩
  have := leap_ends (L := ordL xss xss.length) (fun k hk => by
    have hk' : k < xss.length := by omega
    rw [rx_ordL hk']
    exact hasc _ (by
        have h2 := ordIx_len xss xss.length
        rw [ox_lt (by omega)]; exact ordIx_lt xss xss.length _ (List.getElem_mem _))) (remTo (ordL xss xss.length) (leapP xss) xss.length) 0 (leapP xss) (leapTop xss) [] (by rw [hlen]; exact Nat.le_refl _) ok
  exact this
open Classical in
/-- what the leapfrog intersection returns -/
noncomputable def leapF (xss : List (List Int)) : List Int × Nat :=
  if ascAll xss = true ∧ shF xss ≠ 0 then (leapN (ordL xss xss.length) (leapFuel xss) 0 (leapP xss) (leapTop xss) []).getD ([], 0) else ([], 0)
theorem leapF_no {xss : List (List Int)} (h : ¬ (ascAll xss = true ∧ shF xss ≠ 0)) : leapF xss = ([], 0) := by unfold leapF; rw [if_neg h]
theorem leapF_run {xss : List (List Int)} (hE : ascAll xss = true) (hS : shF xss ≠ 0) : leapN (ordL xss xss.length) (leapFuel xss) 0 (leapP xss) (leapTop xss) [] = some (leapF xss) := by
  obtain ⟨_, _, R, hR⟩ := leap_start hE hS
  unfold leapF
  rw [if_pos ⟨hE, hS⟩, hR]; rfl
end Go.Proofs.Ytkhilfgkejienaa
