/- Rows in their order: sorting them and keeping each once. -/
import Derived.Test.YtpamedlmbopfjaaQ2
namespace Go.Proofs.Ytpamedlmbopfjaa
set_option linter.unusedSimpArgs false
set_option linter.unusedVariables false
open Go.RowKit
theorem cmpR_rng : ∀ (a b : List Int), cmpR a b = -1 ∨ cmpR a b = 0 ∨ cmpR a b = 1
  | [], [] => by simp [cmpR]
  | [], _ :: _ => by simp [cmpR]
  | _ :: _, [] => by simp [cmpR]
  | x :: a, y :: b => by
    simp only [cmpR]
    split
    · exact cmpR_rng a b
    · unfold cmpI
      split
      · exact .inl rfl
      · split
        · exact .inr (.inr rfl)
        · exact .inr (.inl rfl)
theorem cmpR_zero : ∀ {a b : List Int}, cmpR a b = 0 ↔ a = b
  | [], [] => by simp [cmpR]
  | [], _ :: _ => by simp [cmpR]
  | _ :: _, [] => by simp [cmpR]
  | x :: a, y :: b => by
    simp only [cmpR]
    split
    · rename_i e; rw [cmpR_zero, e]; simp
    · rename_i e
      unfold cmpI
      constructor
      · intro h
        split at h
        · omega
        · split at h <;> omega
      · intro h
        exact absurd (List.cons.inj h).1 e
theorem cmpR_self (a : List Int) : cmpR a a = 0 := cmpR_zero.2 rfl
/-- the order of lists: what is less than what is not more is less, and so on -/
theorem cmpR_tr : ∀ {a b c : List Int}, a.length = b.length → b.length = c.length → cmpR a b ≤ 0 → cmpR b c ≤ 0 → cmpR a c ≤ 0 ∧ (cmpR a b < 0 ∨ cmpR b c < 0 → cmpR a c < 0)
  | [], [], [], _, _, _, _ => by simp [cmpR]
  | x :: a, y :: b, z :: c, h1, h2, h3, h4 => by
    simp only [List.length_cons, Nat.add_right_cancel_iff] at h1 h2
    simp only [cmpR, cmpI] at h3 h4 ⊢
    by_cases e1 : x = y
    · subst e1
      rw [if_pos rfl] at h3 ⊢
      by_cases e2 : x = z
      · subst e2
        rw [if_pos rfl] at h4 ⊢
        rw [if_pos rfl]
        exact cmpR_tr h1 h2 h3 h4
      · rw [if_neg e2] at h4 ⊢
        rw [if_neg e2]
        split at h4
        · rename_i hlt; rw [if_pos hlt]; omega
        · split at h4 <;> omega
    · rw [if_neg e1] at h3 ⊢
      have hxy : x < y := by
        split at h3
        · assumption
        · split at h3 <;> omega
      by_cases e2 : y = z
      · subst e2
        rw [if_neg e1, if_pos hxy]
        omega
      · rw [if_neg e2] at h4
        have hyz : y < z := by
          split at h4
          · assumption
          · split at h4 <;> omega
        rw [if_neg (by omega), if_pos (show x < z by omega)]
        omega
theorem cmpR_take : ∀ {a b : List Int} (q : Nat), a.length = b.length → cmpR a b ≤ 0 → cmpR (a.take q) (b.take q) ≤ 0
  | [], [], q, _, _ => by simp [cmpR]
  | x :: a, y :: b, 0, _, _ => by simp [cmpR]
  | x :: a, y :: b, q + 1, h, h1 => by
    simp only [List.length_cons, Nat.add_right_cancel_iff] at h
    simp only [List.take_succ_cons, cmpR] at h1 ⊢
    split at h1
    · rename_i e; rw [if_pos e]; exact cmpR_take q h h1
    · rename_i e; rw [if_neg e]; exact h1
theorem cmpR_snoc : ∀ (a : List Int) (x y : Int), cmpR (a ++ [x]) (a ++ [y]) = cmpI x y
  | [], x, y => by
    simp only [List.nil_append, cmpR, cmpI]
    split
    · rename_i e; subst e; simp
    · rfl
  | z :: a, x, y => by
    simp only [List.cons_append, cmpR, if_pos]
    exact cmpR_snoc a x y

theorem cmpI_anti (x y : Int) : cmpI y x = - cmpI x y := by
  unfold cmpI
  split <;> split <;> first | omega | (split <;> omega) | skip
theorem cmpR_anti : ∀ a b : List Int, cmpR b a = - cmpR a b
  | [], [] => by simp [cmpR]
  | [], _ :: _ => by simp [cmpR]
  | _ :: _, [] => by simp [cmpR]
  | x :: a, y :: b => by
    simp only [cmpR]
    by_cases e : x = y
    · rw [if_pos e, if_pos e.symm]; exact cmpR_anti a b
    · rw [if_neg e, if_neg (fun h => e h.symm)]; exact cmpI_anti x y
/-- strictly ascending -/
def Asc (rows : List (List Int)) : Prop := rows.Pairwise (fun a b => cmpR a b < 0)
def SameL (n : Nat) (rows : List (List Int)) : Prop := ∀ x ∈ rows, x.length = n
theorem cmpR_lt_tr {a b c : List Int} {n : Nat} (ha : a.length = n) (hb : b.length = n) (hc : c.length = n) (h1 : cmpR a b < 0) (h2 : cmpR b c ≤ 0) : cmpR a c < 0 := (cmpR_tr (by omega) (by omega) (by omega) h2).2 (.inl h1)
theorem cmpR_lt_tr2 {a b c : List Int} {n : Nat} (ha : a.length = n) (hb : b.length = n) (hc : c.length = n) (h1 : cmpR a b ≤ 0) (h2 : cmpR b c < 0) : cmpR a c < 0 := (cmpR_tr (by omega) (by omega) h1 (by omega)).2 (.inr h2)
def insR (x : List Int) : List (List Int) → List (List Int)
  | [] => [x]
  | y :: l => if cmpR x y < 0 then x :: y :: l else if cmpR x y = 0 then y :: l else y :: insR x l
def srt : List (List Int) → List (List Int)
  | [] => []
  | x :: l => insR x (srt l)
theorem mem_insR {x z : List Int} : ∀ {l : List (List Int)}, z ∈ insR x l ↔ z = x ∨ z ∈ l
  | [] => by simp [insR]
  | y :: l => by
    simp only [insR]
    split
    · simp
    · split
      · rename_i h
        have := cmpR_zero.1 h
        subst this
        simp
      · rw [List.mem_cons, mem_insR, List.mem_cons]
        constructor
        · rintro (h | h | h)
          · exact .inr (.inl h)
          · exact .inl h
          · exact .inr (.inr h)
        · rintro (h | h | h)
          · exact .inr (.inl h)
          · exact .inl h
          · exact .inr (.inr h)
theorem mem_srt {z : List Int} : ∀ {l : List (List Int)}, z ∈ srt l ↔ z ∈ l
  | [] => by simp [srt]
  | x :: l => by simp only [srt]; rw [mem_insR, mem_srt, List.mem_cons]
theorem SameL.srt {n : Nat} {l : List (List Int)} (h : SameL n l) : SameL n (srt l) := fun x hx => h x (mem_srt.1 hx)
theorem asc_insR {n : Nat} {x : List Int} (hx : x.length = n) : ∀ {l : List (List Int)}, SameL n l → Asc l → Asc (insR x l)
  | [], _, _ => by simp [insR, Asc]
  | y :: l, hl, h => by
    have h1 := List.pairwise_cons.1 h
    have hy := hl y (List.mem_cons_self ..)
    simp only [insR]
    split
    · rename_i hlt
      refine List.pairwise_cons.2 ⟨fun z hz => ?_, h⟩
      rcases List.mem_cons.1 hz with rfl | hz'
      · exact hlt
      · exact cmpR_lt_tr hx hy (hl z hz) hlt (by have := h1.1 z hz'; omega)
    · split
      · exact h
      · rename_i h2 h3
        refine List.pairwise_cons.2 ⟨fun z hz => ?_, asc_insR hx (fun z hz => hl z (List.mem_cons_of_mem _ hz)) h1.2⟩
        rcases mem_insR.1 hz with rfl | hz'
        · have := cmpR_anti z y; omega
        · exact h1.1 z hz'
theorem asc_srt {n : Nat} : ∀ {l : List (List Int)}, SameL n l → Asc (srt l)
  | [], _ => by simp [srt, Asc]
  | x :: l, h => asc_insR (h x (List.mem_cons_self ..)) (SameL.srt fun z hz => h z (List.mem_cons_of_mem _ hz)) (asc_srt fun z hz => h z (List.mem_cons_of_mem _ hz))
/-- two strictly ascending lists of the same rows are the same -/
theorem asc_uniq : ∀ {a b : List (List Int)}, Asc a → Asc b → (∀ x, x ∈ a ↔ x ∈ b) → a = b
  | [], [], _, _, _ => rfl
  | [], y :: b, _, _, h => by have := (h y).2 (List.mem_cons_self ..); simp at this
  | x :: a, [], _, _, h => by have := (h x).1 (List.mem_cons_self ..); simp at this
  | x :: a, y :: b, ha, hb, h => by
    have h1 := List.pairwise_cons.1 ha
    have h2 := List.pairwise_cons.1 hb
    have e : x = y := by
      rcases List.mem_cons.1 ((h x).1 (List.mem_cons_self ..)) with e | e
      · exact e
      · rcases List.mem_cons.1 ((h y).2 (List.mem_cons_self ..)) with e' | e'
        · exact e'.symm
        · have g1 := h1.1 y e'; have g2 := h2.1 x e; have := cmpR_anti x y; omega
    subst e
    have hna : x ∉ a := fun hx => by have := h1.1 x hx; rw [cmpR_self] at this; omega
    have hnb : x ∉ b := fun hx => by have := h2.1 x hx; rw [cmpR_self] at this; omega
    rw [asc_uniq h1.2 h2.2 fun z => ?_]
    constructor
    · intro hz
      rcases List.mem_cons.1 ((h z).1 (List.mem_cons_of_mem _ hz)) with rfl | h'
      · exact absurd hz hna
      · exact h'
    · intro hz
      rcases List.mem_cons.1 ((h z).2 (List.mem_cons_of_mem _ hz)) with rfl | h'
      · exact absurd hz hnb
      · exact h'
theorem srt_eq {n : Nat} {l out : List (List Int)} (hl : SameL n l) (h1 : Asc out) (h2 : ∀ x, x ∈ out ↔ x ∈ l) : srt l = out := asc_uniq (asc_srt hl) h1 fun x => by rw [mem_srt, h2]
theorem srt_asc {n : Nat} {l : List (List Int)} (hl : SameL n l) (h : Asc l) : srt l = l := srt_eq hl h fun _ => Iff.rfl
theorem insR_len (x : List Int) : ∀ l : List (List Int), (insR x l).length ≤ l.length + 1
  | [] => by simp [insR]
  | y :: l => by
    simp only [insR]
    split
    · simp
    · split
      · simp
      · have := insR_len x l; simp only [List.length_cons]; omega
theorem srt_len : ∀ l : List (List Int), (srt l).length ≤ l.length
  | [] => by simp [srt]
  | x :: l => by have := insR_len x (srt l); have := srt_len l; simp only [srt, List.length_cons]; omega
theorem srt_small {l : List (List Int)} (h : l.length < 2) : srt l = l := by
  match l, h with
  | [], _ => rfl
  | [x], _ => rfl
/-- adding a row behind all the others -/
theorem asc_snoc {out : List (List Int)} {x : List Int} (h : Asc out) (hx : ∀ y ∈ out, cmpR y x < 0) : Asc (out ++ [x]) := by
  unfold Asc
  rw [List.pairwise_append]
  exact ⟨h, by simp, fun y hy z hz => by rw [List.mem_singleton.1 hz]; exact hx y hy⟩
/-- where a merge stands: the rows taken, and those that are left -/
structure Mrg (q : Nat) (l a b out : List (List Int)) : Prop where
  aa : Asc a
  ab : Asc b
  ao : Asc out
  lt : ∀ x ∈ out, ∀ y, y ∈ a ∨ y ∈ b → cmpR x y < 0
  mem : ∀ x, (x ∈ out ∨ x ∈ a ∨ x ∈ b) ↔ x ∈ l
  same : SameL q l
  len : out.length + a.length + b.length ≤ l.length
theorem Mrg.start {q : Nat} {l : List (List Int)} (h : SameL q l) (m : Nat) : Mrg q l (srt (l.take m)) (srt (l.drop m)) [] := by
  have h1 : SameL q (l.take m) := fun x hx => h x (List.mem_of_mem_take hx)
  have h2 : SameL q (l.drop m) := fun x hx => h x (List.mem_of_mem_drop hx)
  refine ⟨asc_srt h1, asc_srt h2, by simp [Asc], by simp, fun x => ?_, h, ?_⟩
  · rw [mem_srt, mem_srt]
    have e : x ∈ l ↔ x ∈ l.take m ∨ x ∈ l.drop m := by rw [← List.mem_append, List.take_append_drop]
    rw [e]; simp
  · have g1 := srt_len (l.take m); have g2 := srt_len (l.drop m)
    simp only [List.length_take, List.length_drop] at g1 g2
    simp only [List.length_nil]; omega
theorem Mrg.fin {q : Nat} {l out : List (List Int)} (h : Mrg q l [] [] out) : srt l = out := srt_eq h.same h.ao fun x => by rw [← h.mem x]; simp
theorem Mrg.sa {q : Nat} {l a b out : List (List Int)} (h : Mrg q l a b out) : SameL q a := fun x hx => h.same x ((h.mem x).1 (.inr (.inl hx)))
theorem Mrg.sb {q : Nat} {l a b out : List (List Int)} (h : Mrg q l a b out) : SameL q b := fun x hx => h.same x ((h.mem x).1 (.inr (.inr hx)))
theorem Mrg.swap {q : Nat} {l a b out : List (List Int)} (h : Mrg q l a b out) : Mrg q l b a out :=
  ⟨h.ab, h.aa, h.ao, fun x hx y hy => h.lt x hx y hy.symm, fun x => by rw [← h.mem x]; constructor <;> (rintro (h | h | h) <;> simp [h]), h.same, by have := h.len; omega⟩
/-- the first of a is less than all of b -/
theorem Mrg.left {q : Nat} {l a b out : List (List Int)} {x : List Int} (h : Mrg q l (x :: a) b out) (hx : ∀ y, b.head? = some y → cmpR x y < 0) : Mrg q l a b (out ++ [x]) := by
  have h1 := List.pairwise_cons.1 h.aa
  refine ⟨h1.2, h.ab, asc_snoc h.ao fun y hy => h.lt y hy x (.inl (List.mem_cons_self ..)), fun z hz y hy => ?_, fun z => ?_, h.same, by have := h.len; simp at this ⊢; omega⟩
  · rcases List.mem_append.1 hz with hz | hz
    · exact h.lt z hz y (hy.imp (fun h => List.mem_cons_of_mem _ h) id)
    · rw [List.mem_singleton] at hz
      subst hz
      rcases hy with hy | hy
      · exact h1.1 y hy
      · cases b with
        | nil => cases hy
        | cons w b =>
          have h2 := hx w rfl
          rcases List.mem_cons.1 hy with rfl | hy'
          · exact h2
          · exact cmpR_lt_tr (h.sa z (List.mem_cons_self ..)) (h.sb w (List.mem_cons_self ..)) (h.sb y hy) h2 (by have := (List.pairwise_cons.1 h.ab).1 y hy'; omega)
  · rw [← h.mem z]; simp only [List.mem_append, List.mem_cons, List.not_mem_nil, or_false]
    constructor
    · rintro ((h | h) | h | h)
      · exact .inl h
      · exact .inr (.inl (.inl h))
      · exact .inr (.inl (.inr h))
      · exact .inr (.inr h)
    · rintro (h | (h | h) | h)
      · exact .inl (.inl h)
      · exact .inl (.inr h)
      · exact .inr (.inl h)
      · exact .inr (.inr h)
theorem Mrg.both {q : Nat} {l a b out : List (List Int)} {x : List Int} (h : Mrg q l (x :: a) (x :: b) out) : Mrg q l a b (out ++ [x]) := by
  have h1 := List.pairwise_cons.1 h.aa
  have h2 := List.pairwise_cons.1 h.ab
  refine ⟨h1.2, h2.2, asc_snoc h.ao fun y hy => h.lt y hy x (.inl (List.mem_cons_self ..)), fun z hz y hy => ?_, fun z => ?_, h.same, by have := h.len; simp at this ⊢; omega⟩
  · rcases List.mem_append.1 hz with hz | hz
    · exact h.lt z hz y (hy.imp (fun h => List.mem_cons_of_mem _ h) (fun h => List.mem_cons_of_mem _ h))
    · rw [List.mem_singleton] at hz
      subst hz
      rcases hy with hy | hy
      · exact h1.1 y hy
      · exact h2.1 y hy
  · rw [← h.mem z]; simp only [List.mem_append, List.mem_cons, List.not_mem_nil, or_false]
    constructor
    · rintro ((h | h) | h | h)
      · exact .inl h
      · exact .inr (.inl (.inl h))
      · exact .inr (.inl (.inr h))
      · exact .inr (.inr (.inr h))
    · rintro (h | (h | h) | (h | h))
      · exact .inl (.inl h)
      · exact .inl (.inr h)
      · exact .inr (.inl h)
      · exact .inl (.inr h)
      · exact .inr (.inr h)
/-- the same where a row may be met again -/
structure Mrg2 (q : Nat) (l a b out : List (List Int)) : Prop where
  aa : Asc a
  ab : Asc b
  ao : Asc out
  le : ∀ x ∈ out, ∀ y, y ∈ a ∨ y ∈ b → cmpR x y ≤ 0
  mem : ∀ x, (x ∈ out ∨ x ∈ a ∨ x ∈ b) ↔ x ∈ l
  same : SameL q l
  len : out.length + a.length + b.length ≤ l.length
theorem Mrg2.start {q : Nat} {l : List (List Int)} (h : SameL q l) (m : Nat) : Mrg2 q l (srt (l.take m)) (srt (l.drop m)) [] := by
  have := Mrg.start h m
  exact ⟨this.aa, this.ab, this.ao, by simp, this.mem, this.same, this.len⟩
theorem Mrg2.fin {q : Nat} {l out : List (List Int)} (h : Mrg2 q l [] [] out) : srt l = out := srt_eq h.same h.ao fun x => by rw [← h.mem x]; simp
theorem Mrg2.sa {q : Nat} {l a b out : List (List Int)} (h : Mrg2 q l a b out) : SameL q a := fun x hx => h.same x ((h.mem x).1 (.inr (.inl hx)))
theorem Mrg2.sb {q : Nat} {l a b out : List (List Int)} (h : Mrg2 q l a b out) : SameL q b := fun x hx => h.same x ((h.mem x).1 (.inr (.inr hx)))
theorem Mrg2.so {q : Nat} {l a b out : List (List Int)} (h : Mrg2 q l a b out) : SameL q out := fun x hx => h.same x ((h.mem x).1 (.inl hx))
theorem Mrg2.swap {q : Nat} {l a b out : List (List Int)} (h : Mrg2 q l a b out) : Mrg2 q l b a out :=
  ⟨h.ab, h.aa, h.ao, fun x hx y hy => h.le x hx y hy.symm, fun x => by rw [← h.mem x]; constructor <;> (rintro (h | h | h) <;> simp [h]), h.same, by have := h.len; omega⟩
/-- the first of a is not more than all of b: where it stands already -/
theorem Mrg2.skip {q : Nat} {l a b out : List (List Int)} {x : List Int} (h : Mrg2 q l (x :: a) b out) (hx : x ∈ out) : Mrg2 q l a b out := by
  have h1 := List.pairwise_cons.1 h.aa
  refine ⟨h1.2, h.ab, h.ao, fun z hz y hy => h.le z hz y (hy.imp (fun h => List.mem_cons_of_mem _ h) id), fun z => ?_, h.same, by have := h.len; simp at this ⊢; omega⟩
  rw [← h.mem z]; simp only [List.mem_cons]
  constructor
  · rintro (h | h | h)
    · exact .inl h
    · exact .inr (.inl (.inr h))
    · exact .inr (.inr h)
  · rintro (h | (h | h) | h)
    · exact .inl h
    · subst h; exact .inl hx
    · exact .inr (.inl h)
    · exact .inr (.inr h)
theorem Mrg2.left {q : Nat} {l a b out : List (List Int)} {x : List Int} (h : Mrg2 q l (x :: a) b out) (hx : ∀ y, b.head? = some y → cmpR x y ≤ 0) (ho : ∀ y ∈ out, cmpR y x < 0) : Mrg2 q l a b (out ++ [x]) := by
  have h1 := List.pairwise_cons.1 h.aa
  refine ⟨h1.2, h.ab, asc_snoc h.ao ho, fun z hz y hy => ?_, fun z => ?_, h.same, by have := h.len; simp at this ⊢; omega⟩
  · rcases List.mem_append.1 hz with hz | hz
    · exact h.le z hz y (hy.imp (fun h => List.mem_cons_of_mem _ h) id)
    · rw [List.mem_singleton] at hz
      subst hz
      rcases hy with hy | hy
      · have := h1.1 y hy; omega
      · cases b with
        | nil => cases hy
        | cons w b =>
          have h2 := hx w rfl
          rcases List.mem_cons.1 hy with rfl | hy'
          · exact h2
          · have := cmpR_lt_tr2 (h.sa z (List.mem_cons_self ..)) (h.sb w (List.mem_cons_self ..)) (h.sb y hy) h2 ((List.pairwise_cons.1 h.ab).1 y hy')
            omega
  · rw [← h.mem z]; simp only [List.mem_append, List.mem_cons, List.not_mem_nil, or_false]
    constructor
    · rintro ((h | h) | h | h)
      · exact .inl h
      · exact .inr (.inl (.inl h))
      · exact .inr (.inl (.inr h))
      · exact .inr (.inr h)
    · rintro (h | (h | h) | h)
      · exact .inl (.inl h)
      · exact .inl (.inr h)
      · exact .inr (.inl h)
      · exact .inr (.inr h)
/-- the last of out is another row: all of out are less -/
theorem Mrg2.less {q : Nat} {l a b out : List (List Int)} {x z : List Int} (h : Mrg2 q l (x :: a) b (out ++ [z])) (hz : cmpR z x ≠ 0) : ∀ y ∈ out ++ [z], cmpR y x < 0 := fun y hy => by
  have hzx := h.le z (by simp) x (.inl (List.mem_cons_self ..))
  rcases List.mem_append.1 hy with hy' | hy'
  · have h1 := (List.pairwise_append.1 h.ao).2.2 y hy' z (by simp)
    exact cmpR_lt_tr (h.so y hy) (h.so z (by simp)) (h.sa x (List.mem_cons_self ..)) h1 hzx
  · rw [List.mem_singleton] at hy'
    subst hy'; omega
end Go.Proofs.Ytpamedlmbopfjaa
