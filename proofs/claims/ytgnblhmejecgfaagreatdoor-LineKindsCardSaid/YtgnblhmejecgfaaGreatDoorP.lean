/- What the functions compute, in plain Lean: no program in it. -/
import Derived.Test.YtgnblhmejecgfaaGreatDoorL
set_option linter.all false
namespace Go.Inn
open Go Go.RowKit
section
variable {α : Type} [Inhabited α]
theorem eq_done {xs ys : List α} {i : Nat} (h : i ≤ xs.length ∧ xs.length = ys.length ∧ xs.take i = ys.take i) (h4 : (xs.length : Int) ≤ i) : xs = ys := by
  obtain ⟨h1, h2, h3⟩ := h
  have e : i = xs.length := by omega
  subst e
  rw [List.take_of_length_le (Nat.le_refl _), List.take_of_length_le (by omega)] at h3
  exact h3
theorem nth_nat {xs : List α} {i : Nat} (h : i < xs.length) : nth xs (i : Int) = xs[i] := by
  rw [nth_eq (by simpa using h)]; simp
theorem take_succ {xs : List α} {i : Nat} (h : i < xs.length) : xs.take (i + 1) = xs.take i ++ [nth xs (i : Int)] := by
  rw [nth_nat h]; simp
theorem eq_step {xs ys : List α} {i : Nat} (h : i ≤ xs.length ∧ xs.length = ys.length ∧ xs.take i = ys.take i) (h4 : (i : Int) < xs.length) (h5 : nth xs (i : Int) = nth ys (i : Int)) : i + 1 ≤ xs.length ∧ xs.length = ys.length ∧ xs.take (i + 1) = ys.take (i + 1) := by
  obtain ⟨h1, h2, h3⟩ := h
  refine ⟨by omega, h2, ?_⟩
  rw [take_succ (by omega), take_succ (by omega), h3, h5]
theorem all_done {p : α → Bool} {xs : List α} {i : Nat} (h : i ≤ xs.length ∧ (xs.take i).all p = true) (h4 : (xs.length : Int) ≤ i) : xs.all p = true := by
  obtain ⟨h1, h3⟩ := h
  have e : i = xs.length := by omega
  subst e
  rwa [List.take_of_length_le (Nat.le_refl _)] at h3
theorem all_step {p : α → Bool} {xs : List α} {i : Nat} (h : i ≤ xs.length ∧ (xs.take i).all p = true) (h4 : (i : Int) < xs.length) (h5 : p (nth xs (i : Int)) = true) : i + 1 ≤ xs.length ∧ (xs.take (i + 1)).all p = true := by
  obtain ⟨h1, h3⟩ := h
  refine ⟨by omega, ?_⟩
  rw [take_succ (by omega), List.all_append, h3]; simp [h5]
theorem nth_mem {xs : List α} {i : Int} (h0 : 0 ≤ i) (h : i < xs.length) : nth xs i ∈ xs := by
  rw [nth_eq (by omega)]; exact List.getElem_mem _
theorem all_not {p : α → Bool} {xs : List α} {i : Int} (h0 : 0 ≤ i) (h : i < xs.length) (h5 : p (nth xs i) = false) : xs.all p = false := by
  cases e : xs.all p with
  | false => rfl
  | true => rw [List.all_eq_true] at e; rw [e _ (nth_mem h0 h)] at h5; cases h5
end
def fitB (n : Int) : Bool := decide (0 ≤ n) && decide (n ≤ 1073741824)
def fitH (h : Bool) (n : Int) : Bool := if h then fitB n else decide (n = 0)
def rowB (l : List Int) : Bool := l.all fitB && decide (l.length ≤ 16)
def rowH (h : Bool) (l : List Int) : Bool := if h then rowB l else decide (l = [])
def CPl (c : Cmd) : CPlain := { kind := c.kind, dir := c.dir, item := c.item, box := c.box, who := c.who, pay := c.pay, fee := c.fee }
def bareC (c : Cmd) : Cmd :=
  if c.kind = 1 then { kind := 1, dir := c.dir } else if c.kind = 2 then { kind := 2, who := c.who, dir := c.dir }
  else if c.kind = 3 then { kind := 3, item := c.item } else if c.kind = 4 then { kind := 4, item := c.item } else if c.kind = 5 then { kind := 5, item := c.item, box := c.box } else if c.kind = 6 then { kind := 6, item := c.item, box := c.box }
  else if c.kind = 7 then { kind := 7, item := c.item, who := c.who } else if c.kind = 8 then { kind := 8, who := c.who, gives := c.gives, pay := c.pay, wants := c.wants, fee := c.fee } else { kind := c.kind }
/-- a name of a list -/
def nameIn (l : List Str) (n : Int) : Str := if n < 0 ∨ (l.length : Int) ≤ n then [] else nth l n
/-- the number of a name -/
def numberIn (l : List Str) (s : Str) : Int × Bool := if s = [] ∨ idxOf l s < 0 then (0, false) else (idxOf l s, true)
def nameK (k : Int) : Str := nameIn kindsL k
def wayD (d : Int) : Str := nameIn waysL d
def kindOf (s : Str) : Int × Bool := numberIn kindsL s
def dirOf (s : Str) : Int × Bool := numberIn waysL s
/-- ref03.May -/
def mayR (c : Cmd) : Bool :=
  !(decide (c.kind < 1) || decide (10 < c.kind) || decide (c.dir < 0) || decide (3 < c.dir) || (!decide (c.dir = 0) && decide (2 < c.kind))) &&
  (fitH (decide (3 ≤ c.kind) && decide (c.kind ≤ 7)) c.item && fitH (decide (c.kind = 5) || decide (c.kind = 6)) c.box && fitH (decide (c.kind = 2) || decide (c.kind = 7) || decide (c.kind = 8)) c.who && fitH (decide (c.kind = 8)) c.pay && fitH (decide (c.kind = 8)) c.fee && rowH (decide (c.kind = 8)) c.gives && rowH (decide (c.kind = 8)) c.wants)
/-- cmd.May -/
def mayC (c : Cmd) : Bool :=
  !decide (nameK c.kind = []) && decide (c = bareC c) && !decide (wayD c.dir = []) && fitB c.item && fitB c.box && fitB c.who && fitB c.pay && fitB c.fee && rowB c.gives && rowB c.wants
theorem kind_hit {s : Str} {k : Nat} (h1 : 1 ≤ k) (h2 : k ≤ 10) (h : nameK (k : Int) = s) : kindOf s = ((k : Int), true) := by
  subst h
  match k, h1, h2 with
  | 1, _, _ | 2, _, _ | 3, _, _ | 4, _, _ | 5, _, _ | 6, _, _ | 7, _, _ | 8, _, _ | 9, _, _ | 10, _, _ => decide
theorem dir_hit {s : Str} {k : Nat} (h2 : k ≤ 3) (h : wayD (k : Int) = s) : dirOf s = ((k : Int), true) := by
  subst h
  match k, h2 with
  | 0, _ | 1, _ | 2, _ | 3, _ => decide
theorem idxOf_none {s : Str} : ∀ {l : List Str}, (∀ x, x ∈ l → x ≠ s) → idxOf l s = -1
  | [], _ => rfl
  | y :: ys, h => by
    have h1 : y ≠ s := h y (by simp)
    have h2 := idxOf_none (s := s) (l := ys) (fun x hx => h x (by simp [hx]))
    simp [idxOf, h1, h2]
theorem kind_none {s : Str} (h : ∀ j : Nat, 1 ≤ j → j ≤ 10 → nameK (j : Int) ≠ s) : kindOf s = (0, false) := by
  unfold kindOf numberIn
  by_cases e : s = []
  · simp [e]
  · have : idxOf kindsL s = -1 := by
      refine idxOf_none fun x hx => ?_
      have h1 := h 1 (by omega) (by omega); have h2 := h 2 (by omega) (by omega); have h3 := h 3 (by omega) (by omega); have h4 := h 4 (by omega) (by omega); have h5 := h 5 (by omega) (by omega)
      have h6 := h 6 (by omega) (by omega); have h7 := h 7 (by omega) (by omega); have h8 := h 8 (by omega) (by omega); have h9 := h 9 (by omega) (by omega); have h10 := h 10 (by omega) (by omega)
      simp only [kindsL, List.mem_cons, List.not_mem_nil, or_false] at hx
      rcases hx with rfl | rfl | rfl | rfl | rfl | rfl | rfl | rfl | rfl | rfl | rfl
      · exact fun h => e h.symm
      all_goals assumption
    simp [this]
theorem dir_none {s : Str} (h : ∀ j : Nat, j ≤ 3 → wayD (j : Int) ≠ s) : dirOf s = (0, false) := by
  unfold dirOf numberIn
  by_cases e : s = []
  · simp [e]
  · have : idxOf waysL s = -1 := by
      refine idxOf_none fun x hx => ?_
      have h0 := h 0 (by omega); have h1 := h 1 (by omega); have h2 := h 2 (by omega); have h3 := h 3 (by omega)
      simp only [waysL, List.mem_cons, List.not_mem_nil, or_false] at hx
      rcases hx with rfl | rfl | rfl | rfl
      all_goals assumption
    simp [this]
theorem kind_step {s : Str} {k : Nat} (h : 1 ≤ k ∧ k ≤ 11 ∧ ∀ j : Nat, 1 ≤ j → j < k → nameK (j : Int) ≠ s) (h1 : (k : Int) ≤ 10) (h2 : ¬ nameK (k : Int) = s) : 1 ≤ k + 1 ∧ k + 1 ≤ 11 ∧ ∀ j : Nat, 1 ≤ j → j < k + 1 → nameK (j : Int) ≠ s := by
  refine ⟨by omega, by omega, fun j a b => ?_⟩
  by_cases e : j = k
  · subst e; exact h2
  · exact h.2.2 j a (by omega)
theorem dir_step {s : Str} {k : Nat} (h : k ≤ 4 ∧ ∀ j : Nat, j < k → wayD (j : Int) ≠ s) (h1 : (k : Int) < 4) (h2 : ¬ wayD (k : Int) = s) : k + 1 ≤ 4 ∧ ∀ j : Nat, j < k + 1 → wayD (j : Int) ≠ s := by
  refine ⟨by omega, fun j b => ?_⟩
  by_cases e : j = k
  · subst e; exact h2
  · exact h.2 j (by omega)
theorem name_out {k : Int} (h : k < 1 ∨ 10 < k) : nameK k = [] := by
  by_cases e : k = 0
  · subst e; rfl
  · have e1 : kindsL.length = 11 := rfl
    unfold nameK nameIn; rw [if_pos (by rw [e1]; omega)]
/-! numbers' words -/
/-- ref02.Word -/
def wordR (n : Int) : Str := if h : n < 10 then [u8 (48 + n)] else wordR (n.tdiv 10) ++ [u8 (48 + n.tmod 10)]
termination_by n.toNat
decreasing_by rw [Int.tdiv_eq_ediv_of_nonneg (by omega)]; omega
theorem wordR_small {n : Int} (h : n < 10) : wordR n = [u8 (48 + n)] := by rw [wordR, dif_pos h]
theorem wordR_big {n : Int} (h : ¬ n < 10) : wordR n = wordR (n.tdiv 10) ++ [u8 (48 + n.tmod 10)] := by rw [wordR, dif_neg h]
theorem wordR_len : ∀ (k : Nat) (n : Int), n < (10 : Int) ^ (k + 1) → (wordR n).length ≤ k + 1 := by
  intro k
  induction k with
  | zero => intro n h; rw [wordR_small (by simpa using h)]; simp
  | succ k ih =>
    intro n h
    by_cases h1 : n < 10
    · rw [wordR_small h1]; simp
    · rw [wordR_big h1, List.length_append]
      have e := Int.tdiv_eq_ediv_of_nonneg (a := n) (b := 10) (by omega)
      have := ih (n.tdiv 10) (by
        rw [e]
        have : (10 : Int) ^ (k + 1 + 1) = 10 * 10 ^ (k + 1) := by rw [Int.pow_succ]; omega
        rw [this] at h
        omega)
      simp; omega
theorem wordR_len20 {n : Int} (h : n ≤ 9223372036854775807) : (wordR n).length ≤ 20 := wordR_len 19 n (Int.lt_of_le_of_lt h (by decide))
theorem wordR_itoa : ∀ (k : Nat) (n : Int), n.toNat ≤ k → 0 ≤ n → wordR n = Lib.itoa n := by
  intro k
  induction k with
  | zero =>
    intro n h h0
    obtain rfl : n = 0 := by omega
    rw [wordR_small (by omega)]
    simp [Lib.itoa, Lib.decDigits, u8]
  | succ k ih =>
    intro n h h0
    have e := Int.tdiv_eq_ediv_of_nonneg (a := n) (b := 10) h0
    have e2 := Int.tmod_eq_emod_of_nonneg (a := n) (b := 10) h0
    by_cases h1 : n < 10
    · rw [wordR_small h1]
      have hn : ¬ n < 0 := by omega
      have h2 : n.toNat < 10 := by omega
      rw [Lib.itoa, if_neg hn, Lib.decDigits, dif_pos h2]
      congr 1
      unfold u8
      congr 1
      omega
    · have hn : ¬ n < 0 := by omega
      have hn2 : ¬ n / 10 < 0 := by omega
      have h2 : ¬ n.toNat < 10 := by omega
      rw [wordR_big h1, ih (n.tdiv 10) (by rw [e]; omega) (by rw [e]; omega), e, e2]
      rw [Lib.itoa, if_neg hn2, Lib.itoa, if_neg hn]
      rw [Lib.decDigits.eq_1 n.toNat, dif_neg h2]
      have e3 : (n / 10).toNat = n.toNat / 10 := by omega
      rw [e3]
      congr 2
      unfold u8
      congr 1
      omega
/-- token.Word -/
def wordT (n : Int) : Str := Lib.itoa n
/-- token.Number -/
def numT (w : Str) : Int × Bool := if (atoi w).2 = true ∨ (atoi w).1 < 0 ∨ 1073741824 < (atoi w).1 ∨ wordT (atoi w).1 ≠ w then (0, false) else ((atoi w).1, true)
/-- ref02.Number, behind a first part -/
def numLoop : Str → Bool → Int → Option Int
  | [], _, n => some n
  | c :: r, first, n => if c < 48 ∨ 57 < c ∨ (first = false ∧ n = 0) then none else numLoop r false (10 * n + (c.toNat : Int) - 48)
def numR (w : Str) : Int × Bool := if w = [] ∨ 10 < w.length then (0, false) else match numLoop w true 0 with
  | none => (0, false)
  | some n => if 1073741824 < n then (0, false) else (n, true)
structure NumInv (w : Str) (i : Nat) (n : Int) : Prop where
  le : i ≤ w.length
  pos : 0 ≤ n
  up : n + 1 ≤ (10 : Int) ^ i
  eq : numLoop w true 0 = numLoop (w.drop i) (decide (i = 0)) n
theorem NumInv.zero (w : Str) : NumInv w 0 0 := ⟨Nat.zero_le _, by omega, by simp, by simp⟩
theorem pow10_le {i : Nat} (h : i ≤ 10) : (10 : Int) ^ i ≤ 10000000000 := by
  match i, h with
  | 0, _ | 1, _ | 2, _ | 3, _ | 4, _ | 5, _ | 6, _ | 7, _ | 8, _ | 9, _ | 10, _ => decide
theorem NumInv.small {w : Str} {i : Nat} {n : Int} (h : NumInv w i n) (hw : w.length ≤ 10) : 0 ≤ n ∧ n < 10000000000 := by
  have := pow10_le (Nat.le_trans h.le hw)
  have := h.up
  have := h.pos
  omega
theorem drop_cons {w : Str} {i : Nat} (h : (i : Int) < w.length) : w.drop i = nth w (i : Int) :: w.drop (i + 1) := by
  have h' : i < w.length := by omega
  rw [nth_nat h', List.drop_eq_getElem_cons h']
theorem NumInv.bad {w : Str} {i : Nat} {n : Int} (h : NumInv w i n) (hi : (i : Int) < w.length) (hb : nth w (i : Int) < 48 ∨ 57 < nth w (i : Int) ∨ (0 < (i : Int) ∧ n = 0)) : numLoop w true 0 = none := by
  rw [h.eq, drop_cons hi, numLoop, if_pos]
  rcases hb with hb | hb | ⟨hb, hn⟩
  · exact .inl hb
  · exact .inr (.inl hb)
  · exact .inr (.inr ⟨by simp; omega, hn⟩)
theorem u8_lt {a b : UInt8} : a < b ↔ a.toNat < b.toNat := UInt8.lt_iff_toNat_lt
theorem NumInv.step {w : Str} {i : Nat} {n : Int} (h : NumInv w i n) (hi : (i : Int) < w.length) (hb : ¬ (nth w (i : Int) < 48 ∨ 57 < nth w (i : Int) ∨ (0 < (i : Int) ∧ n = 0))) : NumInv w (i + 1) (10 * n + ((nth w (i : Int)).toNat : Int) - 48) := by
  have h1 : ¬ nth w (i : Int) < 48 := fun h => hb (.inl h)
  have h2 : ¬ 57 < nth w (i : Int) := fun h => hb (.inr (.inl h))
  rw [u8_lt] at h1 h2
  have e48 : (48 : UInt8).toNat = 48 := rfl
  have e57 : (57 : UInt8).toNat = 57 := rfl
  rw [e48] at h1
  rw [e57] at h2
  have hu := h.up
  have hp := h.pos
  refine ⟨by omega, by omega, ?_, ?_⟩
  · have : (10 : Int) ^ (i + 1) = 10 * 10 ^ i := by rw [Int.pow_succ]; omega
    rw [this]; omega
  · rw [h.eq, drop_cons hi, numLoop, if_neg]
    · simp
    · rintro (h | h | ⟨h, hn⟩)
      · exact hb (.inl h)
      · exact hb (.inr (.inl h))
      · simp at h; exact hb (.inr (.inr ⟨by omega, hn⟩))
theorem NumInv.done {w : Str} {i : Nat} {n : Int} (h : NumInv w i n) (hi : ¬ (i : Int) < w.length) : numLoop w true 0 = some n := by
  have := h.le
  rw [h.eq, List.drop_of_length_le (by omega), numLoop]
/-- ref02.Join -/
def joinR : List Str → Str := fun l => join l
theorem join_snoc (l : List Str) (x : Str) : join (l ++ [x]) = if l = [] then x else join l ++ [32] ++ x := by
  cases l with
  | nil => simp [join, Lib.join_one]
  | cons y r => simp [join, Lib.join_cons, Lib.joinTail]
/-- where the first is that holds of -/
def idxF {α : Type} (p : α → Bool) : List α → Int
  | [] => -1
  | x :: xs => if p x then 0 else if idxF p xs < 0 then -1 else idxF p xs + 1
theorem idxF_any {α : Type} (p : α → Bool) : ∀ xs : List α, decide (0 ≤ idxF p xs) = xs.any p
  | [] => by simp [idxF]
  | x :: xs => by
    have h := idxF_any p xs
    rw [List.any_cons, ← h]
    show decide (0 ≤ (if p x then (0 : Int) else if idxF p xs < 0 then -1 else idxF p xs + 1)) = _
    by_cases e : p x = true
    · simp [e]
    · rw [if_neg e]
      by_cases e2 : idxF p xs < 0
      · rw [if_pos e2]; simp [e]; omega
      · rw [if_neg e2]; simp [e]; omega
theorem idxF_ge {α : Type} (p : α → Bool) : ∀ xs : List α, -1 ≤ idxF p xs
  | [] => by simp [idxF]
  | x :: xs => by
    have h := idxF_ge p xs
    show -1 ≤ (if p x then (0 : Int) else if idxF p xs < 0 then -1 else idxF p xs + 1)
    split
    · omega
    · split <;> omega
structure IdxInv {α : Type} (p : α → Bool) (xs : List α) (i : Nat) : Prop where
  le : i ≤ xs.length
  eq : idxF p xs = if idxF p (xs.drop i) < 0 then -1 else idxF p (xs.drop i) + i
theorem IdxInv.zero {α : Type} (p : α → Bool) (xs : List α) : IdxInv p xs 0 := ⟨Nat.zero_le _, by
  have := idxF_ge p xs
  rw [List.drop_zero]; split <;> omega⟩
section
variable {α : Type} [Inhabited α] {p : α → Bool} {xs : List α} {i : Nat}
theorem drop_nth (h : (i : Int) < xs.length) : xs.drop i = nth xs (i : Int) :: xs.drop (i + 1) := by
  have h' : i < xs.length := by omega
  rw [nth_nat h', List.drop_eq_getElem_cons h']
theorem IdxInv.step (h : IdxInv p xs i) (hi : (i : Int) < xs.length) (hp : p (nth xs (i : Int)) = false) : IdxInv p xs (i + 1) := by
  refine ⟨by omega, ?_⟩
  have := idxF_ge p (xs.drop (i + 1))
  rw [h.eq, drop_nth hi]
  show (if (if p (nth xs (i : Int)) then (0 : Int) else if idxF p (xs.drop (i + 1)) < 0 then -1 else idxF p (xs.drop (i + 1)) + 1) < 0 then -1 else (if p (nth xs (i : Int)) then (0 : Int) else if idxF p (xs.drop (i + 1)) < 0 then -1 else idxF p (xs.drop (i + 1)) + 1) + i) = _
  simp only [hp, Bool.false_eq_true, if_false]
  by_cases e : idxF p (xs.drop (i + 1)) < 0
  · simp [e]
  · rw [if_neg e, if_neg e, if_neg (by omega)]; omega
theorem IdxInv.hit (h : IdxInv p xs i) (hi : (i : Int) < xs.length) (hp : p (nth xs (i : Int)) = true) : idxF p xs = i := by
  rw [h.eq, drop_nth hi]
  show (if (if p (nth xs (i : Int)) then (0 : Int) else if idxF p (xs.drop (i + 1)) < 0 then -1 else idxF p (xs.drop (i + 1)) + 1) < 0 then -1 else (if p (nth xs (i : Int)) then (0 : Int) else if idxF p (xs.drop (i + 1)) < 0 then -1 else idxF p (xs.drop (i + 1)) + 1) + i) = _
  simp [hp]
theorem IdxInv.done (h : IdxInv p xs i) (hi : ¬ (i : Int) < xs.length) : idxF p xs = -1 := by
  have := h.le
  rw [h.eq, List.drop_of_length_le (by omega)]; simp [idxF]
end
/-- all that came, of a list's first part -/
structure MapInv {α β : Type} (f : α → β) (xs : List α) (i : Nat) (ys : List β) : Prop where
  le : i ≤ xs.length
  eq : ys = (xs.take i).map f
theorem plain_all {w : Str} (h : w.all (fun x => decide (x ≠ 32)) = true) : (!w.contains 32) = true := by
  simp only [List.all_eq_true, decide_eq_true_eq] at h
  simp only [Bool.not_eq_true', List.contains_eq_mem, decide_eq_false_iff_not]
  exact fun hm => h 32 hm rfl
theorem plain_not {w : Str} {i : Int} {b : Bool} (h0 : 0 ≤ i) (h1 : i < w.length) (h : nth w i = 32) : false = (!w.contains 32 && b) := by
  have : 32 ∈ w := h ▸ nth_mem h0 h1
  simp [this]
theorem numR_len {w : Str} (h : (w.length : Int) = 0 ∨ 10 < (w.length : Int)) : numR w = (0, false) := by
  unfold numR
  rw [if_pos]
  rcases h with h | h
  · exact .inl (List.eq_nil_of_length_eq_zero (by omega))
  · exact .inr (by omega)
theorem numR_in {w : Str} (h : ¬ (w.length : Int) = 0 ∧ ¬ 10 < (w.length : Int)) : numR w = match numLoop w true 0 with
  | none => (0, false)
  | some n => if 1073741824 < n then (0, false) else (n, true) := by
  unfold numR
  rw [if_neg]
  rintro (rfl | h')
  · exact h.1 rfl
  · omega
theorem numR_bad {w : Str} {i : Nat} {n : Int} (hl : ¬ (w.length : Int) = 0 ∧ ¬ 10 < (w.length : Int)) (h : NumInv w i n) (hi : (i : Int) < w.length) (hb : (nth w (i : Int) < 48 ∨ 57 < nth w (i : Int)) ∨ (0 < (i : Int) ∧ n = 0)) : numR w = (0, false) := by
  rw [numR_in hl, h.bad hi (hb.elim (fun h => h.elim .inl (fun h => .inr (.inl h))) (fun h => .inr (.inr h)))]
theorem numR_big {w : Str} {i : Nat} {n : Int} (hl : ¬ (w.length : Int) = 0 ∧ ¬ 10 < (w.length : Int)) (h : NumInv w i n) (hi : ¬ (i : Int) < w.length) (hb : 1073741824 < n) : numR w = (0, false) := by
  rw [numR_in hl, h.done hi]; simp [hb]
theorem numR_ok {w : Str} {i : Nat} {n : Int} (hl : ¬ (w.length : Int) = 0 ∧ ¬ 10 < (w.length : Int)) (h : NumInv w i n) (hi : ¬ (i : Int) < w.length) (hb : ¬ 1073741824 < n) : numR w = (n, true) := by
  rw [numR_in hl, h.done hi]; simp [hb]
theorem NumInv.step' {w : Str} {i : Nat} {n : Int} (h : NumInv w i n) (hi : (i : Int) < w.length) (hb : (¬ nth w (i : Int) < 48 ∧ ¬ 57 < nth w (i : Int)) ∧ (¬ 0 < (i : Int) ∨ ¬ n = 0)) : NumInv w (i + 1) (10 * n + ((nth w (i : Int)).toNat : Int) - 48) :=
  h.step hi (by
    rintro (h | h | ⟨h, h'⟩)
    · exact hb.1.1 h
    · exact hb.1.2 h
    · rcases hb.2 with k | k
      · exact k h
      · exact k h')
theorem numT_ok {w : Str} (h : (((atoi w).2 = false ∧ ¬ (atoi w).1 < 0) ∧ ¬ 1073741824 < (atoi w).1) ∧ wordT (atoi w).1 = w) : numT w = ((atoi w).1, true) := by
  unfold numT
  rw [if_neg]
  rintro (h' | h' | h' | h')
  · rw [h.1.1.1] at h'; cases h'
  · exact h.1.1.2 h'
  · exact h.1.2 h'
  · exact h' h.2
theorem numT_no {w : Str} (h : (((atoi w).2 = true ∨ (atoi w).1 < 0) ∨ 1073741824 < (atoi w).1) ∨ ¬ wordT (atoi w).1 = w) : numT w = (0, false) := by
  unfold numT
  rw [if_pos]
  rcases h with ((h | h) | h) | h
  · exact .inl h
  · exact .inr (.inl h)
  · exact .inr (.inr (.inl h))
  · exact .inr (.inr (.inr h))
/-! the parts of a line -/
def rest1 (l : List Str) : List Str := (l.take ((l.length : Int)).toNat).drop (1 : Int).toNat
theorem rest1_eq (l : List Str) : rest1 l = l.drop 1 := by simp [rest1]
/-- as many numbers as there are -/
def takeNums : List Str → List Int × List Str
  | [] => ([], [])
  | w :: ws => if (numT w).2 = true then ((numT w).1 :: (takeNums ws).1, (takeNums ws).2) else ([], w :: ws)
def partRun : Part → Cmd → List Str → Cmd × List Str × Bool
  | .nil, c, _ => (c, [], false)
  | .way, c, l => if l = [] then (c, [], false) else (c.s_dir (dirOf (nth l 0)).1, rest1 l, (dirOf (nth l 0)).2)
  | .num f, c, l => if l = [] then (c, [], false) else (f.setC c (numT (nth l 0)).1, rest1 l, (numT (nth l 0)).2)
  | .word w, c, l => if l = [] ∨ nth l 0 ≠ w then (c, [], false) else (c, rest1 l, true)
  | .row f, c, l => (f.setC c (f.getC c ++ (takeNums l).1), (takeNums l).2, true)
theorem len0 {α : Type} {l : List α} (h : (l.length : Int) = 0) : l = [] := List.eq_nil_of_length_eq_zero (by omega)
theorem len0' {α : Type} {l : List α} (h : ¬ (l.length : Int) = 0) : l ≠ [] := fun e => h (by rw [e]; rfl)
theorem run_way_nil {c : Cmd} {l : List Str} (h : (l.length : Int) = 0) : partRun .way c l = (c, [], false) := by simp [partRun, len0 h]
theorem run_way {c : Cmd} {l : List Str} (h : ¬ (l.length : Int) = 0) : partRun .way c l = (c.s_dir (dirOf (nth l 0)).1, rest1 l, (dirOf (nth l 0)).2) := by simp [partRun, len0' h]
theorem run_num_nil {f : IntF} {c : Cmd} {l : List Str} (h : (l.length : Int) = 0) : partRun (.num f) c l = (c, [], false) := by simp [partRun, len0 h]
theorem run_num {f : IntF} {c : Cmd} {l : List Str} (h : ¬ (l.length : Int) = 0) : partRun (.num f) c l = (f.setC c (numT (nth l 0)).1, rest1 l, (numT (nth l 0)).2) := by simp [partRun, len0' h]
theorem run_word_no {w : Str} {c : Cmd} {l : List Str} (h : (l.length : Int) = 0 ∨ ¬ nth l 0 = w) : partRun (.word w) c l = (c, [], false) := by
  rcases h with h | h
  · simp [partRun, len0 h]
  · simp [partRun, h]
theorem run_word {w : Str} {c : Cmd} {l : List Str} (h : ¬ (l.length : Int) = 0 ∧ nth l 0 = w) : partRun (.word w) c l = (c, rest1 l, true) := by simp [partRun, len0' h.1, h.2]
def formsL : List (Int × List Part) := [(1, [.way]), (2, [.num .who, .way]), (3, [.num .item]), (4, [.num .item]), (5, [.num .item, .word [105, 110], .num .box]), (6, [.num .item, .word [102, 114, 111, 109], .num .box]), (7, [.num .item, .word [116, 111], .num .who]),
  (8, [.num .who, .word [103, 105, 118, 101], .row .gives, .word [99, 111, 105, 110, 115], .num .pay, .word [102, 111, 114], .row .wants, .word [99, 111, 105, 110, 115], .num .fee]), (9, []), (10, [])]
/-- between two rounds of a row's reading -/
structure NumsInv (l ws : List Str) (acc : List Int) : Prop where
  eq : takeNums l = (acc ++ (takeNums ws).1, (takeNums ws).2)
  len : acc.length + ws.length ≤ l.length
  sub : ∀ x, x ∈ ws → x ∈ l
theorem NumsInv.zero (l : List Str) : NumsInv l l [] := ⟨by simp, by simp, fun _ h => h⟩
theorem takeNums_hit {ws : List Str} (h : (ws.length : Int) > 0) (hn : (numT (nth ws 0)).2 = true) : takeNums ws = ((numT (nth ws 0)).1 :: (takeNums (rest1 ws)).1, (takeNums (rest1 ws)).2) := by
  cases ws with
  | nil => simp at h
  | cons w ws =>
    have e : nth (w :: ws) 0 = w := rfl
    rw [e] at hn ⊢
    rw [rest1_eq]
    simp [takeNums, hn]
theorem takeNums_miss {ws : List Str} (hn : ¬ (numT (nth ws 0)).2 = true) : takeNums ws = ([], ws) := by
  cases ws with
  | nil => rfl
  | cons w ws =>
    have e : nth (w :: ws) 0 = w := rfl
    rw [e] at hn
    simp [takeNums, hn]
theorem NumsInv.step {l ws : List Str} {acc : List Int} (h : NumsInv l ws acc) (h1 : (ws.length : Int) > 0) (hn : (numT (nth ws 0)).2 = true) : NumsInv l (rest1 ws) (acc ++ [(numT (nth ws 0)).1]) := by
  have hl := h.len
  refine ⟨by rw [h.eq, takeNums_hit h1 hn]; simp, ?_, fun x hx => h.sub x ?_⟩
  · rw [rest1_eq]; simp; omega
  · rw [rest1_eq] at hx; exact List.mem_of_mem_drop hx
theorem NumsInv.stop {l ws : List Str} {acc : List Int} (h : NumsInv l ws acc) (hn : ¬ (numT (nth ws 0)).2 = true ∨ ¬ (ws.length : Int) > 0) : takeNums l = (acc, ws) := by
  have : takeNums ws = ([], ws) := by
    rcases hn with hn | hn
    · exact takeNums_miss hn
    · have : ws = [] := List.eq_nil_of_length_eq_zero (by omega)
      subst this; rfl
  rw [h.eq, this]; simp
theorem run_row {f : RowF} {c : Cmd} {l ws : List Str} {acc : List Int} (h : NumsInv l ws acc) (hn : ¬ (numT (nth ws 0)).2 = true ∨ ¬ (ws.length : Int) > 0) : partRun (.row f) c l = (f.setC c (f.getC c ++ acc), ws, true) := by
  show (f.setC c (f.getC c ++ (takeNums l).1), (takeNums l).2, true) = _
  rw [h.stop hn]
theorem any_not {α : Type} (p : α → Bool) : ∀ l : List α, (!l.any fun n => !p n) = l.all p
  | [] => rfl
  | x :: l => by simp only [List.any_cons, List.all_cons, Bool.not_or, Bool.not_not, any_not p l]
theorem same_cmd (a b : Cmd) : (decide (CPl a = CPl b) && decide (a.gives = b.gives) && decide (a.wants = b.wants)) = decide (a = b) := by
  obtain ⟨⟩ := a
  obtain ⟨⟩ := b
  rw [Bool.eq_iff_iff]
  simp [CPl, Cmd.mk.injEq]
  constructor <;> (intro h; simp_all)
/-- one part behind another, while all went well -/
def partsRun : List Part → Cmd → List Str → Bool → Cmd × List Str × Bool
  | [], c, ws, ok => (c, ws, ok)
  | p :: ps, c, ws, ok => if ok = true then partsRun ps (partRun p c ws).1 (partRun p c ws).2.1 (partRun p c ws).2.2 else partsRun ps c ws ok
/-- line.Get -/
def getC (s : Str) : Cmd × Int :=
  if words s = [] then ({}, 2) else
    if (partsRun ((mget formsL (kindOf (nth (words s) 0)).1).getD []) { kind := (kindOf (nth (words s) 0)).1 } (rest1 (words s)) (kindOf (nth (words s) 0)).2).2.2 = true ∧ (partsRun ((mget formsL (kindOf (nth (words s) 0)).1).getD []) { kind := (kindOf (nth (words s) 0)).1 } (rest1 (words s)) (kindOf (nth (words s) 0)).2).2.1 = [] ∧
      mayC (partsRun ((mget formsL (kindOf (nth (words s) 0)).1).getD []) { kind := (kindOf (nth (words s) 0)).1 } (rest1 (words s)) (kindOf (nth (words s) 0)).2).1 = true
    then ((partsRun ((mget formsL (kindOf (nth (words s) 0)).1).getD []) { kind := (kindOf (nth (words s) 0)).1 } (rest1 (words s)) (kindOf (nth (words s) 0)).2).1, 0) else ({}, 2)
theorem takeNums_len : ∀ ws : List Str, (takeNums ws).1.length + (takeNums ws).2.length = ws.length
  | [] => rfl
  | w :: ws => by
    have := takeNums_len ws
    unfold takeNums
    split <;> simp <;> omega
theorem takeNums_sub : ∀ (ws : List Str) (x : Str), x ∈ (takeNums ws).2 → x ∈ ws
  | [], x, h => by simp [takeNums] at h
  | w :: ws, x, h => by
    unfold takeNums at h
    split at h
    · exact List.mem_cons_of_mem _ (takeNums_sub ws x h)
    · exact h
/-- what a part leaves: fewer words, of those that were; rows that grow by no more than words went -/
theorem partRun_less (p : Part) (c : Cmd) (ws : List Str) : (∀ x, x ∈ (partRun p c ws).2.1 → x ∈ ws) ∧ (partRun p c ws).1.gives.length + (partRun p c ws).2.1.length ≤ c.gives.length + ws.length ∧ (partRun p c ws).1.wants.length + (partRun p c ws).2.1.length ≤ c.wants.length + ws.length := by
  have hr : (∀ x, x ∈ rest1 ws → x ∈ ws) ∧ (rest1 ws).length ≤ ws.length := by
    rw [rest1_eq]
    exact ⟨fun x hx => List.mem_of_mem_drop hx, by simp⟩
  have h1 := takeNums_len ws
  have h2 := takeNums_sub ws
  cases p with
  | nil => simp [partRun]
  | way =>
    simp only [partRun]
    split
    · simp
    · exact ⟨hr.1, by show c.gives.length + (rest1 ws).length ≤ _; omega, by show c.wants.length + (rest1 ws).length ≤ _; omega⟩
  | num f =>
    simp only [partRun]
    split
    · simp
    · cases f <;> exact ⟨hr.1, by show c.gives.length + (rest1 ws).length ≤ _; omega, by show c.wants.length + (rest1 ws).length ≤ _; omega⟩
  | word w =>
    simp only [partRun]
    split
    · simp
    · exact ⟨hr.1, by show c.gives.length + (rest1 ws).length ≤ _; omega, by show c.wants.length + (rest1 ws).length ≤ _; omega⟩
  | row f =>
    cases f
    · refine ⟨h2, ?_, ?_⟩
      · show (c.gives ++ (takeNums ws).1).length + (takeNums ws).2.length ≤ _
        rw [List.length_append]; omega
      · show c.wants.length + (takeNums ws).2.length ≤ _
        omega
    · refine ⟨h2, ?_, ?_⟩
      · show c.gives.length + (takeNums ws).2.length ≤ _
        omega
      · show (c.wants ++ (takeNums ws).1).length + (takeNums ws).2.length ≤ _
        rw [List.length_append]; omega
/-- between two rounds of line.Get's loop -/
structure GetInv (ps : List Part) (c0 : Cmd) (ws0 : List Str) (ok0 : Bool) (i : Nat) (c : Cmd) (ws : List Str) (ok : Bool) : Prop where
  le : i ≤ ps.length
  eq : partsRun ps c0 ws0 ok0 = partsRun (ps.drop i) c ws ok
  sub : ∀ x, x ∈ ws → x ∈ ws0
  gives : c.gives.length + ws.length ≤ c0.gives.length + ws0.length
  wants : c.wants.length + ws.length ≤ c0.wants.length + ws0.length
theorem GetInv.zero (ps : List Part) (c0 : Cmd) (ws0 : List Str) (ok0 : Bool) : GetInv ps c0 ws0 ok0 0 c0 ws0 ok0 := ⟨Nat.zero_le _, rfl, fun _ h => h, Nat.le_refl _, Nat.le_refl _⟩
theorem GetInv.run {ps : List Part} {c0 c : Cmd} {ws0 ws : List Str} {ok0 ok : Bool} {i : Nat} (h : GetInv ps c0 ws0 ok0 i c ws ok) (hi : (i : Int) < ps.length) (hok : ok = true) :
    GetInv ps c0 ws0 ok0 (i + 1) (partRun (nth ps (i : Int)) c ws).1 (partRun (nth ps (i : Int)) c ws).2.1 (partRun (nth ps (i : Int)) c ws).2.2 := by
  obtain ⟨a1, a2, a3⟩ := partRun_less (nth ps (i : Int)) c ws
  have g := h.gives
  have w := h.wants
  refine ⟨by omega, ?_, fun x hx => h.sub x (a1 x hx), by omega, by omega⟩
  rw [h.eq, drop_nth hi, partsRun, if_pos hok]
theorem GetInv.pass {ps : List Part} {c0 c : Cmd} {ws0 ws : List Str} {ok0 ok : Bool} {i : Nat} (h : GetInv ps c0 ws0 ok0 i c ws ok) (hi : (i : Int) < ps.length) (hok : ok = false) : GetInv ps c0 ws0 ok0 (i + 1) c ws ok := by
  refine ⟨by omega, ?_, h.sub, h.gives, h.wants⟩
  rw [h.eq, drop_nth hi, partsRun, if_neg (by simp [hok])]
theorem GetInv.done {ps : List Part} {c0 c : Cmd} {ws0 ws : List Str} {ok0 ok : Bool} {i : Nat} (h : GetInv ps c0 ws0 ok0 i c ws ok) (hi : ¬ (i : Int) < ps.length) : partsRun ps c0 ws0 ok0 = (c, ws, ok) := by
  have := h.le
  rw [h.eq, List.drop_of_length_le (by omega), partsRun]
theorem forms_no_nil (k : Int) : ∀ p, p ∈ (mget formsL k).getD [] → p ≠ Part.nil := by
  have : ∀ q, q ∈ formsL → ∀ p, p ∈ q.2 → p ≠ Part.nil := by
    intro q hq p hp
    simp only [formsL, List.mem_cons, List.not_mem_nil, or_false] at hq
    rcases hq with rfl | rfl | rfl | rfl | rfl | rfl | rfl | rfl | rfl | rfl <;> simp at hp <;> (try (rcases hp with rfl | rfl | rfl | rfl | rfl | rfl | rfl | rfl | rfl <;> simp)) <;> (try (rcases hp with rfl | rfl | rfl <;> simp)) <;> (try (rcases hp with rfl | rfl <;> simp)) <;> (try (subst hp; simp))
  have get : ∀ (l : List (Int × List Part)), (∀ q, q ∈ l → ∀ p, p ∈ q.2 → p ≠ Part.nil) → ∀ p, p ∈ (mget l k).getD [] → p ≠ Part.nil := by
    intro l
    induction l with
    | nil => intro _ p hp; simp [mget] at hp
    | cons q l ih =>
      obtain ⟨j, x⟩ := q
      intro h p hp
      unfold mget at hp
      split at hp
      · exact h (j, x) (by simp) p hp
      · exact ih (fun q hq => h q (by simp [hq])) p hp
  exact get formsL this
theorem rest1_sub {l : List Str} {x : Str} (h : x ∈ rest1 l) : x ∈ l := by rw [rest1_eq] at h; exact List.mem_of_mem_drop h
theorem rest1_len (l : List Str) : (rest1 l).length ≤ l.length := by rw [rest1_eq]; simp
end Go.Inn
