/- Layer 4: the program's reading of a line and the document's are one. Plain Lean, no program in it. -/
import Derived.Test.YtgnblhmejecgfaaGreatDoorV12
import Derived.Lib.AtoiTie
set_option linter.all false
namespace Go.Proofs.YtgnblhmejecgfaaGreatDoor
open Go Go.RowKit Go.Inn
def fit (n : Int) : Prop := 0 ≤ n ∧ n ≤ 1073741824
theorem fitB_iff (n : Int) : fitB n = true ↔ fit n := by simp [fitB, fit]
/-! a number's word -/
theorem wordR_ne (n : Int) : wordR n ≠ [] := by
  rw [wordR]; split <;> simp
theorem u8_digit {d : Int} (h : 0 ≤ d ∧ d < 10) : (u8 (48 + d)).toNat = (48 + d).toNat := by
  have := u8_toNat (48 + d)
  omega
theorem wordR_ind {p : Int → Prop} (h1 : ∀ n, 0 ≤ n → n < 10 → p n) (h2 : ∀ n, 10 ≤ n → p (n / 10) → p n) : ∀ n : Int, 0 ≤ n → p n := by
  have key : ∀ (k : Nat) (n : Int), n.toNat ≤ k → 0 ≤ n → p n := by
    intro k
    induction k with
    | zero => intro n h h0; exact h1 n h0 (by omega)
    | succ k ih =>
      intro n h h0
      by_cases hn : n < 10
      · exact h1 n h0 hn
      · exact h2 n (by omega) (ih (n / 10) (by omega) (by omega))
  exact fun n h => key n.toNat n (Nat.le_refl _) h
theorem wordR_step {n : Int} (h : 10 ≤ n) : wordR n = wordR (n / 10) ++ [u8 (48 + n % 10)] := by
  rw [wordR_big (by omega), Int.tdiv_eq_ediv_of_nonneg (by omega), Int.tmod_eq_emod_of_nonneg (by omega)]
theorem wordR_digits : ∀ n : Int, 0 ≤ n → ∀ x, x ∈ wordR n → 48 ≤ x.toNat ∧ x.toNat ≤ 57 :=
  wordR_ind (fun n h0 h1 x hx => by
    rw [wordR_small h1] at hx
    simp at hx
    have := u8_digit (d := n) ⟨h0, h1⟩
    subst hx; omega) (fun n h ih x hx => by
    rw [wordR_step h] at hx
    rcases List.mem_append.1 hx with hx | hx
    · exact ih x hx
    · simp at hx
      have := u8_digit (d := n % 10) (by omega)
      subst hx; omega)
theorem numLoop_word : ∀ n : Int, 0 ≤ n → ∀ r, (0 < n ∨ r = []) → numLoop (wordR n ++ r) true 0 = numLoop r false n :=
  wordR_ind (fun n h0 h1 r hr => by
    rw [wordR_small h1, List.singleton_append, numLoop]
    have e := u8_digit (d := n) ⟨h0, h1⟩
    rw [if_neg]
    · congr 1; omega
    · rw [u8_lt, u8_lt]
      have e48 : (48 : UInt8).toNat = 48 := rfl
      have e57 : (57 : UInt8).toNat = 57 := rfl
      rw [e48, e57]
      rintro (h | h | h)
      · omega
      · omega
      · exact absurd h.1 (by simp)) (fun n h ih r hr => by
    rw [wordR_step h, List.append_assoc, ih _ (.inl (by omega)), List.singleton_append, numLoop]
    have e := u8_digit (d := n % 10) (by omega)
    rw [if_neg]
    · congr 1; omega
    · rw [u8_lt, u8_lt]
      have e48 : (48 : UInt8).toNat = 48 := rfl
      have e57 : (57 : UInt8).toNat = 57 := rfl
      rw [e48, e57]
      rintro (h | h | h)
      · omega
      · omega
      · omega)
theorem numR_word {n : Int} (h : fit n) : numR (wordR n) = (n, true) := by
  unfold numR
  have hl := wordR_len 9 n (by have := h.2; show n < (10 : Int) ^ 10; have e : (10 : Int) ^ 10 = 10000000000 := by decide
                               omega)
  have e := numLoop_word n h.1 [] (.inr rfl)
  rw [List.append_nil] at e
  rw [if_neg (by rintro (h | h); · exact wordR_ne _ h
                 · omega), e]
  have := h.2
  simp [numLoop]; omega
theorem decFrom_append : ∀ (a b : List UInt8) (acc : Nat), Lib.decFrom acc (a ++ b) = (Lib.decFrom acc a).bind fun m => Lib.decFrom m b
  | [], b, acc => rfl
  | c :: a, b, acc => by
    simp only [List.cons_append, Lib.decFrom]
    cases Lib.digitVal c with
    | none => rfl
    | some d => exact decFrom_append a b _
theorem dec_word : ∀ n : Int, 0 ≤ n → Lib.decFrom 0 (wordR n) = some n.toNat :=
  wordR_ind (fun n h0 h1 => by
    rw [wordR_small h1]
    have e := u8_digit (d := n) ⟨h0, h1⟩
    simp only [Lib.decFrom, Lib.digitVal]
    rw [if_pos (by omega)]
    simp; omega) (fun n h ih => by
    rw [wordR_step h, decFrom_append, ih]
    have e := u8_digit (d := n % 10) (by omega)
    simp only [Option.bind_some, Lib.decFrom, Lib.digitVal]
    rw [if_pos (by omega)]
    simp; omega)
theorem atoi_word {n : Int} (h : fit n) : atoi (wordR n) = (n, false) := by
  unfold atoi
  have hl := wordR_len 9 n (by have := h.2; show n < (10 : Int) ^ 10; have e : (10 : Int) ^ 10 = 10000000000 := by decide
                               omega)
  rw [Lib.atoiAll_short _ (by omega)]
  have key : Lib.atoi (wordR n) = some n := by
    cases e : wordR n with
    | nil => exact absurd e (wordR_ne n)
    | cons b r =>
      have hd := wordR_digits n h.1 b (by rw [e]; simp)
      have hb1 : (b == 45) = false := by
        cases q : b == 45 with
        | false => rfl
        | true => rw [beq_iff_eq] at q; subst q; exact absurd hd.1 (by decide)
      have hb2 : (b == 43) = false := by
        cases q : b == 43 with
        | false => rfl
        | true => rw [beq_iff_eq] at q; subst q; exact absurd hd.1 (by decide)
      have hdec := dec_word n h.1
      rw [e] at hdec
      simp only [Lib.atoi, hb1, hb2, Lib.decNat, List.isEmpty_cons, hdec]
      have := h.1
      simp; omega
  rw [key]; rfl
theorem wordT_eq {n : Int} (h : 0 ≤ n) : wordT n = wordR n := (wordR_itoa n.toNat n (Nat.le_refl _) h).symm
theorem numT_word {n : Int} (h : fit n) : numT (wordR n) = (n, true) := by
  unfold numT
  rw [atoi_word h, if_neg]
  have := h.1
  have := h.2
  rintro (h' | h' | h' | h')
  · cases h'
  · dsimp only at h'; omega
  · dsimp only at h'; omega
  · exact h' (wordT_eq h.1)
theorem numT_true {w : Str} (h : (numT w).2 = true) : fit (numT w).1 ∧ w = wordR (numT w).1 := by
  unfold numT at h ⊢
  split at h
  · cases h
  · rename_i q
    rw [if_neg q]
    have h1 : ¬ (atoi w).1 < 0 := fun e => q (.inr (.inl e))
    have h2 : ¬ 1073741824 < (atoi w).1 := fun e => q (.inr (.inr (.inl e)))
    have h3 : wordT (atoi w).1 = w := Classical.byContradiction fun e => q (.inr (.inr (.inr e)))
    refine ⟨⟨by omega, by omega⟩, ?_⟩
    show w = wordR (atoi w).1
    rw [← wordT_eq (by omega), h3]
/-! names -/
theorem dirOf_word {d : Int} (h : 0 ≤ d ∧ d ≤ 3) : dirOf (wayD d) = (d, true) := by
  have e : d = ((d.toNat : Nat) : Int) := by omega
  rw [e]
  exact dir_hit (by omega) rfl
theorem dirOf_true {w : Str} (h : (dirOf w).2 = true) : (0 ≤ (dirOf w).1 ∧ (dirOf w).1 ≤ 3) ∧ w = wayD (dirOf w).1 := by
  by_cases hx : ∃ j : Nat, j ≤ 3 ∧ wayD (j : Int) = w
  · obtain ⟨j, h1, h2⟩ := hx
    rw [dir_hit h1 h2]
    exact ⟨⟨by dsimp only; omega, by dsimp only; omega⟩, h2.symm⟩
  · rw [dir_none fun j h1 h2 => hx ⟨j, h1, h2⟩] at h
    cases h
theorem kindOf_word {k : Int} (h : 1 ≤ k ∧ k ≤ 10) : kindOf (nameK k) = (k, true) := by
  have e : k = ((k.toNat : Nat) : Int) := by omega
  rw [e]
  exact kind_hit (by omega) (by omega) rfl
theorem kindOf_cases (w : Str) : (∃ k : Int, 1 ≤ k ∧ k ≤ 10 ∧ w = nameK k ∧ kindOf w = (k, true)) ∨ kindOf w = (0, false) := by
  by_cases hx : ∃ j : Nat, 1 ≤ j ∧ j ≤ 10 ∧ nameK (j : Int) = w
  · obtain ⟨j, h1, h2, h3⟩ := hx
    exact .inl ⟨j, by omega, by omega, h3.symm, kind_hit h1 h2 h3⟩
  · exact .inr (kind_none fun j h1 h2 h3 => hx ⟨j, h1, h2, h3⟩)
theorem name_ne {k : Int} : nameK k ≠ [] ↔ 1 ≤ k ∧ k ≤ 10 := by
  constructor
  · intro h
    by_cases e : k < 1 ∨ 10 < k
    · exact absurd (name_out e) h
    · omega
  · intro h
    have e : k = 1 ∨ k = 2 ∨ k = 3 ∨ k = 4 ∨ k = 5 ∨ k = 6 ∨ k = 7 ∨ k = 8 ∨ k = 9 ∨ k = 10 := by omega
    rcases e with rfl | rfl | rfl | rfl | rfl | rfl | rfl | rfl | rfl | rfl <;> decide
theorem way_ne {d : Int} : wayD d ≠ [] ↔ 0 ≤ d ∧ d ≤ 3 := by
  constructor
  · intro h
    by_cases e : d < 0 ∨ 4 ≤ d
    · exfalso; apply h
      unfold wayD nameIn
      rw [if_pos (by have e1 : waysL.length = 4 := rfl
                     rw [e1]; omega)]
    · omega
  · intro h
    have e : d = 0 ∨ d = 1 ∨ d = 2 ∨ d = 3 := by omega
    rcases e with rfl | rfl | rfl | rfl <;> decide
theorem may_eq (c : Cmd) : mayC c = mayR c := by
  have b0 : fitB 0 = true := by decide
  have r0 : rowB [] = true := by decide
  rw [Bool.eq_iff_iff]
  by_cases hk : 1 ≤ c.kind ∧ c.kind ≤ 10
  · have hn := name_ne.2 hk
    have hw : ∀ d : Int, wayD d = [] ↔ (d < 0 ∨ 3 < d) := fun d => by
      have := way_ne (d := d)
      constructor
      · intro h
        by_cases e : d < 0 ∨ 3 < d
        · exact e
        · exact absurd h (this.2 (by omega))
      · intro h
        exact Classical.byContradiction fun q => by have := this.1 q; omega
    obtain ⟨k, d, it, bx, wh, gs, py, ws, fe⟩ := c
    dsimp only at hk hn
    have e : k = 1 ∨ k = 2 ∨ k = 3 ∨ k = 4 ∨ k = 5 ∨ k = 6 ∨ k = 7 ∨ k = 8 ∨ k = 9 ∨ k = 10 := by omega
    rcases e with rfl | rfl | rfl | rfl | rfl | rfl | rfl | rfl | rfl | rfl <;>
      simp only [mayC, mayR, bareC, fitH, rowH, Cmd.mk.injEq, Bool.and_eq_true, decide_eq_true_eq, Bool.not_eq_true', decide_eq_false_iff_not, Bool.or_eq_false_iff, Bool.and_eq_false_iff, hw, not_or] <;>
      (constructor <;> (intro h; simp_all <;> omega))
  · constructor
    · intro h; exfalso; apply hk
      unfold mayC at h
      simp only [Bool.and_eq_true, Bool.not_eq_true', decide_eq_false_iff_not] at h
      exact name_ne.1 h.1.1.1.1.1.1.1.1.1
    · intro h; exfalso; apply hk
      unfold mayR at h
      simp only [Bool.and_eq_true, Bool.not_eq_true', decide_eq_false_iff_not, Bool.or_eq_false_iff] at h
      omega
/-! the shapes that a command may have -/
theorem rowB_iff (l : List Int) : rowB l = true ↔ (∀ x, x ∈ l → fit x) ∧ l.length ≤ 16 := by
  simp [rowB, fitB_iff]
theorem may_shape {c : Cmd} (h : mayR c = true) :
    (∃ d, (0 ≤ d ∧ d ≤ 3) ∧ c = { kind := 1, dir := d }) ∨ (∃ w d, fit w ∧ (0 ≤ d ∧ d ≤ 3) ∧ c = { kind := 2, who := w, dir := d }) ∨ (∃ k i, (k = 3 ∨ k = 4) ∧ fit i ∧ c = { kind := k, item := i }) ∨
    (∃ k i b, (k = 5 ∨ k = 6) ∧ fit i ∧ fit b ∧ c = { kind := k, item := i, box := b }) ∨ (∃ i w, fit i ∧ fit w ∧ c = { kind := 7, item := i, who := w }) ∨
    (∃ w g p q f, fit w ∧ ((∀ x, x ∈ g → fit x) ∧ g.length ≤ 16) ∧ fit p ∧ ((∀ x, x ∈ q → fit x) ∧ q.length ≤ 16) ∧ fit f ∧ c = { kind := 8, who := w, gives := g, pay := p, wants := q, fee := f }) ∨ (∃ k, (k = 9 ∨ k = 10) ∧ c = { kind := k }) := by
  rw [← may_eq] at h
  unfold mayC at h
  simp only [Bool.and_eq_true, decide_eq_true_eq, Bool.not_eq_true', decide_eq_false_iff_not, fitB_iff, rowB_iff] at h
  obtain ⟨⟨⟨⟨⟨⟨⟨⟨⟨h1, h2⟩, h3⟩, h4⟩, h5⟩, h6⟩, h7⟩, h8⟩, h9⟩, h10⟩ := h
  have hk := name_ne.1 h1
  have hd := way_ne.1 h3
  have e : c.kind = 1 ∨ c.kind = 2 ∨ (c.kind = 3 ∨ c.kind = 4) ∨ (c.kind = 5 ∨ c.kind = 6) ∨ c.kind = 7 ∨ c.kind = 8 ∨ (c.kind = 9 ∨ c.kind = 10) := by omega
  unfold bareC at h2
  rcases e with e | e | e | e | e | e | e
  · exact .inl ⟨c.dir, hd, by rw [h2]; simp [e]⟩
  · exact .inr (.inl ⟨c.who, c.dir, h6, hd, by rw [h2]; simp [e]⟩)
  · exact .inr (.inr (.inl ⟨c.kind, c.item, e, h4, by rw [h2]; rcases e with e | e <;> simp [e]⟩))
  · exact .inr (.inr (.inr (.inl ⟨c.kind, c.item, c.box, e, h4, h5, by rw [h2]; rcases e with e | e <;> simp [e]⟩)))
  · exact .inr (.inr (.inr (.inr (.inl ⟨c.item, c.who, h4, h6, by rw [h2]; simp [e]⟩))))
  · exact .inr (.inr (.inr (.inr (.inr (.inl ⟨c.who, c.gives, c.pay, c.wants, c.fee, h6, h9, h7, h10, h8, by rw [h2]; simp [e]⟩)))))
  · exact .inr (.inr (.inr (.inr (.inr (.inr ⟨c.kind, e, by rw [h2]; rcases e with e | e <;> simp [e]⟩)))))
/-! parts, read -/
theorem nth_zero (w : Str) (r : List Str) : nth (w :: r) 0 = w := rfl
theorem rest1_cons (w : Str) (r : List Str) : rest1 (w :: r) = r := by rw [rest1_eq]; rfl
theorem run_num_cons (f : IntF) (c : Cmd) (w : Str) (r : List Str) : partRun (.num f) c (w :: r) = (f.setC c (numT w).1, r, (numT w).2) := by rw [run_num (by simp; omega), rest1_cons, nth_zero]
theorem run_way_cons (c : Cmd) (w : Str) (r : List Str) : partRun .way c (w :: r) = (c.s_dir (dirOf w).1, r, (dirOf w).2) := by rw [run_way (by simp; omega), rest1_cons, nth_zero]
theorem run_word_cons (c : Cmd) (w x : Str) (r : List Str) : partRun (.word w) c (x :: r) = if x = w then (c, r, true) else (c, [], false) := by
  by_cases e : x = w
  · have h := run_word (w := w) (c := c) (l := x :: r) ⟨by simp; omega, e⟩
    rw [if_pos e, h, rest1_cons]
  · have h := run_word_no (w := w) (c := c) (l := x :: r) (.inr e)
    rw [if_neg e, h]
theorem num_ok {f : IntF} {c c' : Cmd} {ws r : List Str} (h : partRun (.num f) c ws = (c', r, true)) : ∃ n, fit n ∧ ws = wordR n :: r ∧ c' = f.setC c n := by
  cases ws with
  | nil => simp [partRun] at h
  | cons w q =>
    rw [run_num_cons] at h
    simp only [Prod.mk.injEq] at h
    obtain ⟨h1, h2⟩ := numT_true h.2.2
    exact ⟨_, h1, by rw [← h2, h.2.1], h.1.symm⟩
theorem way_ok {c c' : Cmd} {ws r : List Str} (h : partRun .way c ws = (c', r, true)) : ∃ d, (0 ≤ d ∧ d ≤ 3) ∧ ws = wayD d :: r ∧ c' = c.s_dir d := by
  cases ws with
  | nil => simp [partRun] at h
  | cons w q =>
    rw [run_way_cons] at h
    simp only [Prod.mk.injEq] at h
    obtain ⟨h1, h2⟩ := dirOf_true h.2.2
    exact ⟨_, h1, by rw [← h2, h.2.1], h.1.symm⟩
theorem word_ok {w : Str} {c c' : Cmd} {ws r : List Str} (h : partRun (.word w) c ws = (c', r, true)) : ws = w :: r ∧ c' = c := by
  cases ws with
  | nil => simp [partRun] at h
  | cons x q =>
    rw [run_word_cons] at h
    split at h
    · rename_i e
      simp only [Prod.mk.injEq] at h
      exact ⟨by rw [e, h.2.1], h.1.symm⟩
    · simp at h
theorem takeNums_ok : ∀ ws : List Str, (∀ x, x ∈ (takeNums ws).1 → fit x) ∧ ws = (takeNums ws).1.map wordR ++ (takeNums ws).2
  | [] => ⟨fun x hx => by simp [takeNums] at hx, rfl⟩
  | w :: ws => by
    obtain ⟨h1, h2⟩ := takeNums_ok ws
    by_cases e : (numT w).2 = true
    · obtain ⟨h3, h4⟩ := numT_true e
      have q : takeNums (w :: ws) = ((numT w).1 :: (takeNums ws).1, (takeNums ws).2) := by simp [takeNums, e]
      rw [q]
      refine ⟨fun x hx => ?_, ?_⟩
      · rcases List.mem_cons.1 hx with rfl | hx
        · exact h3
        · exact h1 x hx
      · rw [List.map_cons, ← h4, List.cons_append, ← h2]
    · have q : takeNums (w :: ws) = ([], w :: ws) := by simp [takeNums, e]
      rw [q]
      exact ⟨fun x hx => by simp at hx, rfl⟩
theorem row_ok {f : RowF} {c c' : Cmd} {ws r : List Str} (h : partRun (.row f) c ws = (c', r, true)) : ∃ l, (∀ x, x ∈ l → fit x) ∧ ws = l.map wordR ++ r ∧ c' = f.setC c (f.getC c ++ l) := by
  have h : (f.setC c (f.getC c ++ (takeNums ws).1), (takeNums ws).2, true) = (c', r, true) := h
  simp only [Prod.mk.injEq, and_true] at h
  obtain ⟨h1, h2⟩ := takeNums_ok ws
  exact ⟨_, h1, by rw [← h.2]; exact h2, h.1.symm⟩
theorem runs_false (ps : List Part) (c : Cmd) (ws : List Str) : partsRun ps c ws false = (c, ws, false) := by
  induction ps with
  | nil => rfl
  | cons p ps ih => rw [partsRun, if_neg (by simp), ih]
theorem runs_cons {p : Part} {ps : List Part} {c c' : Cmd} {ws r : List Str} (h : partsRun (p :: ps) c ws true = (c', r, true)) : ∃ c1 w1, partRun p c ws = (c1, w1, true) ∧ partsRun ps c1 w1 true = (c', r, true) := by
  rw [partsRun, if_pos rfl] at h
  cases e : (partRun p c ws).2.2 with
  | false => rw [e, runs_false] at h; simp at h
  | true => rw [e] at h; exact ⟨_, _, by rw [← e], h⟩
theorem runs_nil {c c' : Cmd} {ws r : List Str} (h : partsRun [] c ws true = (c', r, true)) : c = c' ∧ ws = r := by
  simp only [partsRun, Prod.mk.injEq, and_true] at h
  exact h
/-- what is read has those words -/
theorem parse_ok {k : Int} (hk : 1 ≤ k ∧ k ≤ 10) {q : List Str} {c : Cmd} (h : partsRun ((mget formsL k).getD []) { kind := k } q true = (c, [], true)) : wordsR c = nameK k :: q := by
  have e : k = 1 ∨ k = 2 ∨ k = 3 ∨ k = 4 ∨ k = 5 ∨ k = 6 ∨ k = 7 ∨ k = 8 ∨ k = 9 ∨ k = 10 := by omega
  rcases e with rfl | rfl | rfl | rfl | rfl | rfl | rfl | rfl | rfl | rfl
  · have h : partsRun [.way] { kind := 1 } q true = (c, [], true) := h
    obtain ⟨c1, w1, h1, h⟩ := runs_cons h
    obtain ⟨rfl, rfl⟩ := runs_nil h
    obtain ⟨d, _, rfl, rfl⟩ := way_ok h1
    rfl
  · have h : partsRun [.num .who, .way] { kind := 2 } q true = (c, [], true) := h
    obtain ⟨c1, w1, h1, h⟩ := runs_cons h
    obtain ⟨c2, w2, h2, h⟩ := runs_cons h
    obtain ⟨rfl, rfl⟩ := runs_nil h
    obtain ⟨n, _, rfl, rfl⟩ := num_ok h1
    obtain ⟨d, _, rfl, rfl⟩ := way_ok h2
    rfl
  · have h : partsRun [.num .item] { kind := 3 } q true = (c, [], true) := h
    obtain ⟨c1, w1, h1, h⟩ := runs_cons h
    obtain ⟨rfl, rfl⟩ := runs_nil h
    obtain ⟨n, _, rfl, rfl⟩ := num_ok h1
    rfl
  · have h : partsRun [.num .item] { kind := 4 } q true = (c, [], true) := h
    obtain ⟨c1, w1, h1, h⟩ := runs_cons h
    obtain ⟨rfl, rfl⟩ := runs_nil h
    obtain ⟨n, _, rfl, rfl⟩ := num_ok h1
    rfl
  · have h : partsRun [.num .item, .word [105, 110], .num .box] { kind := 5 } q true = (c, [], true) := h
    obtain ⟨c1, w1, h1, h⟩ := runs_cons h
    obtain ⟨c2, w2, h2, h⟩ := runs_cons h
    obtain ⟨c3, w3, h3, h⟩ := runs_cons h
    obtain ⟨rfl, rfl⟩ := runs_nil h
    obtain ⟨n, _, rfl, rfl⟩ := num_ok h1
    obtain ⟨rfl, rfl⟩ := word_ok h2
    obtain ⟨m, _, rfl, rfl⟩ := num_ok h3
    rfl
  · have h : partsRun [.num .item, .word [102, 114, 111, 109], .num .box] { kind := 6 } q true = (c, [], true) := h
    obtain ⟨c1, w1, h1, h⟩ := runs_cons h
    obtain ⟨c2, w2, h2, h⟩ := runs_cons h
    obtain ⟨c3, w3, h3, h⟩ := runs_cons h
    obtain ⟨rfl, rfl⟩ := runs_nil h
    obtain ⟨n, _, rfl, rfl⟩ := num_ok h1
    obtain ⟨rfl, rfl⟩ := word_ok h2
    obtain ⟨m, _, rfl, rfl⟩ := num_ok h3
    rfl
  · have h : partsRun [.num .item, .word [116, 111], .num .who] { kind := 7 } q true = (c, [], true) := h
    obtain ⟨c1, w1, h1, h⟩ := runs_cons h
    obtain ⟨c2, w2, h2, h⟩ := runs_cons h
    obtain ⟨c3, w3, h3, h⟩ := runs_cons h
    obtain ⟨rfl, rfl⟩ := runs_nil h
    obtain ⟨n, _, rfl, rfl⟩ := num_ok h1
    obtain ⟨rfl, rfl⟩ := word_ok h2
    obtain ⟨m, _, rfl, rfl⟩ := num_ok h3
    rfl
  · have h : partsRun [.num .who, .word [103, 105, 118, 101], .row .gives, .word [99, 111, 105, 110, 115], .num .pay, .word [102, 111, 114], .row .wants, .word [99, 111, 105, 110, 115], .num .fee] { kind := 8 } q true = (c, [], true) := h
    obtain ⟨c1, w1, h1, h⟩ := runs_cons h
    obtain ⟨c2, w2, h2, h⟩ := runs_cons h
    obtain ⟨c3, w3, h3, h⟩ := runs_cons h
    obtain ⟨c4, w4, h4, h⟩ := runs_cons h
    obtain ⟨c5, w5, h5, h⟩ := runs_cons h
    obtain ⟨c6, w6, h6, h⟩ := runs_cons h
    obtain ⟨c7, w7, h7, h⟩ := runs_cons h
    obtain ⟨c8, w8, h8, h⟩ := runs_cons h
    obtain ⟨c9, w9, h9, h⟩ := runs_cons h
    obtain ⟨rfl, rfl⟩ := runs_nil h
    obtain ⟨n, _, rfl, rfl⟩ := num_ok h1
    obtain ⟨rfl, rfl⟩ := word_ok h2
    obtain ⟨g, _, rfl, rfl⟩ := row_ok h3
    obtain ⟨rfl, rfl⟩ := word_ok h4
    obtain ⟨p, _, rfl, rfl⟩ := num_ok h5
    obtain ⟨rfl, rfl⟩ := word_ok h6
    obtain ⟨w, _, rfl, rfl⟩ := row_ok h7
    obtain ⟨rfl, rfl⟩ := word_ok h8
    obtain ⟨m, _, rfl, rfl⟩ := num_ok h9
    simp [wordsR, IntF.setC, RowF.setC, RowF.getC, Cmd.s_who, Cmd.s_gives, Cmd.s_pay, Cmd.s_wants, Cmd.s_fee]
  · have h : partsRun [] { kind := 9 } q true = (c, [], true) := h
    obtain ⟨rfl, rfl⟩ := runs_nil h
    rfl
  · have h : partsRun [] { kind := 10 } q true = (c, [], true) := h
    obtain ⟨rfl, rfl⟩ := runs_nil h
    rfl
theorem takeNums_map {l : List Int} (h : ∀ x, x ∈ l → fit x) (r : List Str) : takeNums (l.map wordR ++ r) = (l ++ (takeNums r).1, (takeNums r).2) := by
  induction l with
  | nil => simp
  | cons n l ih =>
    have e := numT_word (h n (by simp))
    have q := ih fun x hx => h x (by simp [hx])
    simp [takeNums, e, q]
theorem coins_no (r : List Str) : takeNums (coins :: r) = ([], coins :: r) := by
  have e : (numT coins).2 = false := by decide +kernel
  simp [takeNums, e]
/-- a command is read of its words -/
theorem parse_back {c : Cmd} (hm : mayR c = true) : partsRun ((mget formsL c.kind).getD []) { kind := c.kind } ((wordsR c).drop 1) true = (c, [], true) := by
  rcases may_shape hm with ⟨d, hd, rfl⟩ | ⟨w, d, hw, hd, rfl⟩ | ⟨k, i, hk, hi, rfl⟩ | ⟨k, i, b, hk, hi, hb, rfl⟩ | ⟨i, w, hi, hw, rfl⟩ | ⟨w, g, p, q, f, hw, hg, hp, hq, hf, rfl⟩ | ⟨k, hk, rfl⟩
  · show partsRun [.way] { kind := 1 } [wayD d] true = _
    simp [partsRun, run_way_cons, dirOf_word hd, Cmd.s_dir]
  · show partsRun [.num .who, .way] { kind := 2 } [wordR w, wayD d] true = _
    simp [partsRun, run_way_cons, run_num_cons, numT_word hw, dirOf_word hd, Cmd.s_dir, IntF.setC, Cmd.s_who]
  · rcases hk with rfl | rfl
    · show partsRun [.num .item] { kind := 3 } [wordR i] true = _
      simp [partsRun, run_num_cons, numT_word hi, IntF.setC, Cmd.s_item]
    · show partsRun [.num .item] { kind := 4 } [wordR i] true = _
      simp [partsRun, run_num_cons, numT_word hi, IntF.setC, Cmd.s_item]
  · rcases hk with rfl | rfl
    · show partsRun [.num .item, .word [105, 110], .num .box] { kind := 5 } [wordR i, [105, 110], wordR b] true = _
      simp [partsRun, run_num_cons, run_word_cons, numT_word hi, numT_word hb, IntF.setC, Cmd.s_item, Cmd.s_box]
    · show partsRun [.num .item, .word [102, 114, 111, 109], .num .box] { kind := 6 } [wordR i, [102, 114, 111, 109], wordR b] true = _
      simp [partsRun, run_num_cons, run_word_cons, numT_word hi, numT_word hb, IntF.setC, Cmd.s_item, Cmd.s_box]
  · show partsRun [.num .item, .word [116, 111], .num .who] { kind := 7 } [wordR i, [116, 111], wordR w] true = _
    simp [partsRun, run_num_cons, run_word_cons, numT_word hi, numT_word hw, IntF.setC, Cmd.s_item, Cmd.s_who]
  · have e : (wordsR { kind := 8, who := w, gives := g, pay := p, wants := q, fee := f }).drop 1 = wordR w :: [103, 105, 118, 101] :: (g.map wordR ++ (coins :: wordR p :: [102, 111, 114] :: (q.map wordR ++ [coins, wordR f]))) := by simp [wordsR, coins]
    rw [e]
    show partsRun [.num .who, .word [103, 105, 118, 101], .row .gives, .word coins, .num .pay, .word [102, 111, 114], .row .wants, .word coins, .num .fee] { kind := 8 } _ true = _
    have row : ∀ (fl : RowF) (c : Cmd) (l : List Str), partRun (.row fl) c l = (fl.setC c (fl.getC c ++ (takeNums l).1), (takeNums l).2, true) := fun _ _ _ => rfl
    simp [partsRun, run_num_cons, run_word_cons, row, takeNums_map hg.1, takeNums_map hq.1, coins_no, numT_word hw, numT_word hp, numT_word hf, IntF.setC, RowF.setC, RowF.getC, Cmd.s_who, Cmd.s_gives, Cmd.s_pay, Cmd.s_wants, Cmd.s_fee]
  · rcases hk with rfl | rfl <;> rfl
theorem word_not_coins {n : Int} (h : fit n) : wordR n ≠ coins := by
  intro e
  have := wordR_digits n h.1 99 (by rw [e]; simp [coins])
  simp at this
theorem scan_map {l : List Int} (h : ∀ x, x ∈ l → fit x) (r : List Str) : scanR (l.map wordR ++ coins :: r) = (l, l.length) := by
  induction l with
  | nil => simp [scanR]
  | cons n l ih =>
    have e := word_not_coins (h n (by simp))
    have q := ih fun x hx => h x (by simp [hx])
    rw [List.map_cons, List.cons_append, scanR, if_neg e, q, numR_word (h n (by simp))]
    rfl
theorem nth_at {α : Type} [Inhabited α] {l : List α} {i : Nat} {x : α} (h : l[i]? = some x) : nth l (i : Int) = x := by
  unfold nth
  simp [List.getD, h]
theorem atR_at {l : List Str} {i : Nat} {n : Int} (h : l[i]? = some (wordR n)) (hn : fit n) : atR l (i : Int) = n := by
  unfold atR
  have hl : i < l.length := (List.getElem?_eq_some_iff.1 h).1
  rw [if_neg (by omega), nth_at h, numR_word hn]
/-- and filled of its words -/
theorem fill_back {c : Cmd} (hm : mayR c = true) : fillR c.kind (wordsR c) = c := by
  have a1 : ∀ {l : List Str} {n : Int}, l[1]? = some (wordR n) → fit n → atR l 1 = n := fun h hn => atR_at (i := 1) h hn
  have a3 : ∀ {l : List Str} {n : Int}, l[3]? = some (wordR n) → fit n → atR l 3 = n := fun h hn => atR_at (i := 3) h hn
  rcases may_shape hm with ⟨d, hd, rfl⟩ | ⟨w, d, hw, hd, rfl⟩ | ⟨k, i, hk, hi, rfl⟩ | ⟨k, i, b, hk, hi, hb, rfl⟩ | ⟨i, w, hi, hw, rfl⟩ | ⟨w, g, p, q, f, hw, hg, hp, hq, hf, rfl⟩ | ⟨k, hk, rfl⟩
  · show fillR 1 [nameK 1, wayD d] = _
    have e : nth [nameK 1, wayD d] 1 = wayD d := rfl
    simp [fillR, e, dirOf_word hd]
  · show fillR 2 [nameK 2, wordR w, wayD d] = _
    have e : nth [nameK 2, wordR w, wayD d] 2 = wayD d := rfl
    simp [fillR, e, dirOf_word hd, a1 (l := [nameK 2, wordR w, wayD d]) rfl hw]
  · rcases hk with rfl | rfl
    · show fillR 3 [nameK 3, wordR i] = _
      simp [fillR, a1 (l := [nameK 3, wordR i]) rfl hi]
    · show fillR 4 [nameK 4, wordR i] = _
      simp [fillR, a1 (l := [nameK 4, wordR i]) rfl hi]
  · rcases hk with rfl | rfl
    · show fillR 5 [nameK 5, wordR i, [105, 110], wordR b] = _
      simp [fillR, a1 (l := [nameK 5, wordR i, [105, 110], wordR b]) rfl hi, a3 (l := [nameK 5, wordR i, [105, 110], wordR b]) rfl hb]
    · show fillR 6 [nameK 6, wordR i, [102, 114, 111, 109], wordR b] = _
      simp [fillR, a1 (l := [nameK 6, wordR i, [102, 114, 111, 109], wordR b]) rfl hi, a3 (l := [nameK 6, wordR i, [102, 114, 111, 109], wordR b]) rfl hb]
  · show fillR 7 [nameK 7, wordR i, [116, 111], wordR w] = _
    simp [fillR, a1 (l := [nameK 7, wordR i, [116, 111], wordR w]) rfl hi, a3 (l := [nameK 7, wordR i, [116, 111], wordR w]) rfl hw]
  · have e : wordsR { kind := 8, who := w, gives := g, pay := p, wants := q, fee := f } = nameK 8 :: wordR w :: [103, 105, 118, 101] :: (g.map wordR ++ (coins :: wordR p :: [102, 111, 114] :: (q.map wordR ++ [coins, wordR f]))) := by simp [wordsR, coins]
    show fillR 8 _ = _
    rw [e]
    have h3 : scanR ((nameK 8 :: wordR w :: [103, 105, 118, 101] :: (g.map wordR ++ (coins :: wordR p :: [102, 111, 114] :: (q.map wordR ++ [coins, wordR f])))).drop 3) = (g, g.length) := scan_map hg.1 _
    have e6 : (nameK 8 :: wordR w :: [103, 105, 118, 101] :: (g.map wordR ++ (coins :: wordR p :: [102, 111, 114] :: (q.map wordR ++ [coins, wordR f])))).drop (3 + g.length + 3) = q.map wordR ++ [coins, wordR f] := by
      have x : 3 + g.length + 3 = ((g.map wordR).length + 3) + 1 + 1 + 1 := by simp; omega
      rw [x]
      simp only [List.drop_succ_cons]
      rw [List.drop_length_add_append]; rfl
    have h6 : scanR ((nameK 8 :: wordR w :: [103, 105, 118, 101] :: (g.map wordR ++ (coins :: wordR p :: [102, 111, 114] :: (q.map wordR ++ [coins, wordR f])))).drop (3 + g.length + 3)) = (q, q.length) := by rw [e6]; exact scan_map hq.1 _
    have hpay : atR (nameK 8 :: wordR w :: [103, 105, 118, 101] :: (g.map wordR ++ (coins :: wordR p :: [102, 111, 114] :: (q.map wordR ++ [coins, wordR f])))) ((3 + g.length : Nat) + 1) = p := by
      refine atR_at (i := 3 + g.length + 1) ?_ hp
      have x : 3 + g.length + 1 = ((g.map wordR).length + 1) + 1 + 1 + 1 := by simp; omega
      rw [x]
      simp only [List.getElem?_cons_succ]
      rw [List.getElem?_append_right (by omega)]; simp
    have hfee : atR (nameK 8 :: wordR w :: [103, 105, 118, 101] :: (g.map wordR ++ (coins :: wordR p :: [102, 111, 114] :: (q.map wordR ++ [coins, wordR f])))) ((3 + g.length + 3 + q.length : Nat) + 1) = f := by
      refine atR_at (i := 3 + g.length + 3 + q.length + 1) ?_ hf
      rw [show 3 + g.length + 3 + q.length + 1 = (3 + g.length + 3) + (q.length + 1) by omega, ← List.getElem?_drop, e6]
      rw [List.getElem?_append_right (by simp)]; simp
    simp only [fillR, tradeR, h3, h6, hpay, hfee, a1 (l := nameK 8 :: wordR w :: [103, 105, 118, 101] :: (g.map wordR ++ (coins :: wordR p :: [102, 111, 114] :: (q.map wordR ++ [coins, wordR f])))) rfl hw]
    simp
  · rcases hk with rfl | rfl <;> rfl
theorem words_kind {c : Cmd} (hm : mayR c = true) : ∃ q, wordsR c = nameK c.kind :: q := ⟨_, rfl⟩
theorem may_kind1 {c : Cmd} (hm : mayR c = true) : 1 ≤ c.kind ∧ c.kind ≤ 10 := by
  rw [← may_eq] at hm
  unfold mayC at hm
  simp only [Bool.and_eq_true, Bool.not_eq_true', decide_eq_false_iff_not] at hm
  exact name_ne.1 hm.1.1.1.1.1.1.1.1.1
/-- what the words of a line tell, both ways -/
theorem read_eq (ws : List Str) (hne : ws ≠ []) (c : Cmd) : (partsRun ((mget formsL (kindOf (nth ws 0)).1).getD []) { kind := (kindOf (nth ws 0)).1 } (rest1 ws) (kindOf (nth ws 0)).2 = (c, [], true) ∧ mayC c = true) ↔ (mayR c = true ∧ wordsR c = ws) := by
  cases ws with
  | nil => exact absurd rfl hne
  | cons w q =>
    rw [nth_zero, rest1_cons, may_eq]
    constructor
    · rintro ⟨h, hm⟩
      rcases kindOf_cases w with ⟨k, k1, k2, rfl, hk⟩ | hk
      · rw [hk] at h
        exact ⟨hm, parse_ok ⟨k1, k2⟩ h⟩
      · rw [hk, runs_false] at h
        simp at h
    · rintro ⟨hm, e⟩
      have hk := kindOf_word (may_kind1 hm)
      have e0 : nameK c.kind = w ∧ (wordsR c).drop 1 = q := by
        have : nameK c.kind :: (wordsR c).drop 1 = w :: q := e
        simpa using this
      rw [← e0.1, ← e0.2, hk]
      exact ⟨parse_back hm, hm⟩
theorem getC_eq (s : Str) : getC s = getR s := by
  unfold getC getR
  by_cases e : words s = []
  · rw [if_pos e, if_pos e]
  · rw [if_neg e, if_neg e]
    have key := read_eq (words s) e
    generalize hp : partsRun ((mget formsL (kindOf (nth (words s) 0)).1).getD []) { kind := (kindOf (nth (words s) 0)).1 } (rest1 (words s)) (kindOf (nth (words s) 0)).2 = p at key ⊢
    obtain ⟨c, r, ok⟩ := p
    by_cases h : ok = true ∧ r = [] ∧ mayC c = true
    · rw [if_pos h]
      obtain ⟨rfl, rfl, hm⟩ := h
      obtain ⟨a, b⟩ := (key c).1 ⟨rfl, hm⟩
      have f := fill_back a
      have kk : (kindOf (nth (words s) 0)).1 = c.kind := by
        rw [← b]
        show (kindOf (nameK c.kind)).1 = _
        rw [kindOf_word (may_kind1 a)]
      rw [kk, ← b, f, if_pos ⟨a, rfl⟩]
    · rw [if_neg h, if_neg]
      rintro ⟨a, b⟩
      obtain ⟨q1, q2⟩ := (key _).2 ⟨a, b⟩
      simp only [Prod.mk.injEq] at q1
      obtain ⟨rfl, rfl, rfl⟩ := q1
      exact h ⟨rfl, rfl, q2⟩
end Go.Proofs.YtgnblhmejecgfaaGreatDoor
