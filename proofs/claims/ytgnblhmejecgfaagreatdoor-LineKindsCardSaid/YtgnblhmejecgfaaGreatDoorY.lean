/- Layer 4: what lines tell of commands. Plain Lean, no program in it. -/
import Derived.Test.YtgnblhmejecgfaaGreatDoorV15
set_option linter.all false
namespace Go.Proofs.YtgnblhmejecgfaaGreatDoor
open Go Go.RowKit Go.Inn
theorem pieces_gap : ∀ a b : Str, pieces (a ++ 32 :: b) = pieces a ++ pieces b
  | [], b => by simp [pieces]
  | x :: a, b => by
    have ih := pieces_gap a b
    by_cases h : x = 32
    · subst h; simp [pieces, ih]
    · have hp := pieces_pos a
      cases e : pieces a with
      | nil => rw [e] at hp; simp at hp
      | cons p ps => simp [pieces, h, ih, e]
theorem words_gap2 (a b : Str) : words (a ++ 32 :: b) = words a ++ words b := by
  unfold words; rw [pieces_gap, List.filter_append]
def plainW (w : Str) : Prop := w ≠ [] ∧ ∀ x, x ∈ w → x ≠ 32
theorem words_one {w : Str} (h : plainW w) : words w = [w] := by
  have := words_word (r := []) h.1 h.2 (.inl rfl)
  rwa [List.append_nil] at this
theorem words_join {l : List Str} (h : ∀ w, w ∈ l → plainW w) : words (join l) = l := by
  induction l using snoc_ind with
  | h0 => rw [join_nil]; rfl
  | h1 l x ih =>
    have h1 := ih fun w hw => h w (by simp [hw])
    have h2 := words_one (h x (by simp))
    rw [join_snoc]
    split
    · rename_i e; subst e; rw [h2]; rfl
    · rw [List.append_assoc, List.singleton_append, words_gap2, h1, h2]
theorem fit_plain {n : Int} (h : fit n) : plainW (wordR n) := ⟨wordR_ne n, fun x hx e => by
  have := wordR_digits n h.1 x hx
  subst e; simp at this⟩
theorem name_plain {k : Int} (h : 1 ≤ k ∧ k ≤ 10) : plainW (nameK k) := by
  have e : k = 1 ∨ k = 2 ∨ k = 3 ∨ k = 4 ∨ k = 5 ∨ k = 6 ∨ k = 7 ∨ k = 8 ∨ k = 9 ∨ k = 10 := by omega
  unfold plainW
  rcases e with rfl | rfl | rfl | rfl | rfl | rfl | rfl | rfl | rfl | rfl <;> decide
theorem way_plain {d : Int} (h : 0 ≤ d ∧ d ≤ 3) : plainW (wayD d) := by
  have e : d = 0 ∨ d = 1 ∨ d = 2 ∨ d = 3 := by omega
  unfold plainW
  rcases e with rfl | rfl | rfl | rfl <;> decide
theorem wordsR_plain {c : Cmd} (hm : mayR c = true) : ∀ x, x ∈ wordsR c → plainW x := by
  have mp : ∀ {l : List Int} {x : Str}, (∀ n, n ∈ l → fit n) → x ∈ l.map wordR → plainW x := fun h hx => by
    obtain ⟨n, hn, rfl⟩ := List.mem_map.1 hx
    exact fit_plain (h n hn)
  have hk := may_kind1 hm
  have lit : plainW [105, 110] ∧ plainW [102, 114, 111, 109] ∧ plainW [116, 111] ∧ plainW [103, 105, 118, 101] ∧ plainW coins ∧ plainW [102, 111, 114] := by unfold plainW coins; decide
  obtain ⟨t1, t2, t3, t4, t5, t6⟩ := lit
  rcases may_shape hm with ⟨d, hd, rfl⟩ | ⟨w, d, hw, hd, rfl⟩ | ⟨k, i, hk2, hi, rfl⟩ | ⟨k, i, b, hk2, hi, hb, rfl⟩ | ⟨i, w, hi, hw, rfl⟩ | ⟨w, g, p, q, f, hw, hg, hp, hq, hf, rfl⟩ | ⟨k, hk2, rfl⟩
  · intro x hx
    have hx : x ∈ [nameK 1, wayD d] := hx
    simp only [List.mem_cons, List.not_mem_nil, or_false] at hx
    rcases hx with rfl | rfl
    · exact name_plain hk
    · exact way_plain hd
  · intro x hx
    have hx : x ∈ [nameK 2, wordR w, wayD d] := hx
    simp only [List.mem_cons, List.not_mem_nil, or_false] at hx
    rcases hx with rfl | rfl | rfl
    · exact name_plain hk
    · exact fit_plain hw
    · exact way_plain hd
  · intro x hx
    have hx : x ∈ [nameK k, wordR i] := by rcases hk2 with rfl | rfl <;> exact hx
    simp only [List.mem_cons, List.not_mem_nil, or_false] at hx
    rcases hx with rfl | rfl
    · exact name_plain hk
    · exact fit_plain hi
  · intro x hx
    have hx : x = nameK k ∨ x = wordR i ∨ (x = [105, 110] ∨ x = [102, 114, 111, 109]) ∨ x = wordR b := by
      rcases hk2 with rfl | rfl
      · have hx : x ∈ [nameK 5, wordR i, [105, 110], wordR b] := hx
        simp only [List.mem_cons, List.not_mem_nil, or_false] at hx
        rcases hx with h | h | h | h <;> simp [h]
      · have hx : x ∈ [nameK 6, wordR i, [102, 114, 111, 109], wordR b] := hx
        simp only [List.mem_cons, List.not_mem_nil, or_false] at hx
        rcases hx with h | h | h | h <;> simp [h]
    rcases hx with rfl | rfl | (rfl | rfl) | rfl
    · exact name_plain hk
    · exact fit_plain hi
    · exact t1
    · exact t2
    · exact fit_plain hb
  · intro x hx
    have hx : x ∈ [nameK 7, wordR i, [116, 111], wordR w] := hx
    simp only [List.mem_cons, List.not_mem_nil, or_false] at hx
    rcases hx with rfl | rfl | rfl | rfl
    · exact name_plain hk
    · exact fit_plain hi
    · exact t3
    · exact fit_plain hw
  · intro x hx
    have e : wordsR { kind := 8, who := w, gives := g, pay := p, wants := q, fee := f } = nameK 8 :: wordR w :: [103, 105, 118, 101] :: (g.map wordR ++ (coins :: wordR p :: [102, 111, 114] :: (q.map wordR ++ [coins, wordR f]))) := by simp [wordsR, coins]
    rw [e] at hx
    simp only [List.mem_cons, List.mem_append, List.not_mem_nil, or_false] at hx
    rcases hx with rfl | rfl | rfl | hx | rfl | rfl | rfl | hx | rfl | rfl
    · exact name_plain hk
    · exact fit_plain hw
    · exact t4
    · exact mp hg.1 hx
    · exact t5
    · exact fit_plain hp
    · exact t6
    · exact mp hq.1 hx
    · exact t5
    · exact fit_plain hf
  · intro x hx
    have hx : x ∈ [nameK k] := by rcases hk2 with rfl | rfl <;> exact hx
    simp only [List.mem_cons, List.not_mem_nil, or_false] at hx
    subst hx
    exact name_plain hk
/-- what is read is a command that may be, with the line's words -/
theorem getC_zero {s : Str} (h : (getC s).2 = 0) : mayR (getC s).1 = true ∧ wordsR (getC s).1 = words s := by
  rw [getC_eq] at h ⊢
  unfold getR at h ⊢
  split
  · rename_i e; rw [if_pos e] at h; cases h
  · rename_i e
    rw [if_neg e] at h
    split
    · rename_i q; exact q
    · rename_i q; rw [if_neg q] at h; cases h
/-- a line that has a command's words is read as it -/
theorem getC_words {s : Str} {c : Cmd} (hm : mayR c = true) (h : words s = wordsR c) : getC s = (c, 0) := by
  have hne : words s ≠ [] := by rw [h]; simp [wordsR]
  have hk : (kindOf (nth (words s) 0)).1 = c.kind := by
    rw [h]
    show (kindOf (nameK c.kind)).1 = _
    rw [kindOf_word (may_kind1 hm)]
  rw [getC_eq]
  unfold getR
  rw [if_neg hne, hk, h, fill_back hm, if_pos ⟨hm, rfl⟩]
theorem wordsR_inj {c d : Cmd} (hc : mayR c = true) (hd : mayR d = true) (h : wordsR c = wordsR d) : c = d := by
  have h1 := getC_words hc (s := join (wordsR c)) (words_join (wordsR_plain hc))
  have h2 := getC_words hd (s := join (wordsR c)) (by rw [words_join (wordsR_plain hc), h])
  rw [h1] at h2
  exact (Prod.mk.inj h2).1
theorem nameK_inj {j k : Int} (hj : 1 ≤ j ∧ j ≤ 10) (hk : 1 ≤ k ∧ k ≤ 10) (h : nameK j = nameK k) : j = k := by
  have h1 := kindOf_word hj
  rw [h, kindOf_word hk] at h1
  exact (Prod.mk.inj h1).1.symm
end Go.Proofs.YtgnblhmejecgfaaGreatDoor
