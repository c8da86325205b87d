/- The document's own answers of layer 4: words, numbers, a command's words. -/
import Derived.Test.YtgcaeaajpainmaaDoorV5
set_option linter.all false

namespace Go.Proofs.YtgcaeaajpainmaaDoor
open Go Go.RowKit Go.Inn
set_option linter.unusedSimpArgs false
set_option linter.unusedVariables false
set_option maxRecDepth 100000
/-- what ref02.Cut looks for -/
theorem words_nil : words [] = [] := rfl
theorem words_gap (r : Str) : words (32 :: r) = words r := by simp [words, pieces]
theorem pieces_word : ∀ (w r : Str), (∀ x, x ∈ w → x ≠ 32) → pieces (w ++ r) = match pieces r with
    | p :: ps => (w ++ p) :: ps
    | [] => [w]
  | [], r, _ => by
    cases e : pieces r with
    | nil => have := pieces_pos r; rw [e] at this; simp at this
    | cons p ps => simp [e]
  | b :: w, r, h => by
    have ih := pieces_word w r fun x hx => h x (by simp [hx])
    have hb : b ≠ 32 := h b (by simp)
    cases e : pieces r with
    | nil => have := pieces_pos r; rw [e] at this; simp at this
    | cons p ps =>
      rw [e] at ih
      simp only [List.cons_append, pieces, if_neg hb, ih]
theorem words_word {w r : Str} (hw : w ≠ []) (h : ∀ x, x ∈ w → x ≠ 32) (hr : r = [] ∨ ∃ q, r = 32 :: q) : words (w ++ r) = w :: words r := by
  have key := pieces_word w r h
  rcases hr with rfl | ⟨q, rfl⟩
  · rw [List.append_nil] at key ⊢; simp [words, key, pieces, hw]
  · simp [words, key, pieces, hw]
/-- between two rounds of ref02.Cut -/
structure CutInv (s : Str) (i : Nat) (acc : List Str) : Prop where
  le : i ≤ s.length
  eq : words s = acc ++ words (s.drop i)
  len : acc.length ≤ i
theorem CutInv.zero (s : Str) : CutInv s 0 [] := ⟨Nat.zero_le _, by simp, by simp⟩
theorem CutInv.gap {s : Str} {i : Nat} {acc : List Str} (h : CutInv s i acc) (hi : (i : Int) < s.length) (hb : nth s (i : Int) = 32) : CutInv s (i + 1) acc := by
  refine ⟨by omega, ?_, by have := h.len; omega⟩
  rw [h.eq, drop_nth hi, hb, words_gap]
structure KInv (s : Str) (i k : Nat) : Prop where
  ik : i ≤ k
  le : k ≤ s.length
  none : ∀ x, x ∈ (s.take k).drop i → x ≠ 32
theorem KInv.zero {s : Str} {i : Nat} (h : i ≤ s.length) : KInv s i i := ⟨Nat.le_refl _, h, fun x hx => by
  rw [List.drop_of_length_le (by rw [List.length_take]; omega)] at hx; cases hx⟩
theorem KInv.step {s : Str} {i k : Nat} (h : KInv s i k) (hk : (k : Int) < s.length) (hb : nth s (k : Int) ≠ 32) : KInv s i (k + 1) := by
  refine ⟨by have := h.ik; omega, by omega, fun x hx => ?_⟩
  have e : (s.take (k + 1)).drop i = (s.take k).drop i ++ [nth s (k : Int)] := by
    have := h.ik
    rw [take_succ (by omega), List.drop_append_of_le_length (by rw [List.length_take]; omega)]
  rw [e] at hx
  rcases List.mem_append.1 hx with hx | hx
  · exact h.none x hx
  · simp at hx; rw [hx]; exact hb
theorem CutInv.word {s : Str} {i k : Nat} {acc : List Str} (h : CutInv s i acc) (q : KInv s i k) (hi : (i : Int) < s.length) (hb : nth s (i : Int) ≠ 32) (hk : ¬ (k : Int) < s.length ∨ nth s (k : Int) = 32) : i < k ∧ CutInv s k (acc ++ [(s.take k).drop i]) := by
  have hik : i < k := by
    have h1 := q.ik
    rcases Nat.lt_or_ge i k with h2 | h2
    · exact h2
    · have : k = i := by omega
      subst this
      rcases hk with hk | hk
      · exact absurd hi hk
      · exact absurd hk hb
  have hle := q.le
  refine ⟨hik, hle, ?_, by have := h.len; simp; omega⟩
  have e : s.drop i = (s.take k).drop i ++ s.drop k := by
    have : s.drop i = (s.take k ++ s.drop k).drop i := by rw [List.take_append_drop]
    rw [this, List.drop_append_of_le_length (by rw [List.length_take]; omega)]
  rw [h.eq, e, words_word, List.append_assoc]
  · rfl
  · intro e0
    have : ((s.take k).drop i).length = 0 := by rw [e0]; rfl
    rw [List.length_drop, List.length_take] at this
    omega
  · exact q.none
  · by_cases hk2 : (k : Int) < s.length
    · rcases hk with hk | hk
      · exact absurd hk2 hk
      · exact .inr ⟨s.drop (k + 1), by rw [drop_nth hk2, hk]⟩
    · exact .inl (List.drop_of_length_le (by omega))
theorem CutInv.done {s : Str} {i : Nat} {acc : List Str} (h : CutInv s i acc) (hi : ¬ (i : Int) < s.length) : acc = words s := by
  have := h.le
  rw [h.eq, List.drop_of_length_le (by omega), words_nil, List.append_nil]

/-! innkeep/innkeepref02.Cut -/
theorem s_innkeepref02_Cut (s : Str) (hs0 : s.length ≤ 100000000000) : FnSpec Tryd.prog glob 11 [V s] (V (words s)) := by
  refine FnSpec.enter Tryd.func11 rfl rfl rfl fun m0 w0 => ?_
  refine SC.learnStr (t := 0) rfl fun hp0 => ?_
  refine SC.seq ?_
  refine SC.region ?_
  refine SL.op (OpT.plain rfl (OpOk.assign (Typ.cnil (α := Str)))) rfl rfl ?_
  refine SL.nil ?_
  refine SK.code ?_
  refine SC.seq ?_
  refine SC.region ?_
  refine SL.nilRow (Str) 9 ?_
  refine SL.op (F := .eq (.slice none 0 0)) (OpT.plain rfl (OpOk.assign (Typ.con fun _ => rfl))) rfl rfl ?_
  refine SL.nil ?_
  refine SK.code ?_
  refine SC.seq ?_
  refine SC.region ?_
  refine SL.op (OpT.plain rfl (OpOk.assign Typ.cint)) rfl rfl ?_
  refine SL.nil ?_
  refine SK.code ?_
  refine SC.seq ?_
  refine SC.block ?_
  refine SC.loopK (σ := Nat × List Str × Value) [0, 2] (fun st => [(4, V (st.1 : Int)), (3, .eq st.2.2)]) (fun st Δ => [Own.row st.2.2 9 st.2.1]) (fun st => s.length - st.1) (fun st => CutInv s st.1 st.2.1) ((0, [], .slice none 0 0)) (CutInv.zero s) rfl (Subs.eq rfl (by first | rfl | omega | (simp; done) | (simp_all; done) | (simp_all; omega)) (Subs.one rfl Subs.nil)) (fun st hs => ?_)
  obtain ⟨i, acc, v⟩ := st
  dsimp only at hs ⊢
  have q1 := hs.le
  have q2 := hs.len
  refine SC.seq ?_
  refine SC.seq ?_
  refine SC.region ?_
  refine SL.op (OpT.plain rfl (OpOk.move (Typ.tmp rfl))) rfl rfl ?_
  refine SL.op (OpT.plain rfl (OpOk.move (Typ.tmp rfl))) rfl rfl ?_
  refine SL.op (OpT.plain rfl (OpOk.lenStr Tryd.underlying9 (Typ.tmp rfl))) rfl rfl ?_
  refine SL.op (OpT.plain rfl (OpOk.lss (Typ.tmp rfl) (Typ.tmp rfl))) rfl rfl ?_
  refine SL.nil ?_
  refine SK.code ?_
  refine SC.cond rfl (fun _ _ h => V_bool h) (fun h1 => ?_) (fun h1 => ?_)
  · skip
    try simp only [decide_eq_true_eq, decide_eq_false_iff_not, Bool.and_eq_true, Bool.or_eq_true, Bool.not_eq_true', Bool.not_eq_false', Bool.and_eq_false_iff, Bool.or_eq_false_iff, Bool.not_not, Bool.not_true, Bool.not_false, ne_eq, Classical.not_not, Decidable.not_not] at h1
    refine SC.skip ?_
    refine SK.code ?_
    refine SC.block ?_
    refine SC.seq ?_
    refine SC.seq ?_
    refine SC.region ?_
    refine SL.op (OpT.plain rfl (OpOk.move (Typ.tmp rfl))) rfl rfl ?_
    refine SL.op (OpT.plain rfl (OpOk.move (Typ.tmp rfl))) rfl rfl ?_
    refine SL.op (OpT.plain rfl (OpOk.indexStr Tryd.underlying9 (Typ.tmp rfl) (Typ.tmp rfl) (by first | omega | (simp only [decide_eq_true_eq, decide_eq_false_iff_not] at *; omega) | (simp at *; omega)) (by first | omega | (simp only [decide_eq_true_eq, decide_eq_false_iff_not] at *; omega) | (simp at *; omega)))) rfl rfl ?_
    refine SL.op (OpT.plain rfl (OpOk.eqlU8 (Typ.tmp rfl) (Typ.cu8n 32))) rfl rfl ?_
    refine SL.nil ?_
    refine SK.code ?_
    refine SC.cond rfl (fun _ _ h => V_bool h) (fun h2 => ?_) (fun h2 => ?_)
    · skip
      try simp only [decide_eq_true_eq, decide_eq_false_iff_not, Bool.and_eq_true, Bool.or_eq_true, Bool.not_eq_true', Bool.not_eq_false', Bool.and_eq_false_iff, Bool.or_eq_false_iff, Bool.not_not, Bool.not_true, Bool.not_false, ne_eq, Classical.not_not, Decidable.not_not] at h2
      refine SC.seq ?_
      refine SC.region ?_
      refine SL.op (OpT.plain rfl (OpOk.move (Typ.tmp rfl))) rfl rfl ?_
      refine SL.op (OpT.plain rfl (OpOk.add (Typ.tmp rfl) Typ.cint (by unfold in64; first | omega | (simp at *; omega)))) rfl rfl ?_
      refine SL.op (OpT.plain rfl (OpOk.assign (Typ.tmp rfl))) rfl rfl ?_
      refine SL.nil ?_
      refine SK.code ?_
      refine SC.exit rfl ?_
      refine SK.roundK ((i + 1, acc, v)) (by simp only; omega) (by first | exact hs.gap (by assumption) (by assumption) | exact hw.2) rfl rfl (Subs.eq rfl (by first | rfl | omega | (simp; done) | (simp_all; done) | (simp_all; omega)) (Subs.one rfl Subs.nil))
    · skip
      try simp only [decide_eq_true_eq, decide_eq_false_iff_not, Bool.and_eq_true, Bool.or_eq_true, Bool.not_eq_true', Bool.not_eq_false', Bool.and_eq_false_iff, Bool.or_eq_false_iff, Bool.not_not, Bool.not_true, Bool.not_false, ne_eq, Classical.not_not, Decidable.not_not] at h2
      refine SC.skip ?_
      refine SK.code ?_
      refine SC.seq ?_
      refine SC.region ?_
      refine SL.op (OpT.plain rfl (OpOk.move (Typ.tmp rfl))) rfl rfl ?_
      refine SL.op (OpT.plain rfl (OpOk.assign (Typ.tmp rfl))) rfl rfl ?_
      refine SL.nil ?_
      refine SK.code ?_
      refine SC.seq ?_
      refine SC.block ?_
      refine SC.loopK (σ := Nat) [0, 2, 3, 4] (fun k => [(5, V (k : Int))]) (fun k Δ => Δ) (fun k => s.length - k) (fun k => KInv s i k) (i) (KInv.zero q1) rfl (Subs.eq rfl (by first | rfl | omega | (simp; done) | (simp_all; done) | (simp_all; omega)) Subs.nil) (fun k hk => ?_)
      have k1 := hk.ik
      have k2 := hk.le
      refine SC.seq ?_
      refine SC.seq ?_
      refine SC.region ?_
      refine SL.op (OpT.plain rfl (OpOk.move (Typ.tmp rfl))) rfl rfl ?_
      refine SL.op (OpT.plain rfl (OpOk.move (Typ.tmp rfl))) rfl rfl ?_
      refine SL.op (OpT.plain rfl (OpOk.lenStr Tryd.underlying9 (Typ.tmp rfl))) rfl rfl ?_
      refine SL.op (OpT.plain rfl (OpOk.lss (Typ.tmp rfl) (Typ.tmp rfl))) rfl rfl ?_
      refine SL.op (OpT.plain rfl (OpOk.move (Typ.tmp rfl))) rfl rfl ?_
      refine SL.op (OpT.guard rfl rfl rfl (fun _ _ h => V_bool h) (fun hg => OpOk.move (Typ.tmp rfl))) rfl rfl ?_
      refine SL.op (OpT.guard rfl rfl rfl (fun _ _ h => V_bool h) (fun hg => OpOk.move (Typ.tmp rfl))) rfl rfl ?_
      refine SL.op (OpT.guard rfl rfl rfl (fun _ _ h => V_bool h) (fun hg => OpOk.indexStr Tryd.underlying9 (Typ.cond hg rfl) (Typ.cond hg rfl) (by first | omega | (simp only [decide_eq_true_eq, decide_eq_false_iff_not] at *; omega) | (simp at *; omega)) (by first | omega | (simp only [decide_eq_true_eq, decide_eq_false_iff_not] at *; omega) | (simp at *; omega)))) rfl rfl ?_
      refine SL.op (OpT.guard rfl rfl rfl (fun _ _ h => V_bool h) (fun hg => OpOk.neqU8 (Typ.cond hg rfl) (Typ.cu8n 32))) rfl rfl ?_
      refine SL.op (OpT.plain rfl (OpOk.pickAnd (Typ.tmp rfl) (fun hb => Typ.cond hb rfl))) rfl rfl ?_
      refine SL.nil ?_
      refine SK.code ?_
      refine SC.cond rfl (fun _ _ h => V_bool h) (fun h3 => ?_) (fun h3 => ?_)
      · skip
        try simp only [decide_eq_true_eq, decide_eq_false_iff_not, Bool.and_eq_true, Bool.or_eq_true, Bool.not_eq_true', Bool.not_eq_false', Bool.and_eq_false_iff, Bool.or_eq_false_iff, Bool.not_not, Bool.not_true, Bool.not_false, ne_eq, Classical.not_not, Decidable.not_not] at h3
        refine SC.skip ?_
        refine SK.code ?_
        refine SC.block ?_
        refine SC.region ?_
        refine SL.op (OpT.plain rfl (OpOk.move (Typ.tmp rfl))) rfl rfl ?_
        refine SL.op (OpT.plain rfl (OpOk.add (Typ.tmp rfl) Typ.cint (by unfold in64; first | omega | (simp at *; omega)))) rfl rfl ?_
        refine SL.op (OpT.plain rfl (OpOk.assign (Typ.tmp rfl))) rfl rfl ?_
        refine SL.nil ?_
        refine SK.blk ?_
        refine SK.roundK (k + 1) (by omega) (hk.step (by simp_all) (by simp_all)) rfl rfl (Subs.eq rfl (by first | rfl | omega | (simp; done) | (simp_all; done) | (simp_all; omega)) Subs.nil)
      · skip
        try simp only [decide_eq_true_eq, decide_eq_false_iff_not, Bool.and_eq_true, Bool.or_eq_true, Bool.not_eq_true', Bool.not_eq_false', Bool.and_eq_false_iff, Bool.or_eq_false_iff, Bool.not_not, Bool.not_true, Bool.not_false, ne_eq, Classical.not_not, Decidable.not_not] at h3
        refine SC.exit rfl ?_
        refine SK.code ?_
        refine SC.seq ?_
        have hw := hs.word hk (by assumption) (by assumption) (by first | (simp_all; done) | (simp_all; omega))
        refine SC.region ?_
        refine SL.op (OpT.plain rfl (OpOk.move (Typ.tmp rfl))) rfl rfl ?_
        refine SL.op (OpT.plain rfl (OpOk.move (Typ.tmp rfl))) rfl rfl ?_
        refine SL.op (OpT.plain rfl (OpOk.move (Typ.tmp rfl))) rfl rfl ?_
        refine SL.op (OpT.plain rfl (OpOk.move (Typ.tmp rfl))) rfl rfl ?_
        refine SL.op (OpT.plain rfl (OpOk.cutStr Tryd.underlying9 (Typ.tmp rfl) (Lo.s (Typ.tmp rfl)) (Lo.s (Typ.tmp rfl)) (by first | omega | (simp only [decide_eq_true_eq, decide_eq_false_iff_not] at *; omega) | (simp at *; omega)) (by first | omega | (simp only [decide_eq_true_eq, decide_eq_false_iff_not] at *; omega) | (simp at *; omega)) (by first | omega | (simp only [decide_eq_true_eq, decide_eq_false_iff_not] at *; omega) | (simp at *; omega)))) rfl rfl ?_
        refine SL.op (OpT.plain rfl (OpOk.buildSlice lit_34_1 (parts := [(0, Operand.tmp 33)]) rfl (TypL.cons (Typ.tmp rfl) TypL.nil))) rfl rfl ?_
        obtain ⟨by_, hby, htyi⟩ := tyi_34
        refine SL.append Tryd.underlying34 htyi (i := 0) rfl (Typ.tmp rfl) (Typ.tmp rfl) (by simp) ?_ ?_ rfl fun v4 => ?_
        · exact (by refine Nat.le_trans (Nat.mul_le_mul (Nat.le_refl _) hby) ?_; first | omega | (simp; done) | (simp; omega) | (simp only [Cmd.s_kind, Cmd.s_dir, Cmd.s_item, Cmd.s_box, Cmd.s_who, Cmd.s_gives, Cmd.s_pay, Cmd.s_wants, Cmd.s_fee]; simp; omega) | (simp at *; omega))
        · exact (by unfold maxLen; first | omega | (simp; done) | (simp; omega) | (simp only [Cmd.s_kind, Cmd.s_dir, Cmd.s_item, Cmd.s_box, Cmd.s_who, Cmd.s_gives, Cmd.s_pay, Cmd.s_wants, Cmd.s_fee]; simp; omega) | (simp at *; omega))
        clear htyi hby
        refine SL.op (OpT.plain rfl (OpOk.assign (Typ.tmp rfl))) rfl rfl ?_
        refine SL.nil ?_
        refine SK.code ?_
        refine SC.region ?_
        refine SL.op (OpT.plain rfl (OpOk.move (Typ.tmp rfl))) rfl rfl ?_
        refine SL.op (OpT.plain rfl (OpOk.assign (Typ.tmp rfl))) rfl rfl ?_
        refine SL.nil ?_
        refine SK.blk ?_
        refine SK.roundK ((k, acc ++ [(s.take ((k : Int)).toNat).drop ((i : Int)).toNat], v4)) (by simp only; omega) (by first | exact hs.gap (by assumption) (by assumption) | exact hw.2) rfl rfl (Subs.eq rfl (by first | rfl | omega | (simp; done) | (simp_all; done) | (simp_all; omega)) (Subs.one rfl Subs.nil))
  · skip
    try simp only [decide_eq_true_eq, decide_eq_false_iff_not, Bool.and_eq_true, Bool.or_eq_true, Bool.not_eq_true', Bool.not_eq_false', Bool.and_eq_false_iff, Bool.or_eq_false_iff, Bool.not_not, Bool.not_true, Bool.not_false, ne_eq, Classical.not_not, Decidable.not_not] at h1
    refine SC.exit rfl ?_
    refine SK.code ?_
    refine SC.seq ?_
    have hdone := hs.done (by assumption)
    refine SC.region ?_
    refine SL.op (OpT.plain rfl (OpOk.move (Typ.tmp rfl))) rfl rfl ?_
    refine SL.op (OpT.plain rfl (OpOk.assign (Typ.tmp rfl))) rfl rfl ?_
    refine SL.nil ?_
    refine SK.code ?_
    refine SC.ret ?_
    refine SR.publishRow (t := 2) (i := 0) rfl rfl ?_
    exact SR.one rfl (ResT.eq rfl (by first | (exact hdone) | rfl | (simp_all []; done) | (simp_all []; rfl) | (simp_all []; omega)))

/-- ref04.at -/
def atR (l : List Str) (i : Int) : Int := if i < 0 ∨ (l.length : Int) ≤ i then 0 else (numR (nth l i)).1

/-- a command's words -/
def wordsR (c : Cmd) : List Str := nameK c.kind :: (if c.kind = 1 then [wayD c.dir] else if c.kind = 2 then [wordR c.who, wayD c.dir] else if c.kind = 3 ∨ c.kind = 4 then [wordR c.item]
  else if c.kind = 5 then [wordR c.item, [105, 110], wordR c.box] else if c.kind = 6 then [wordR c.item, [102, 114, 111, 109], wordR c.box] else if c.kind = 7 then [wordR c.item, [116, 111], wordR c.who]
  else if c.kind = 8 then [wordR c.who, [103, 105, 118, 101]] ++ c.gives.map wordR ++ [[99, 111, 105, 110, 115], wordR c.pay, [102, 111, 114]] ++ c.wants.map wordR ++ [[99, 111, 105, 110, 115], wordR c.fee] else [])
theorem mayR_len {c : Cmd} (h : mayR c = true) : c.gives.length ≤ 16 ∧ c.wants.length ≤ 16 := by
  unfold mayR at h
  simp only [Bool.and_eq_true] at h
  obtain ⟨_, ⟨_, h1⟩, h2⟩ := h
  have key : ∀ (b : Bool) (l : List Int), rowH b l = true → l.length ≤ 16 := by
    intro b l h
    unfold rowH at h
    split at h
    · unfold rowB at h; simp at h; exact h.2
    · simp at h; rw [h]; simp
  exact ⟨key _ _ h1, key _ _ h2⟩
end Go.Proofs.YtgcaeaajpainmaaDoor
