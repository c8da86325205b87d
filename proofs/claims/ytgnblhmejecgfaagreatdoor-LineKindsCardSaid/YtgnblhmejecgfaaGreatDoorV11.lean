/- The document's own answers of layer 4: words, numbers, a command's words. -/
import Derived.Test.YtgnblhmejecgfaaGreatDoorV5
set_option linter.all false

namespace Go.Proofs.YtgnblhmejecgfaaGreatDoor
open Go Go.RowKit Go.Inn
set_option linter.unusedSimpArgs false
set_option linter.unusedVariables false
set_option maxRecDepth 100000
/-- what ref02.Cut looks for -/
theorem words_nil : words [] = [] := rfl
theorem words_gap (r : Str) : words (32 :: r) = words r := by simp [words, pieces]
theorem pieces_word : ∀ (w r : Str), (∀ x, x ∈ w → x ≠ 32) → pieces (w ++ r) = match pieces r with
    | p :: ps => (w ++ p) :: ps
    | [] => [w]
  | [], r, _ => by
    cases e : pieces r with
    | nil => have := pieces_pos r; rw [e] at this; simp at this
    | cons p ps => simp [e]
  | b :: w, r, h => by
    have ih := pieces_word w r fun x hx => h x (by simp [hx])
    have hb : b ≠ 32 := h b (by simp)
    cases e : pieces r with
    | nil => have := pieces_pos r; rw [e] at this; simp at this
    | cons p ps =>
      rw [e] at ih
      simp only [List.cons_append, pieces, if_neg hb, ih]
theorem words_word {w r : Str} (hw : w ≠ []) (h : ∀ x, x ∈ w → x ≠ 32) (hr : r = [] ∨ ∃ q, r = 32 :: q) : words (w ++ r) = w :: words r := by
  have key := pieces_word w r h
  rcases hr with rfl | ⟨q, rfl⟩
  · rw [List.append_nil] at key ⊢; simp [words, key, pieces, hw]
  · simp [words, key, pieces, hw]
/-- between two rounds of ref02.Cut -/
structure CutInv (s : Str) (i : Nat) (acc : List Str) : Prop where
  le : i ≤ s.length
  eq : words s = acc ++ words (s.drop i)
  len : acc.length ≤ i
theorem CutInv.zero (s : Str) : CutInv s 0 [] := ⟨Nat.zero_le _, by simp, by simp⟩
theorem CutInv.gap {s : Str} {i : Nat} {acc : List Str} (h : CutInv s i acc) (hi : (i : Int) < s.length) (hb : nth s (i : Int) = 32) : CutInv s (i + 1) acc := by
  refine ⟨by omega, ?_, by have := h.len; omega⟩
  rw [h.eq, drop_nth hi, hb, words_gap]
structure KInv (s : Str) (i k : Nat) : Prop where
  ik : i ≤ k
  le : k ≤ s.length
  none : ∀ x, x ∈ (s.take k).drop i → x ≠ 32
theorem KInv.zero {s : Str} {i : Nat} (h : i ≤ s.length) : KInv s i i := ⟨Nat.le_refl _, h, fun x hx => by
  rw [List.drop_of_length_le (by rw [List.length_take]; omega)] at hx; cases hx⟩
theorem KInv.step {s : Str} {i k : Nat} (h : KInv s i k) (hk : (k : Int) < s.length) (hb : nth s (k : Int) ≠ 32) : KInv s i (k + 1) := by
  refine ⟨by have := h.ik; omega, by omega, fun x hx => ?_⟩
  have e : (s.take (k + 1)).drop i = (s.take k).drop i ++ [nth s (k : Int)] := by
    have := h.ik
    rw [take_succ (by omega), List.drop_append_of_le_length (by rw [List.length_take]; omega)]
  rw [e] at hx
  rcases List.mem_append.1 hx with hx | hx
  · exact h.none x hx
  · simp at hx; rw [hx]; exact hb
theorem CutInv.word {s : Str} {i k : Nat} {acc : List Str} (h : CutInv s i acc) (q : KInv s i k) (hi : (i : Int) < s.length) (hb : nth s (i : Int) ≠ 32) (hk : ¬ (k : Int) < s.length ∨ nth s (k : Int) = 32) : i < k ∧ CutInv s k (acc ++ [(s.take k).drop i]) := by
  have hik : i < k := by
    have h1 := q.ik
    rcases Nat.lt_or_ge i k with h2 | h2
    · exact h2
    · have : k = i := by omega
      subst this
      rcases hk with hk | hk
      · exact absurd hi hk
      · exact absurd hk hb
  have hle := q.le
  refine ⟨hik, hle, ?_, by have := h.len; simp; omega⟩
  have e : s.drop i = (s.take k).drop i ++ s.drop k := by
    have : s.drop i = (s.take k ++ s.drop k).drop i := by rw [List.take_append_drop]
    rw [this, List.drop_append_of_le_length (by rw [List.length_take]; omega)]
  rw [h.eq, e, words_word, List.append_assoc]
  · rfl
  · intro e0
    have : ((s.take k).drop i).length = 0 := by rw [e0]; rfl
    rw [List.length_drop, List.length_take] at this
    omega
  · exact q.none
  · by_cases hk2 : (k : Int) < s.length
    · rcases hk with hk | hk
      · exact absurd hk2 hk
      · exact .inr ⟨s.drop (k + 1), by rw [drop_nth hk2, hk]⟩
    · exact .inl (List.drop_of_length_le (by omega))
theorem CutInv.done {s : Str} {i : Nat} {acc : List Str} (h : CutInv s i acc) (hi : ¬ (i : Int) < s.length) : acc = words s := by
  have := h.le
  rw [h.eq, List.drop_of_length_le (by omega), words_nil, List.append_nil]

/-! innkeep/innkeepref02.Cut -/
theorem s_innkeepref02_Cut (s : Str) (hs0 : s.length ≤ 100000000000) : FnSpec Tryz.prog glob 28 [V s] (V (words s)) := by
  refine FnSpec.enter Tryz.func28 rfl rfl rfl fun m0 w0 => ?_
  refine SC.learnStr (t := 0) rfl fun hp0 => ?_
  refine SC.seq ?_
  refine SC.region ?_
  refine SL.op (OpT.plain rfl (OpOk.assign (Typ.cnil (α := Str)))) rfl rfl ?_
  refine SL.nil ?_
  refine SK.code ?_
  refine SC.seq ?_
  refine SC.region ?_
  refine SL.nilRow (Str) 9 ?_
  refine SL.op (F := .eq (.slice none 0 0)) (OpT.plain rfl (OpOk.assign (Typ.con fun _ => rfl))) rfl rfl ?_
  refine SL.nil ?_
  refine SK.code ?_
  refine SC.seq ?_
  refine SC.region ?_
  refine SL.op (OpT.plain rfl (OpOk.assign Typ.cint)) rfl rfl ?_
  refine SL.nil ?_
  refine SK.code ?_
  refine SC.seq ?_
  refine SC.block ?_
  refine SC.loopK (σ := Nat × List Str × Value) [0, 2] (fun st => [(4, V (st.1 : Int)), (3, .eq st.2.2)]) (fun st Δ => [Own.row st.2.2 9 st.2.1]) (fun st => s.length - st.1) (fun st => CutInv s st.1 st.2.1) ((0, [], .slice none 0 0)) (CutInv.zero s) rfl (Subs.eq rfl (by first | rfl | omega | (simp; done) | (simp_all; done) | (simp_all; omega)) (Subs.one rfl Subs.nil)) (fun st hs => ?_)
  obtain ⟨i, acc, v⟩ := st
  dsimp only at hs ⊢
  have q1 := hs.le
  have q2 := hs.len
  refine SC.seq ?_
  refine SC.seq ?_
  refine SC.region ?_
  refine SL.op (OpT.plain rfl (OpOk.move (Typ.tmp rfl))) rfl rfl ?_
  refine SL.op (OpT.plain rfl (OpOk.move (Typ.tmp rfl))) rfl rfl ?_
  refine SL.op (OpT.plain rfl (OpOk.lenStr Tryz.underlying9 (Typ.tmp rfl))) rfl rfl ?_
  refine SL.op (OpT.plain rfl (OpOk.lss (Typ.tmp rfl) (Typ.tmp rfl))) rfl rfl ?_
  refine SL.nil ?_
  refine SK.code ?_
  refine SC.cond rfl (fun _ _ h => V_bool h) (fun h1 => ?_) (fun h1 => ?_)
  · skip
    try simp only [decide_eq_true_eq, decide_eq_false_iff_not, Bool.and_eq_true, Bool.or_eq_true, Bool.not_eq_true', Bool.not_eq_false', Bool.and_eq_false_iff, Bool.or_eq_false_iff, Bool.not_not, Bool.not_true, Bool.not_false, ne_eq, Classical.not_not, Decidable.not_not] at h1
    refine SC.skip ?_
    refine SK.code ?_
    refine SC.block ?_
    refine SC.seq ?_
    refine SC.seq ?_
    refine SC.region ?_
    refine SL.op (OpT.plain rfl (OpOk.move (Typ.tmp rfl))) rfl rfl ?_
    refine SL.op (OpT.plain rfl (OpOk.move (Typ.tmp rfl))) rfl rfl ?_
    refine SL.op (OpT.plain rfl (OpOk.indexStr Tryz.underlying9 (Typ.tmp rfl) (Typ.tmp rfl) (by first | omega | (simp only [decide_eq_true_eq, decide_eq_false_iff_not] at *; omega) | (simp at *; omega)) (by first | omega | (simp only [decide_eq_true_eq, decide_eq_false_iff_not] at *; omega) | (simp at *; omega)))) rfl rfl ?_
    refine SL.op (OpT.plain rfl (OpOk.eqlU8 (Typ.tmp rfl) (Typ.cu8n 32))) rfl rfl ?_
    refine SL.nil ?_
    refine SK.code ?_
    refine SC.cond rfl (fun _ _ h => V_bool h) (fun h2 => ?_) (fun h2 => ?_)
    · skip
      try simp only [decide_eq_true_eq, decide_eq_false_iff_not, Bool.and_eq_true, Bool.or_eq_true, Bool.not_eq_true', Bool.not_eq_false', Bool.and_eq_false_iff, Bool.or_eq_false_iff, Bool.not_not, Bool.not_true, Bool.not_false, ne_eq, Classical.not_not, Decidable.not_not] at h2
      refine SC.seq ?_
      refine SC.region ?_
      refine SL.op (OpT.plain rfl (OpOk.move (Typ.tmp rfl))) rfl rfl ?_
      refine SL.op (OpT.plain rfl (OpOk.add (Typ.tmp rfl) Typ.cint (by unfold in64; first | omega | (simp at *; omega)))) rfl rfl ?_
      refine SL.op (OpT.plain rfl (OpOk.assign (Typ.tmp rfl))) rfl rfl ?_
      refine SL.nil ?_
      refine SK.code ?_
      refine SC.exit rfl ?_
      refine SK.roundK ((i + 1, acc, v)) (by simp only; omega) (by first | exact hs.gap (by assumption) (by assumption) | exact hw.2) rfl rfl (Subs.eq rfl (by first | rfl | omega | (simp; done) | (simp_all; done) | (simp_all; omega)) (Subs.one rfl Subs.nil))
    · skip
      try simp only [decide_eq_true_eq, decide_eq_false_iff_not, Bool.and_eq_true, Bool.or_eq_true, Bool.not_eq_true', Bool.not_eq_false', Bool.and_eq_false_iff, Bool.or_eq_false_iff, Bool.not_not, Bool.not_true, Bool.not_false, ne_eq, Classical.not_not, Decidable.not_not] at h2
      refine SC.skip ?_
      refine SK.code ?_
      refine SC.seq ?_
      refine SC.region ?_
      refine SL.op (OpT.plain rfl (OpOk.move (Typ.tmp rfl))) rfl rfl ?_
      refine SL.op (OpT.plain rfl (OpOk.assign (Typ.tmp rfl))) rfl rfl ?_
      refine SL.nil ?_
      refine SK.code ?_
      refine SC.seq ?_
      refine SC.block ?_
      refine SC.loopK (σ := Nat) [0, 2, 3, 4] (fun k => [(5, V (k : Int))]) (fun k Δ => Δ) (fun k => s.length - k) (fun k => KInv s i k) (i) (KInv.zero q1) rfl (Subs.eq rfl (by first | rfl | omega | (simp; done) | (simp_all; done) | (simp_all; omega)) Subs.nil) (fun k hk => ?_)
      have k1 := hk.ik
      have k2 := hk.le
      refine SC.seq ?_
      refine SC.seq ?_
      refine SC.region ?_
      refine SL.op (OpT.plain rfl (OpOk.move (Typ.tmp rfl))) rfl rfl ?_
      refine SL.op (OpT.plain rfl (OpOk.move (Typ.tmp rfl))) rfl rfl ?_
      refine SL.op (OpT.plain rfl (OpOk.lenStr Tryz.underlying9 (Typ.tmp rfl))) rfl rfl ?_
      refine SL.op (OpT.plain rfl (OpOk.lss (Typ.tmp rfl) (Typ.tmp rfl))) rfl rfl ?_
      refine SL.op (OpT.plain rfl (OpOk.move (Typ.tmp rfl))) rfl rfl ?_
      refine SL.op (OpT.guard rfl rfl rfl (fun _ _ h => V_bool h) (fun hg => OpOk.move (Typ.tmp rfl))) rfl rfl ?_
      refine SL.op (OpT.guard rfl rfl rfl (fun _ _ h => V_bool h) (fun hg => OpOk.move (Typ.tmp rfl))) rfl rfl ?_
      refine SL.op (OpT.guard rfl rfl rfl (fun _ _ h => V_bool h) (fun hg => OpOk.indexStr Tryz.underlying9 (Typ.cond hg rfl) (Typ.cond hg rfl) (by first | omega | (simp only [decide_eq_true_eq, decide_eq_false_iff_not] at *; omega) | (simp at *; omega)) (by first | omega | (simp only [decide_eq_true_eq, decide_eq_false_iff_not] at *; omega) | (simp at *; omega)))) rfl rfl ?_
      refine SL.op (OpT.guard rfl rfl rfl (fun _ _ h => V_bool h) (fun hg => OpOk.neqU8 (Typ.cond hg rfl) (Typ.cu8n 32))) rfl rfl ?_
      refine SL.op (OpT.plain rfl (OpOk.pickAnd (Typ.tmp rfl) (fun hb => Typ.cond hb rfl))) rfl rfl ?_
      refine SL.nil ?_
      refine SK.code ?_
      refine SC.cond rfl (fun _ _ h => V_bool h) (fun h3 => ?_) (fun h3 => ?_)
      · skip
        try simp only [decide_eq_true_eq, decide_eq_false_iff_not, Bool.and_eq_true, Bool.or_eq_true, Bool.not_eq_true', Bool.not_eq_false', Bool.and_eq_false_iff, Bool.or_eq_false_iff, Bool.not_not, Bool.not_true, Bool.not_false, ne_eq, Classical.not_not, Decidable.not_not] at h3
        refine SC.skip ?_
        refine SK.code ?_
        refine SC.block ?_
        refine SC.region ?_
        refine SL.op (OpT.plain rfl (OpOk.move (Typ.tmp rfl))) rfl rfl ?_
        refine SL.op (OpT.plain rfl (OpOk.add (Typ.tmp rfl) Typ.cint (by unfold in64; first | omega | (simp at *; omega)))) rfl rfl ?_
        refine SL.op (OpT.plain rfl (OpOk.assign (Typ.tmp rfl))) rfl rfl ?_
        refine SL.nil ?_
        refine SK.blk ?_
        refine SK.roundK (k + 1) (by omega) (hk.step (by simp_all) (by simp_all)) rfl rfl (Subs.eq rfl (by first | rfl | omega | (simp; done) | (simp_all; done) | (simp_all; omega)) Subs.nil)
      · skip
        try simp only [decide_eq_true_eq, decide_eq_false_iff_not, Bool.and_eq_true, Bool.or_eq_true, Bool.not_eq_true', Bool.not_eq_false', Bool.and_eq_false_iff, Bool.or_eq_false_iff, Bool.not_not, Bool.not_true, Bool.not_false, ne_eq, Classical.not_not, Decidable.not_not] at h3
        refine SC.exit rfl ?_
        refine SK.code ?_
        refine SC.seq ?_
        have hw := hs.word hk (by assumption) (by assumption) (by first | (simp_all; done) | (simp_all; omega))
        refine SC.region ?_
        refine SL.op (OpT.plain rfl (OpOk.move (Typ.tmp rfl))) rfl rfl ?_
        refine SL.op (OpT.plain rfl (OpOk.move (Typ.tmp rfl))) rfl rfl ?_
        refine SL.op (OpT.plain rfl (OpOk.move (Typ.tmp rfl))) rfl rfl ?_
        refine SL.op (OpT.plain rfl (OpOk.move (Typ.tmp rfl))) rfl rfl ?_
        refine SL.op (OpT.plain rfl (OpOk.cutStr Tryz.underlying9 (Typ.tmp rfl) (Lo.s (Typ.tmp rfl)) (Lo.s (Typ.tmp rfl)) (by first | omega | (simp only [decide_eq_true_eq, decide_eq_false_iff_not] at *; omega) | (simp at *; omega)) (by first | omega | (simp only [decide_eq_true_eq, decide_eq_false_iff_not] at *; omega) | (simp at *; omega)) (by first | omega | (simp only [decide_eq_true_eq, decide_eq_false_iff_not] at *; omega) | (simp at *; omega)))) rfl rfl ?_
        refine SL.op (OpT.plain rfl (OpOk.buildSlice lit_22_1 (parts := [(0, Operand.tmp 33)]) rfl (TypL.cons (Typ.tmp rfl) TypL.nil))) rfl rfl ?_
        obtain ⟨by_, hby, htyi⟩ := tyi_22
        refine SL.append Tryz.underlying22 htyi (i := 0) rfl (Typ.tmp rfl) (Typ.tmp rfl) (by simp) ?_ ?_ rfl fun v4 => ?_
        · exact (by refine Nat.le_trans (Nat.mul_le_mul (Nat.le_refl _) hby) ?_; first | omega | (simp; done) | (simp; omega) | (simp only [Cmd.s_kind, Cmd.s_dir, Cmd.s_item, Cmd.s_box, Cmd.s_who, Cmd.s_gives, Cmd.s_pay, Cmd.s_wants, Cmd.s_fee]; simp; omega) | (simp at *; omega))
        · exact (by unfold maxLen; first | omega | (simp; done) | (simp; omega) | (simp only [Cmd.s_kind, Cmd.s_dir, Cmd.s_item, Cmd.s_box, Cmd.s_who, Cmd.s_gives, Cmd.s_pay, Cmd.s_wants, Cmd.s_fee]; simp; omega) | (simp at *; omega))
        clear htyi hby
        refine SL.op (OpT.plain rfl (OpOk.assign (Typ.tmp rfl))) rfl rfl ?_
        refine SL.nil ?_
        refine SK.code ?_
        refine SC.region ?_
        refine SL.op (OpT.plain rfl (OpOk.move (Typ.tmp rfl))) rfl rfl ?_
        refine SL.op (OpT.plain rfl (OpOk.assign (Typ.tmp rfl))) rfl rfl ?_
        refine SL.nil ?_
        refine SK.blk ?_
        refine SK.roundK ((k, acc ++ [(s.take ((k : Int)).toNat).drop ((i : Int)).toNat], v4)) (by simp only; omega) (by first | exact hs.gap (by assumption) (by assumption) | exact hw.2) rfl rfl (Subs.eq rfl (by first | rfl | omega | (simp; done) | (simp_all; done) | (simp_all; omega)) (Subs.one rfl Subs.nil))
  · skip
    try simp only [decide_eq_true_eq, decide_eq_false_iff_not, Bool.and_eq_true, Bool.or_eq_true, Bool.not_eq_true', Bool.not_eq_false', Bool.and_eq_false_iff, Bool.or_eq_false_iff, Bool.not_not, Bool.not_true, Bool.not_false, ne_eq, Classical.not_not, Decidable.not_not] at h1
    refine SC.exit rfl ?_
    refine SK.code ?_
    refine SC.seq ?_
    have hdone := hs.done (by assumption)
    refine SC.region ?_
    refine SL.op (OpT.plain rfl (OpOk.move (Typ.tmp rfl))) rfl rfl ?_
    refine SL.op (OpT.plain rfl (OpOk.assign (Typ.tmp rfl))) rfl rfl ?_
    refine SL.nil ?_
    refine SK.code ?_
    refine SC.ret ?_
    refine SR.publishRow (t := 2) (i := 0) rfl rfl ?_
    exact SR.one rfl (ResT.eq rfl (by first | (exact hdone) | rfl | (simp_all []; done) | (simp_all []; rfl) | (simp_all []; omega)))

/-- ref04.at -/
def atR (l : List Str) (i : Int) : Int := if i < 0 ∨ (l.length : Int) ≤ i then 0 else (numR (nth l i)).1

/-! innkeep/innkeepref04.at -/
theorem s_innkeepref04_at (l : List Str) (i : Int) : FnSpec Tryz.prog glob 34 [V l, V i] (V (atR l i)) := by
  refine FnSpec.enter Tryz.func34 rfl rfl rfl fun m0 w0 => ?_
  refine SC.learnList (t := 0) rfl fun hp0 => ?_
  refine SC.learnInt (t := 1) rfl fun hp1 => ?_
  refine SC.seq ?_
  refine SC.region ?_
  refine SL.op (OpT.plain rfl (OpOk.assign Typ.cint)) rfl rfl ?_
  refine SL.nil ?_
  refine SK.code ?_
  refine SC.seq ?_
  refine SC.seq ?_
  refine SC.region ?_
  refine SL.op (OpT.plain rfl (OpOk.move (Typ.tmp rfl))) rfl rfl ?_
  refine SL.op (OpT.plain rfl (OpOk.lss (Typ.tmp rfl) Typ.cint)) rfl rfl ?_
  refine SL.op (OpT.plain rfl (OpOk.move (Typ.tmp rfl))) rfl rfl ?_
  refine SL.op (OpT.guard rfl rfl rfl (fun _ _ h => V_bool h) (fun hg => OpOk.move (Typ.tmp rfl))) rfl rfl ?_
  refine SL.op (OpT.guard rfl rfl rfl (fun _ _ h => V_bool h) (fun hg => OpOk.move (Typ.tmp rfl))) rfl rfl ?_
  refine SL.op (OpT.guard rfl rfl rfl (fun _ _ h => V_bool h) (fun hg => OpOk.lenList Tryz.underlying22 (Typ.cond hg rfl))) rfl rfl ?_
  refine SL.op (OpT.guard rfl rfl rfl (fun _ _ h => V_bool h) (fun hg => OpOk.geq (Typ.cond hg rfl) (Typ.cond hg rfl))) rfl rfl ?_
  refine SL.op (OpT.plain rfl (OpOk.pickOr (Typ.tmp rfl) (fun hb => Typ.cond hb rfl))) rfl rfl ?_
  refine SL.nil ?_
  refine SK.code ?_
  refine SC.cond rfl (fun _ _ h => V_bool h) (fun h1 => ?_) (fun h1 => ?_)
  · skip
    try simp only [decide_eq_true_eq, decide_eq_false_iff_not, Bool.and_eq_true, Bool.or_eq_true, Bool.not_eq_true', Bool.not_eq_false', Bool.and_eq_false_iff, Bool.or_eq_false_iff, Bool.not_not, Bool.not_true, Bool.not_false, ne_eq, Classical.not_not, Decidable.not_not] at h1
    refine SC.seq ?_
    refine SC.region ?_
    refine SL.op (OpT.plain rfl (OpOk.assign Typ.cint)) rfl rfl ?_
    refine SL.nil ?_
    refine SK.code ?_
    refine SC.ret ?_
    exact SR.one rfl (ResT.eq rfl (by first | ((unfold atR; rw [if_pos (by assumption)])) | ((unfold atR; rw [if_neg (by omega)])) | rfl | (simp_all []; done) | (simp_all []; rfl) | (simp_all []; omega)))
  · skip
    try simp only [decide_eq_true_eq, decide_eq_false_iff_not, Bool.and_eq_true, Bool.or_eq_true, Bool.not_eq_true', Bool.not_eq_false', Bool.and_eq_false_iff, Bool.or_eq_false_iff, Bool.not_not, Bool.not_true, Bool.not_false, ne_eq, Classical.not_not, Decidable.not_not] at h1
    refine SC.skip ?_
    refine SK.code ?_
    refine SC.seq ?_
    refine SC.region ?_
    refine SL.op (OpT.plain rfl (OpOk.move (Typ.tmp rfl))) rfl rfl ?_
    refine SL.op (OpT.plain rfl (OpOk.move (Typ.tmp rfl))) rfl rfl ?_
    refine SL.op (OpT.plain rfl (OpOk.indexAddr Tryz.underlying22 ty_9 (Typ.tmp rfl) (Typ.tmp rfl) (by first | omega | (simp only [decide_eq_true_eq, decide_eq_false_iff_not] at *; omega) | (simp at *; omega)) (by first | omega | (simp only [decide_eq_true_eq, decide_eq_false_iff_not] at *; omega) | (simp at *; omega)))) rfl rfl ?_
    refine SL.op (OpT.plain rfl (OpOk.loadRef ty_9 (Typ.tmp rfl))) rfl rfl ?_
    refine SL.op (OpT.plain rfl (OpOk.call Tryz.call61 Typ.fn (Typs.cons (Typ.tmp rfl) Typs.nil) (s_innkeepref02_Number _))) rfl rfl ?_
    refine SL.op (OpT.plain rfl (OpOk.move (Typ.tmp rfl))) rfl rfl ?_
    refine SL.op (OpT.plain rfl (OpOk.extract (Typ.tmp rfl) rfl)) rfl rfl ?_
    refine SL.op (OpT.plain rfl (OpOk.extract (Typ.tmp rfl) rfl)) rfl rfl ?_
    refine SL.op (OpT.plain rfl (OpOk.assign (Typ.tmp rfl))) rfl rfl ?_
    refine SL.op (OpT.plain rfl (OpOk.assign (Typ.tmp rfl))) rfl rfl ?_
    refine SL.nil ?_
    refine SK.code ?_
    refine SC.seq ?_
    refine SC.region ?_
    refine SL.op (OpT.plain rfl (OpOk.move (Typ.tmp rfl))) rfl rfl ?_
    refine SL.op (OpT.plain rfl (OpOk.assign (Typ.tmp rfl))) rfl rfl ?_
    refine SL.nil ?_
    refine SK.code ?_
    refine SC.ret ?_
    exact SR.one rfl (ResT.eq rfl (by first | ((unfold atR; rw [if_pos (by assumption)])) | ((unfold atR; rw [if_neg (by omega)])) | rfl | (simp_all []; done) | (simp_all []; rfl) | (simp_all []; omega)))

/-- a command's words -/
def wordsR (c : Cmd) : List Str := nameK c.kind :: (if c.kind = 1 then [wayD c.dir] else if c.kind = 2 then [wordR c.who, wayD c.dir] else if c.kind = 3 ∨ c.kind = 4 then [wordR c.item]
  else if c.kind = 5 then [wordR c.item, [105, 110], wordR c.box] else if c.kind = 6 then [wordR c.item, [102, 114, 111, 109], wordR c.box] else if c.kind = 7 then [wordR c.item, [116, 111], wordR c.who]
  else if c.kind = 8 then [wordR c.who, [103, 105, 118, 101]] ++ c.gives.map wordR ++ [[99, 111, 105, 110, 115], wordR c.pay, [102, 111, 114]] ++ c.wants.map wordR ++ [[99, 111, 105, 110, 115], wordR c.fee] else [])
theorem mayR_len {c : Cmd} (h : mayR c = true) : c.gives.length ≤ 16 ∧ c.wants.length ≤ 16 := by
  unfold mayR at h
  simp only [Bool.and_eq_true] at h
  obtain ⟨_, ⟨_, h1⟩, h2⟩ := h
  have key : ∀ (b : Bool) (l : List Int), rowH b l = true → l.length ≤ 16 := by
    intro b l h
    unfold rowH at h
    split at h
    · unfold rowB at h; simp at h; exact h.2
    · simp at h; rw [h]; simp
  exact ⟨key _ _ h1, key _ _ h2⟩

/-! innkeep/innkeepref04.Words -/
theorem s_innkeepref04_Words (c : Cmd) (hm : mayR c = true) : FnSpec Tryz.prog glob 36 [V c] (V (wordsR c)) := by
  refine FnSpec.enter Tryz.func36 rfl rfl rfl fun m0 w0 => ?_
  have hl := mayR_len hm
  have hl1 := hl.1
  have hl2 := hl.2
  refine SC.seq ?_
  refine SC.region ?_
  refine SL.op (OpT.plain rfl (OpOk.boxRef (Typ.tmp rfl))) rfl rfl ?_
  refine SL.op (OpT.plain rfl (OpOk.assign (Typ.cnil (α := Str)))) rfl rfl ?_
  refine SL.nil ?_
  refine SK.code ?_
  refine SC.seq ?_
  refine SC.region ?_
  refine SL.op (OpT.plain rfl (OpOk.fieldAddrRef fld_29_0 (Typ.tmp rfl))) rfl rfl ?_
  refine SL.op (OpT.plain rfl (OpOk.loadRef ty_3 (Typ.tmp rfl))) rfl rfl ?_
  refine SL.op (OpT.plain rfl (OpOk.call Tryz.call30 Typ.fn (Typs.cons (Typ.tmp rfl) Typs.nil) (s_innkeepref03_Name _))) rfl rfl ?_
  refine SL.sliceOwn lit_22_1 (parts := [(0, Operand.tmp 8)]) rfl (TypL.cons (Typ.tmp rfl) TypL.nil) rfl fun v1 => ?_
  refine SL.op (OpT.plain rfl (OpOk.assign (Typ.tmp rfl))) rfl rfl ?_
  refine SL.nil ?_
  refine SK.code ?_
  refine SC.seq ?_
  refine SC.seq ?_
  refine SC.region ?_
  refine SL.op (OpT.plain rfl (OpOk.fieldAddrRef fld_29_0 (Typ.tmp rfl))) rfl rfl ?_
  refine SL.op (OpT.plain rfl (OpOk.loadRef ty_3 (Typ.tmp rfl))) rfl rfl ?_
  refine SL.nil ?_
  refine SK.code ?_
  refine SC.block ?_
  refine SC.seq ?_
  refine SC.region ?_
  refine SL.op (OpT.plain rfl (OpOk.eql (Typ.tmp rfl) Typ.cint)) rfl rfl ?_
  refine SL.op (OpT.plain rfl (OpOk.assign (Typ.tmp rfl))) rfl rfl ?_
  refine SL.nil ?_
  refine SK.code ?_
  refine SC.cond rfl (fun _ _ h => V_bool h) (fun h2 => ?_) (fun h2 => ?_)
  · skip
    try simp only [decide_eq_true_eq, decide_eq_false_iff_not, Bool.and_eq_true, Bool.or_eq_true, Bool.not_eq_true', Bool.not_eq_false', Bool.and_eq_false_iff, Bool.or_eq_false_iff, Bool.not_not, Bool.not_true, Bool.not_false, ne_eq, Classical.not_not, Decidable.not_not] at h2
    refine SC.region ?_
    refine SL.op (OpT.plain rfl (OpOk.move (Typ.tmp rfl))) rfl rfl ?_
    refine SL.op (OpT.plain rfl (OpOk.fieldAddrRef fld_29_1 (Typ.tmp rfl))) rfl rfl ?_
    refine SL.op (OpT.plain rfl (OpOk.loadRef ty_3 (Typ.tmp rfl))) rfl rfl ?_
    refine SL.op (OpT.plain rfl (OpOk.call Tryz.call60 Typ.fn (Typs.cons (Typ.tmp rfl) Typs.nil) (s_innkeepref03_Way _))) rfl rfl ?_
    refine SL.op (OpT.plain rfl (OpOk.buildSlice lit_22_1 (parts := [(0, Operand.tmp 17)]) rfl (TypL.cons (Typ.tmp rfl) TypL.nil))) rfl rfl ?_
    obtain ⟨by_, hby, htyi⟩ := tyi_22
    refine SL.append Tryz.underlying22 htyi (i := 0) rfl (Typ.tmp rfl) (Typ.tmp rfl) (by simp) ?_ ?_ rfl fun v3 => ?_
    · exact (by refine Nat.le_trans (Nat.mul_le_mul (Nat.le_refl _) hby) ?_; first | omega | (simp; done) | (simp; omega) | (simp only [Cmd.s_kind, Cmd.s_dir, Cmd.s_item, Cmd.s_box, Cmd.s_who, Cmd.s_gives, Cmd.s_pay, Cmd.s_wants, Cmd.s_fee]; simp; omega) | (simp at *; omega))
    · exact (by unfold maxLen; first | omega | (simp; done) | (simp; omega) | (simp only [Cmd.s_kind, Cmd.s_dir, Cmd.s_item, Cmd.s_box, Cmd.s_who, Cmd.s_gives, Cmd.s_pay, Cmd.s_wants, Cmd.s_fee]; simp; omega) | (simp at *; omega))
    clear htyi hby
    refine SL.op (OpT.plain rfl (OpOk.assign (Typ.tmp rfl))) rfl rfl ?_
    refine SL.nil ?_
    refine SK.blk ?_
    refine SK.code ?_
    refine SC.seq ?_
    refine SC.region ?_
    refine SL.op (OpT.plain rfl (OpOk.move (Typ.tmp rfl))) rfl rfl ?_
    refine SL.op (OpT.plain rfl (OpOk.assign (Typ.tmp rfl))) rfl rfl ?_
    refine SL.nil ?_
    refine SK.code ?_
    refine SC.ret ?_
    refine SR.publishRow (t := 2) (i := 0) rfl rfl ?_
    exact SR.one rfl (ResT.eq rfl (by first | ((unfold wordsR; simp_all; done)) | rfl | (simp_all []; done) | (simp_all []; rfl) | (simp_all []; omega)))
  · skip
    try simp only [decide_eq_true_eq, decide_eq_false_iff_not, Bool.and_eq_true, Bool.or_eq_true, Bool.not_eq_true', Bool.not_eq_false', Bool.and_eq_false_iff, Bool.or_eq_false_iff, Bool.not_not, Bool.not_true, Bool.not_false, ne_eq, Classical.not_not, Decidable.not_not] at h2
    refine SC.seq ?_
    refine SC.region ?_
    refine SL.op (OpT.plain rfl (OpOk.eql (Typ.tmp rfl) Typ.cint)) rfl rfl ?_
    refine SL.op (OpT.plain rfl (OpOk.assign (Typ.tmp rfl))) rfl rfl ?_
    refine SL.nil ?_
    refine SK.code ?_
    refine SC.cond rfl (fun _ _ h => V_bool h) (fun h4 => ?_) (fun h4 => ?_)
    · skip
      try simp only [decide_eq_true_eq, decide_eq_false_iff_not, Bool.and_eq_true, Bool.or_eq_true, Bool.not_eq_true', Bool.not_eq_false', Bool.and_eq_false_iff, Bool.or_eq_false_iff, Bool.not_not, Bool.not_true, Bool.not_false, ne_eq, Classical.not_not, Decidable.not_not] at h4
      refine DR.start ?_
      refine DR.op (fun _ => (OpT.plain rfl (OpOk.move (Typ.tmp rfl)))) rfl rfl ?_
      refine DR.op (fun _ => (OpT.plain rfl (OpOk.fieldAddrRef fld_29_4 (Typ.tmp rfl)))) rfl rfl ?_
      refine DR.op (fun _ => (OpT.plain rfl (OpOk.loadRef ty_3 (Typ.tmp rfl)))) rfl rfl ?_
      refine DR.op (fun _ => (OpT.plain rfl (OpOk.call Tryz.call62 Typ.fn (Typs.cons (Typ.tmp rfl) Typs.nil) (s_innkeepref04_n _)))) rfl rfl ?_
      refine DR.op (fun _ => (OpT.plain rfl (OpOk.fieldAddrRef fld_29_1 (Typ.tmp rfl)))) rfl rfl ?_
      refine DR.op (fun _ => (OpT.plain rfl (OpOk.loadRef ty_3 (Typ.tmp rfl)))) rfl rfl ?_
      refine DR.op (fun _ => (OpT.plain rfl (OpOk.call Tryz.call60 Typ.fn (Typs.cons (Typ.tmp rfl) Typs.nil) (s_innkeepref03_Way _)))) rfl rfl ?_
      refine DR.op (fun _ => (OpT.plain rfl (OpOk.buildSlice lit_22_2 (parts := [(0, Operand.tmp 25), (1, Operand.tmp 28)]) rfl (TypL.cons (Typ.tmp rfl) (TypL.cons (Typ.tmp rfl) TypL.nil))))) rfl rfl ?_
      refine DR.tail rfl (by decide +kernel) (show dstBelow _ 126 = true by decide +kernel) rfl ?_
      obtain ⟨by_, hby, htyi⟩ := tyi_22
      refine SL.append Tryz.underlying22 htyi (i := 0) rfl (Typ.tmp rfl) (Typ.tmp rfl) (by simp) ?_ ?_ rfl fun v5 => ?_
      · exact (by refine Nat.le_trans (Nat.mul_le_mul (Nat.le_refl _) hby) ?_; first | omega | (simp; done) | (simp; omega) | (simp only [Cmd.s_kind, Cmd.s_dir, Cmd.s_item, Cmd.s_box, Cmd.s_who, Cmd.s_gives, Cmd.s_pay, Cmd.s_wants, Cmd.s_fee]; simp; omega) | (simp at *; omega))
      · exact (by unfold maxLen; first | omega | (simp; done) | (simp; omega) | (simp only [Cmd.s_kind, Cmd.s_dir, Cmd.s_item, Cmd.s_box, Cmd.s_who, Cmd.s_gives, Cmd.s_pay, Cmd.s_wants, Cmd.s_fee]; simp; omega) | (simp at *; omega))
      clear htyi hby
      refine SL.op (OpT.plain rfl (OpOk.assign (Typ.tmp rfl))) rfl rfl ?_
      refine SL.nil ?_
      refine SK.blk ?_
      refine SK.code ?_
      refine SC.seq ?_
      refine SC.region ?_
      refine SL.op (OpT.plain rfl (OpOk.move (Typ.tmp rfl))) rfl rfl ?_
      refine SL.op (OpT.plain rfl (OpOk.assign (Typ.tmp rfl))) rfl rfl ?_
      refine SL.nil ?_
      refine SK.code ?_
      refine SC.ret ?_
      refine SR.publishRow (t := 2) (i := 0) rfl rfl ?_
      exact SR.one rfl (ResT.eq rfl (by first | ((unfold wordsR; simp_all; done)) | rfl | (simp_all []; done) | (simp_all []; rfl) | (simp_all []; omega)))
    · skip
      try simp only [decide_eq_true_eq, decide_eq_false_iff_not, Bool.and_eq_true, Bool.or_eq_true, Bool.not_eq_true', Bool.not_eq_false', Bool.and_eq_false_iff, Bool.or_eq_false_iff, Bool.not_not, Bool.not_true, Bool.not_false, ne_eq, Classical.not_not, Decidable.not_not] at h4
      refine SC.seq ?_
      refine SC.seq ?_
      refine SC.region ?_
      refine SL.op (OpT.plain rfl (OpOk.eql (Typ.tmp rfl) Typ.cint)) rfl rfl ?_
      refine SL.op (OpT.plain rfl (OpOk.assign (Typ.tmp rfl))) rfl rfl ?_
      refine SL.nil ?_
      refine SK.code ?_
      refine SC.cond rfl (fun _ _ h => V_bool h) (fun h6 => ?_) (fun h6 => ?_)
      · skip
        try simp only [decide_eq_true_eq, decide_eq_false_iff_not, Bool.and_eq_true, Bool.or_eq_true, Bool.not_eq_true', Bool.not_eq_false', Bool.and_eq_false_iff, Bool.or_eq_false_iff, Bool.not_not, Bool.not_true, Bool.not_false, ne_eq, Classical.not_not, Decidable.not_not] at h6
        refine SC.skip ?_
        refine SK.code ?_
        refine SC.cond rfl (fun _ _ h => V_bool h) (fun h7 => ?_) (fun h7 => ?_)
        · skip
          try simp only [decide_eq_true_eq, decide_eq_false_iff_not, Bool.and_eq_true, Bool.or_eq_true, Bool.not_eq_true', Bool.not_eq_false', Bool.and_eq_false_iff, Bool.or_eq_false_iff, Bool.not_not, Bool.not_true, Bool.not_false, ne_eq, Classical.not_not, Decidable.not_not] at h7
          refine SC.region ?_
          refine SL.op (OpT.plain rfl (OpOk.move (Typ.tmp rfl))) rfl rfl ?_
          refine SL.op (OpT.plain rfl (OpOk.fieldAddrRef fld_29_2 (Typ.tmp rfl))) rfl rfl ?_
          refine SL.op (OpT.plain rfl (OpOk.loadRef ty_3 (Typ.tmp rfl))) rfl rfl ?_
          refine SL.op (OpT.plain rfl (OpOk.call Tryz.call62 Typ.fn (Typs.cons (Typ.tmp rfl) Typs.nil) (s_innkeepref04_n _))) rfl rfl ?_
          refine SL.op (OpT.plain rfl (OpOk.buildSlice lit_22_1 (parts := [(0, Operand.tmp 37)]) rfl (TypL.cons (Typ.tmp rfl) TypL.nil))) rfl rfl ?_
          obtain ⟨by_, hby, htyi⟩ := tyi_22
          refine SL.append Tryz.underlying22 htyi (i := 0) rfl (Typ.tmp rfl) (Typ.tmp rfl) (by simp) ?_ ?_ rfl fun v8 => ?_
          · exact (by refine Nat.le_trans (Nat.mul_le_mul (Nat.le_refl _) hby) ?_; first | omega | (simp; done) | (simp; omega) | (simp only [Cmd.s_kind, Cmd.s_dir, Cmd.s_item, Cmd.s_box, Cmd.s_who, Cmd.s_gives, Cmd.s_pay, Cmd.s_wants, Cmd.s_fee]; simp; omega) | (simp at *; omega))
          · exact (by unfold maxLen; first | omega | (simp; done) | (simp; omega) | (simp only [Cmd.s_kind, Cmd.s_dir, Cmd.s_item, Cmd.s_box, Cmd.s_who, Cmd.s_gives, Cmd.s_pay, Cmd.s_wants, Cmd.s_fee]; simp; omega) | (simp at *; omega))
          clear htyi hby
          refine SL.op (OpT.plain rfl (OpOk.assign (Typ.tmp rfl))) rfl rfl ?_
          refine SL.nil ?_
          refine SK.blk ?_
          refine SK.code ?_
          refine SC.seq ?_
          refine SC.region ?_
          refine SL.op (OpT.plain rfl (OpOk.move (Typ.tmp rfl))) rfl rfl ?_
          refine SL.op (OpT.plain rfl (OpOk.assign (Typ.tmp rfl))) rfl rfl ?_
          refine SL.nil ?_
          refine SK.code ?_
          refine SC.ret ?_
          refine SR.publishRow (t := 2) (i := 0) rfl rfl ?_
          exact SR.one rfl (ResT.eq rfl (by first | ((unfold wordsR; simp_all; done)) | rfl | (simp_all []; done) | (simp_all []; rfl) | (simp_all []; omega)))
        · skip
          try simp only [decide_eq_true_eq, decide_eq_false_iff_not, Bool.and_eq_true, Bool.or_eq_true, Bool.not_eq_true', Bool.not_eq_false', Bool.and_eq_false_iff, Bool.or_eq_false_iff, Bool.not_not, Bool.not_true, Bool.not_false, ne_eq, Classical.not_not, Decidable.not_not] at h7
          first | contradiction | (exfalso; omega) | (exfalso; simp_all; done)
      · skip
        try simp only [decide_eq_true_eq, decide_eq_false_iff_not, Bool.and_eq_true, Bool.or_eq_true, Bool.not_eq_true', Bool.not_eq_false', Bool.and_eq_false_iff, Bool.or_eq_false_iff, Bool.not_not, Bool.not_true, Bool.not_false, ne_eq, Classical.not_not, Decidable.not_not] at h6
        refine SC.region ?_
        refine SL.op (OpT.plain rfl (OpOk.eql (Typ.tmp rfl) Typ.cint)) rfl rfl ?_
        refine SL.op (OpT.plain rfl (OpOk.assign (Typ.tmp rfl))) rfl rfl ?_
        refine SL.nil ?_
        refine SK.code ?_
        refine SC.cond rfl (fun _ _ h => V_bool h) (fun h9 => ?_) (fun h9 => ?_)
        · skip
          try simp only [decide_eq_true_eq, decide_eq_false_iff_not, Bool.and_eq_true, Bool.or_eq_true, Bool.not_eq_true', Bool.not_eq_false', Bool.and_eq_false_iff, Bool.or_eq_false_iff, Bool.not_not, Bool.not_true, Bool.not_false, ne_eq, Classical.not_not, Decidable.not_not] at h9
          refine SC.region ?_
          refine SL.op (OpT.plain rfl (OpOk.move (Typ.tmp rfl))) rfl rfl ?_
          refine SL.op (OpT.plain rfl (OpOk.fieldAddrRef fld_29_2 (Typ.tmp rfl))) rfl rfl ?_
          refine SL.op (OpT.plain rfl (OpOk.loadRef ty_3 (Typ.tmp rfl))) rfl rfl ?_
          refine SL.op (OpT.plain rfl (OpOk.call Tryz.call62 Typ.fn (Typs.cons (Typ.tmp rfl) Typs.nil) (s_innkeepref04_n _))) rfl rfl ?_
          refine SL.op (OpT.plain rfl (OpOk.buildSlice lit_22_1 (parts := [(0, Operand.tmp 37)]) rfl (TypL.cons (Typ.tmp rfl) TypL.nil))) rfl rfl ?_
          obtain ⟨by_, hby, htyi⟩ := tyi_22
          refine SL.append Tryz.underlying22 htyi (i := 0) rfl (Typ.tmp rfl) (Typ.tmp rfl) (by simp) ?_ ?_ rfl fun v10 => ?_
          · exact (by refine Nat.le_trans (Nat.mul_le_mul (Nat.le_refl _) hby) ?_; first | omega | (simp; done) | (simp; omega) | (simp only [Cmd.s_kind, Cmd.s_dir, Cmd.s_item, Cmd.s_box, Cmd.s_who, Cmd.s_gives, Cmd.s_pay, Cmd.s_wants, Cmd.s_fee]; simp; omega) | (simp at *; omega))
          · exact (by unfold maxLen; first | omega | (simp; done) | (simp; omega) | (simp only [Cmd.s_kind, Cmd.s_dir, Cmd.s_item, Cmd.s_box, Cmd.s_who, Cmd.s_gives, Cmd.s_pay, Cmd.s_wants, Cmd.s_fee]; simp; omega) | (simp at *; omega))
          clear htyi hby
          refine SL.op (OpT.plain rfl (OpOk.assign (Typ.tmp rfl))) rfl rfl ?_
          refine SL.nil ?_
          refine SK.blk ?_
          refine SK.code ?_
          refine SC.seq ?_
          refine SC.region ?_
          refine SL.op (OpT.plain rfl (OpOk.move (Typ.tmp rfl))) rfl rfl ?_
          refine SL.op (OpT.plain rfl (OpOk.assign (Typ.tmp rfl))) rfl rfl ?_
          refine SL.nil ?_
          refine SK.code ?_
          refine SC.ret ?_
          refine SR.publishRow (t := 2) (i := 0) rfl rfl ?_
          exact SR.one rfl (ResT.eq rfl (by first | ((unfold wordsR; simp_all; done)) | rfl | (simp_all []; done) | (simp_all []; rfl) | (simp_all []; omega)))
        · skip
          try simp only [decide_eq_true_eq, decide_eq_false_iff_not, Bool.and_eq_true, Bool.or_eq_true, Bool.not_eq_true', Bool.not_eq_false', Bool.and_eq_false_iff, Bool.or_eq_false_iff, Bool.not_not, Bool.not_true, Bool.not_false, ne_eq, Classical.not_not, Decidable.not_not] at h9
          refine SC.seq ?_
          refine SC.region ?_
          refine SL.op (OpT.plain rfl (OpOk.eql (Typ.tmp rfl) Typ.cint)) rfl rfl ?_
          refine SL.op (OpT.plain rfl (OpOk.assign (Typ.tmp rfl))) rfl rfl ?_
          refine SL.nil ?_
          refine SK.code ?_
          refine SC.cond rfl (fun _ _ h => V_bool h) (fun h11 => ?_) (fun h11 => ?_)
          · skip
            try simp only [decide_eq_true_eq, decide_eq_false_iff_not, Bool.and_eq_true, Bool.or_eq_true, Bool.not_eq_true', Bool.not_eq_false', Bool.and_eq_false_iff, Bool.or_eq_false_iff, Bool.not_not, Bool.not_true, Bool.not_false, ne_eq, Classical.not_not, Decidable.not_not] at h11
            refine DR.start ?_
            refine DR.op (fun _ => (OpT.plain rfl (OpOk.move (Typ.tmp rfl)))) rfl rfl ?_
            refine DR.op (fun _ => (OpT.plain rfl (OpOk.fieldAddrRef fld_29_2 (Typ.tmp rfl)))) rfl rfl ?_
            refine DR.op (fun _ => (OpT.plain rfl (OpOk.loadRef ty_3 (Typ.tmp rfl)))) rfl rfl ?_
            refine DR.op (fun _ => (OpT.plain rfl (OpOk.call Tryz.call62 Typ.fn (Typs.cons (Typ.tmp rfl) Typs.nil) (s_innkeepref04_n _)))) rfl rfl ?_
            refine DR.op (fun _ => (OpT.plain rfl (OpOk.fieldAddrRef fld_29_3 (Typ.tmp rfl)))) rfl rfl ?_
            refine DR.op (fun _ => (OpT.plain rfl (OpOk.loadRef ty_3 (Typ.tmp rfl)))) rfl rfl ?_
            refine DR.op (fun _ => (OpT.plain rfl (OpOk.call Tryz.call62 Typ.fn (Typs.cons (Typ.tmp rfl) Typs.nil) (s_innkeepref04_n _)))) rfl rfl ?_
            refine DR.op (fun _ => (OpT.plain rfl (OpOk.buildSlice lit_22_3 (parts := [(0, Operand.tmp 45), (1, Operand.const (Value.string ⟨[105, 110].toArray⟩)), (2, Operand.tmp 48)]) rfl (TypL.cons (Typ.tmp rfl) (TypL.cons (Typ.cstr (l := [105, 110])) (TypL.cons (Typ.tmp rfl) TypL.nil)))))) rfl rfl ?_
            refine DR.tail rfl (by decide +kernel) (show dstBelow _ 126 = true by decide +kernel) rfl ?_
            obtain ⟨by_, hby, htyi⟩ := tyi_22
            refine SL.append Tryz.underlying22 htyi (i := 0) rfl (Typ.tmp rfl) (Typ.tmp rfl) (by simp) ?_ ?_ rfl fun v12 => ?_
            · exact (by refine Nat.le_trans (Nat.mul_le_mul (Nat.le_refl _) hby) ?_; first | omega | (simp; done) | (simp; omega) | (simp only [Cmd.s_kind, Cmd.s_dir, Cmd.s_item, Cmd.s_box, Cmd.s_who, Cmd.s_gives, Cmd.s_pay, Cmd.s_wants, Cmd.s_fee]; simp; omega) | (simp at *; omega))
            · exact (by unfold maxLen; first | omega | (simp; done) | (simp; omega) | (simp only [Cmd.s_kind, Cmd.s_dir, Cmd.s_item, Cmd.s_box, Cmd.s_who, Cmd.s_gives, Cmd.s_pay, Cmd.s_wants, Cmd.s_fee]; simp; omega) | (simp at *; omega))
            clear htyi hby
            refine SL.op (OpT.plain rfl (OpOk.assign (Typ.tmp rfl))) rfl rfl ?_
            refine SL.nil ?_
            refine SK.blk ?_
            refine SK.code ?_
            refine SC.seq ?_
            refine SC.region ?_
            refine SL.op (OpT.plain rfl (OpOk.move (Typ.tmp rfl))) rfl rfl ?_
            refine SL.op (OpT.plain rfl (OpOk.assign (Typ.tmp rfl))) rfl rfl ?_
            refine SL.nil ?_
            refine SK.code ?_
            refine SC.ret ?_
            refine SR.publishRow (t := 2) (i := 0) rfl rfl ?_
            exact SR.one rfl (ResT.eq rfl (by first | ((unfold wordsR; simp_all; done)) | rfl | (simp_all []; done) | (simp_all []; rfl) | (simp_all []; omega)))
          · skip
            try simp only [decide_eq_true_eq, decide_eq_false_iff_not, Bool.and_eq_true, Bool.or_eq_true, Bool.not_eq_true', Bool.not_eq_false', Bool.and_eq_false_iff, Bool.or_eq_false_iff, Bool.not_not, Bool.not_true, Bool.not_false, ne_eq, Classical.not_not, Decidable.not_not] at h11
            refine SC.seq ?_
            refine SC.region ?_
            refine SL.op (OpT.plain rfl (OpOk.eql (Typ.tmp rfl) Typ.cint)) rfl rfl ?_
            refine SL.op (OpT.plain rfl (OpOk.assign (Typ.tmp rfl))) rfl rfl ?_
            refine SL.nil ?_
            refine SK.code ?_
            refine SC.cond rfl (fun _ _ h => V_bool h) (fun h13 => ?_) (fun h13 => ?_)
            · skip
              try simp only [decide_eq_true_eq, decide_eq_false_iff_not, Bool.and_eq_true, Bool.or_eq_true, Bool.not_eq_true', Bool.not_eq_false', Bool.and_eq_false_iff, Bool.or_eq_false_iff, Bool.not_not, Bool.not_true, Bool.not_false, ne_eq, Classical.not_not, Decidable.not_not] at h13
              refine DR.start ?_
              refine DR.op (fun _ => (OpT.plain rfl (OpOk.move (Typ.tmp rfl)))) rfl rfl ?_
              refine DR.op (fun _ => (OpT.plain rfl (OpOk.fieldAddrRef fld_29_2 (Typ.tmp rfl)))) rfl rfl ?_
              refine DR.op (fun _ => (OpT.plain rfl (OpOk.loadRef ty_3 (Typ.tmp rfl)))) rfl rfl ?_
              refine DR.op (fun _ => (OpT.plain rfl (OpOk.call Tryz.call62 Typ.fn (Typs.cons (Typ.tmp rfl) Typs.nil) (s_innkeepref04_n _)))) rfl rfl ?_
              refine DR.op (fun _ => (OpT.plain rfl (OpOk.fieldAddrRef fld_29_3 (Typ.tmp rfl)))) rfl rfl ?_
              refine DR.op (fun _ => (OpT.plain rfl (OpOk.loadRef ty_3 (Typ.tmp rfl)))) rfl rfl ?_
              refine DR.op (fun _ => (OpT.plain rfl (OpOk.call Tryz.call62 Typ.fn (Typs.cons (Typ.tmp rfl) Typs.nil) (s_innkeepref04_n _)))) rfl rfl ?_
              refine DR.op (fun _ => (OpT.plain rfl (OpOk.buildSlice lit_22_3 (parts := [(0, Operand.tmp 56), (1, Operand.const (Value.string ⟨[102, 114, 111, 109].toArray⟩)), (2, Operand.tmp 59)]) rfl (TypL.cons (Typ.tmp rfl) (TypL.cons (Typ.cstr (l := [102, 114, 111, 109])) (TypL.cons (Typ.tmp rfl) TypL.nil)))))) rfl rfl ?_
              refine DR.tail rfl (by decide +kernel) (show dstBelow _ 126 = true by decide +kernel) rfl ?_
              obtain ⟨by_, hby, htyi⟩ := tyi_22
              refine SL.append Tryz.underlying22 htyi (i := 0) rfl (Typ.tmp rfl) (Typ.tmp rfl) (by simp) ?_ ?_ rfl fun v14 => ?_
              · exact (by refine Nat.le_trans (Nat.mul_le_mul (Nat.le_refl _) hby) ?_; first | omega | (simp; done) | (simp; omega) | (simp only [Cmd.s_kind, Cmd.s_dir, Cmd.s_item, Cmd.s_box, Cmd.s_who, Cmd.s_gives, Cmd.s_pay, Cmd.s_wants, Cmd.s_fee]; simp; omega) | (simp at *; omega))
              · exact (by unfold maxLen; first | omega | (simp; done) | (simp; omega) | (simp only [Cmd.s_kind, Cmd.s_dir, Cmd.s_item, Cmd.s_box, Cmd.s_who, Cmd.s_gives, Cmd.s_pay, Cmd.s_wants, Cmd.s_fee]; simp; omega) | (simp at *; omega))
              clear htyi hby
              refine SL.op (OpT.plain rfl (OpOk.assign (Typ.tmp rfl))) rfl rfl ?_
              refine SL.nil ?_
              refine SK.blk ?_
              refine SK.code ?_
              refine SC.seq ?_
              refine SC.region ?_
              refine SL.op (OpT.plain rfl (OpOk.move (Typ.tmp rfl))) rfl rfl ?_
              refine SL.op (OpT.plain rfl (OpOk.assign (Typ.tmp rfl))) rfl rfl ?_
              refine SL.nil ?_
              refine SK.code ?_
              refine SC.ret ?_
              refine SR.publishRow (t := 2) (i := 0) rfl rfl ?_
              exact SR.one rfl (ResT.eq rfl (by first | ((unfold wordsR; simp_all; done)) | rfl | (simp_all []; done) | (simp_all []; rfl) | (simp_all []; omega)))
            · skip
              try simp only [decide_eq_true_eq, decide_eq_false_iff_not, Bool.and_eq_true, Bool.or_eq_true, Bool.not_eq_true', Bool.not_eq_false', Bool.and_eq_false_iff, Bool.or_eq_false_iff, Bool.not_not, Bool.not_true, Bool.not_false, ne_eq, Classical.not_not, Decidable.not_not] at h13
              refine SC.seq ?_
              refine SC.region ?_
              refine SL.op (OpT.plain rfl (OpOk.eql (Typ.tmp rfl) Typ.cint)) rfl rfl ?_
              refine SL.op (OpT.plain rfl (OpOk.assign (Typ.tmp rfl))) rfl rfl ?_
              refine SL.nil ?_
              refine SK.code ?_
              refine SC.cond rfl (fun _ _ h => V_bool h) (fun h15 => ?_) (fun h15 => ?_)
              · skip
                try simp only [decide_eq_true_eq, decide_eq_false_iff_not, Bool.and_eq_true, Bool.or_eq_true, Bool.not_eq_true', Bool.not_eq_false', Bool.and_eq_false_iff, Bool.or_eq_false_iff, Bool.not_not, Bool.not_true, Bool.not_false, ne_eq, Classical.not_not, Decidable.not_not] at h15
                refine DR.start ?_
                refine DR.op (fun _ => (OpT.plain rfl (OpOk.move (Typ.tmp rfl)))) rfl rfl ?_
                refine DR.op (fun _ => (OpT.plain rfl (OpOk.fieldAddrRef fld_29_2 (Typ.tmp rfl)))) rfl rfl ?_
                refine DR.op (fun _ => (OpT.plain rfl (OpOk.loadRef ty_3 (Typ.tmp rfl)))) rfl rfl ?_
                refine DR.op (fun _ => (OpT.plain rfl (OpOk.call Tryz.call62 Typ.fn (Typs.cons (Typ.tmp rfl) Typs.nil) (s_innkeepref04_n _)))) rfl rfl ?_
                refine DR.op (fun _ => (OpT.plain rfl (OpOk.fieldAddrRef fld_29_4 (Typ.tmp rfl)))) rfl rfl ?_
                refine DR.op (fun _ => (OpT.plain rfl (OpOk.loadRef ty_3 (Typ.tmp rfl)))) rfl rfl ?_
                refine DR.op (fun _ => (OpT.plain rfl (OpOk.call Tryz.call62 Typ.fn (Typs.cons (Typ.tmp rfl) Typs.nil) (s_innkeepref04_n _)))) rfl rfl ?_
                refine DR.op (fun _ => (OpT.plain rfl (OpOk.buildSlice lit_22_3 (parts := [(0, Operand.tmp 67), (1, Operand.const (Value.string ⟨[116, 111].toArray⟩)), (2, Operand.tmp 70)]) rfl (TypL.cons (Typ.tmp rfl) (TypL.cons (Typ.cstr (l := [116, 111])) (TypL.cons (Typ.tmp rfl) TypL.nil)))))) rfl rfl ?_
                refine DR.tail rfl (by decide +kernel) (show dstBelow _ 126 = true by decide +kernel) rfl ?_
                obtain ⟨by_, hby, htyi⟩ := tyi_22
                refine SL.append Tryz.underlying22 htyi (i := 0) rfl (Typ.tmp rfl) (Typ.tmp rfl) (by simp) ?_ ?_ rfl fun v16 => ?_
                · exact (by refine Nat.le_trans (Nat.mul_le_mul (Nat.le_refl _) hby) ?_; first | omega | (simp; done) | (simp; omega) | (simp only [Cmd.s_kind, Cmd.s_dir, Cmd.s_item, Cmd.s_box, Cmd.s_who, Cmd.s_gives, Cmd.s_pay, Cmd.s_wants, Cmd.s_fee]; simp; omega) | (simp at *; omega))
                · exact (by unfold maxLen; first | omega | (simp; done) | (simp; omega) | (simp only [Cmd.s_kind, Cmd.s_dir, Cmd.s_item, Cmd.s_box, Cmd.s_who, Cmd.s_gives, Cmd.s_pay, Cmd.s_wants, Cmd.s_fee]; simp; omega) | (simp at *; omega))
                clear htyi hby
                refine SL.op (OpT.plain rfl (OpOk.assign (Typ.tmp rfl))) rfl rfl ?_
                refine SL.nil ?_
                refine SK.blk ?_
                refine SK.code ?_
                refine SC.seq ?_
                refine SC.region ?_
                refine SL.op (OpT.plain rfl (OpOk.move (Typ.tmp rfl))) rfl rfl ?_
                refine SL.op (OpT.plain rfl (OpOk.assign (Typ.tmp rfl))) rfl rfl ?_
                refine SL.nil ?_
                refine SK.code ?_
                refine SC.ret ?_
                refine SR.publishRow (t := 2) (i := 0) rfl rfl ?_
                exact SR.one rfl (ResT.eq rfl (by first | ((unfold wordsR; simp_all; done)) | rfl | (simp_all []; done) | (simp_all []; rfl) | (simp_all []; omega)))
              · skip
                try simp only [decide_eq_true_eq, decide_eq_false_iff_not, Bool.and_eq_true, Bool.or_eq_true, Bool.not_eq_true', Bool.not_eq_false', Bool.and_eq_false_iff, Bool.or_eq_false_iff, Bool.not_not, Bool.not_true, Bool.not_false, ne_eq, Classical.not_not, Decidable.not_not] at h15
                refine SC.seq ?_
                refine SC.region ?_
                refine SL.op (OpT.plain rfl (OpOk.eql (Typ.tmp rfl) Typ.cint)) rfl rfl ?_
                refine SL.op (OpT.plain rfl (OpOk.assign (Typ.tmp rfl))) rfl rfl ?_
                refine SL.nil ?_
                refine SK.code ?_
                refine SC.cond rfl (fun _ _ h => V_bool h) (fun h17 => ?_) (fun h17 => ?_)
                · skip
                  try simp only [decide_eq_true_eq, decide_eq_false_iff_not, Bool.and_eq_true, Bool.or_eq_true, Bool.not_eq_true', Bool.not_eq_false', Bool.and_eq_false_iff, Bool.or_eq_false_iff, Bool.not_not, Bool.not_true, Bool.not_false, ne_eq, Classical.not_not, Decidable.not_not] at h17
                  refine SC.seq ?_
                  refine SC.region ?_
                  refine SL.op (OpT.plain rfl (OpOk.move (Typ.tmp rfl))) rfl rfl ?_
                  refine SL.op (OpT.plain rfl (OpOk.fieldAddrRef fld_29_4 (Typ.tmp rfl))) rfl rfl ?_
                  refine SL.op (OpT.plain rfl (OpOk.loadRef ty_3 (Typ.tmp rfl))) rfl rfl ?_
                  refine SL.op (OpT.plain rfl (OpOk.call Tryz.call62 Typ.fn (Typs.cons (Typ.tmp rfl) Typs.nil) (s_innkeepref04_n _))) rfl rfl ?_
                  refine SL.op (OpT.plain rfl (OpOk.buildSlice lit_22_2 (parts := [(0, Operand.tmp 78), (1, Operand.const (Value.string ⟨[103, 105, 118, 101].toArray⟩))]) rfl (TypL.cons (Typ.tmp rfl) (TypL.cons (Typ.cstr (l := [103, 105, 118, 101])) TypL.nil)))) rfl rfl ?_
                  obtain ⟨by_, hby, htyi⟩ := tyi_22
                  refine SL.append Tryz.underlying22 htyi (i := 0) rfl (Typ.tmp rfl) (Typ.tmp rfl) (by simp) ?_ ?_ rfl fun v18 => ?_
                  · exact (by refine Nat.le_trans (Nat.mul_le_mul (Nat.le_refl _) hby) ?_; first | omega | (simp; done) | (simp; omega) | (simp only [Cmd.s_kind, Cmd.s_dir, Cmd.s_item, Cmd.s_box, Cmd.s_who, Cmd.s_gives, Cmd.s_pay, Cmd.s_wants, Cmd.s_fee]; simp; omega) | (simp at *; omega))
                  · exact (by unfold maxLen; first | omega | (simp; done) | (simp; omega) | (simp only [Cmd.s_kind, Cmd.s_dir, Cmd.s_item, Cmd.s_box, Cmd.s_who, Cmd.s_gives, Cmd.s_pay, Cmd.s_wants, Cmd.s_fee]; simp; omega) | (simp at *; omega))
                  clear htyi hby
                  refine SL.op (OpT.plain rfl (OpOk.assign (Typ.tmp rfl))) rfl rfl ?_
                  refine SL.nil ?_
                  refine SK.code ?_
                  refine SC.seq ?_
                  refine SC.seq ?_
                  refine SC.region ?_
                  refine SL.op (OpT.plain rfl (OpOk.assign Typ.cint)) rfl rfl ?_
                  refine SL.nil ?_
                  refine SK.code ?_
                  refine SC.block ?_
                  refine SC.loopK (σ := Nat × Value) [1, 2] (fun st => [(4, V (st.1 : Int)), (3, .eq st.2)]) (fun st Δ => [Own.row st.2 9 (([nameK c.kind] ++ [wordR c.who, [103, 105, 118, 101]]) ++ (c.gives.take st.1).map wordR)]) (fun st => c.gives.length - st.1) (fun st => st.1 ≤ c.gives.length) ((0, v18)) (by simp) (by simp) (Subs.eq rfl (by first | rfl | omega | (simp; done) | (simp_all; done) | (simp_all; omega)) (Subs.one rfl Subs.nil)) (fun st hga => ?_)
                  obtain ⟨i_hga, v_hga⟩ := st
                  dsimp only at hga ⊢
                  refine SC.seq ?_
                  refine SC.seq ?_
                  refine SC.region ?_
                  refine SL.op (OpT.plain rfl (OpOk.move (Typ.tmp rfl))) rfl rfl ?_
                  refine SL.op (OpT.plain rfl (OpOk.fieldAddrRef fld_29_5 (Typ.tmp rfl))) rfl rfl ?_
                  refine SL.op (OpT.plain rfl (OpOk.loadRef ty_27 (Typ.tmp rfl))) rfl rfl ?_
                  refine SL.op (OpT.plain rfl (OpOk.lenList Tryz.underlying27 (Typ.tmp rfl))) rfl rfl ?_
                  refine SL.op (OpT.plain rfl (OpOk.lss (Typ.tmp rfl) (Typ.tmp rfl))) rfl rfl ?_
                  refine SL.nil ?_
                  refine SK.code ?_
                  refine SC.cond rfl (fun _ _ h => V_bool h) (fun h19 => ?_) (fun h19 => ?_)
                  · skip
                    try simp only [decide_eq_true_eq, decide_eq_false_iff_not, Bool.and_eq_true, Bool.or_eq_true, Bool.not_eq_true', Bool.not_eq_false', Bool.and_eq_false_iff, Bool.or_eq_false_iff, Bool.not_not, Bool.not_true, Bool.not_false, ne_eq, Classical.not_not, Decidable.not_not] at h19
                    refine SC.skip ?_
                    refine SK.code ?_
                    refine SC.seq ?_
                    refine SC.block ?_
                    refine SC.region ?_
                    refine SL.op (OpT.plain rfl (OpOk.move (Typ.tmp rfl))) rfl rfl ?_
                    refine SL.op (OpT.plain rfl (OpOk.fieldAddrRef fld_29_5 (Typ.tmp rfl))) rfl rfl ?_
                    refine SL.op (OpT.plain rfl (OpOk.loadRef ty_27 (Typ.tmp rfl))) rfl rfl ?_
                    refine SL.op (OpT.plain rfl (OpOk.move (Typ.tmp rfl))) rfl rfl ?_
                    refine SL.op (OpT.plain rfl (OpOk.indexAddr Tryz.underlying27 ty_3 (Typ.tmp rfl) (Typ.tmp rfl) (by first | omega | (simp only [decide_eq_true_eq, decide_eq_false_iff_not] at *; omega) | (simp at *; omega)) (by first | omega | (simp only [decide_eq_true_eq, decide_eq_false_iff_not] at *; omega) | (simp at *; omega)))) rfl rfl ?_
                    refine SL.op (OpT.plain rfl (OpOk.loadRef ty_3 (Typ.tmp rfl))) rfl rfl ?_
                    refine SL.op (OpT.plain rfl (OpOk.call Tryz.call62 Typ.fn (Typs.cons (Typ.tmp rfl) Typs.nil) (s_innkeepref04_n _))) rfl rfl ?_
                    refine SL.op (OpT.plain rfl (OpOk.buildSlice lit_22_1 (parts := [(0, Operand.tmp 94)]) rfl (TypL.cons (Typ.tmp rfl) TypL.nil))) rfl rfl ?_
                    obtain ⟨by_, hby, htyi⟩ := tyi_22
                    refine SL.append Tryz.underlying22 htyi (i := 0) rfl (Typ.tmp rfl) (Typ.tmp rfl) (by simp) ?_ ?_ rfl fun v20 => ?_
                    · exact (by refine Nat.le_trans (Nat.mul_le_mul (Nat.le_refl _) hby) ?_; first | omega | (simp; done) | (simp; omega) | (simp only [Cmd.s_kind, Cmd.s_dir, Cmd.s_item, Cmd.s_box, Cmd.s_who, Cmd.s_gives, Cmd.s_pay, Cmd.s_wants, Cmd.s_fee]; simp; omega) | (simp at *; omega))
                    · exact (by unfold maxLen; first | omega | (simp; done) | (simp; omega) | (simp only [Cmd.s_kind, Cmd.s_dir, Cmd.s_item, Cmd.s_box, Cmd.s_who, Cmd.s_gives, Cmd.s_pay, Cmd.s_wants, Cmd.s_fee]; simp; omega) | (simp at *; omega))
                    clear htyi hby
                    refine SL.op (OpT.plain rfl (OpOk.assign (Typ.tmp rfl))) rfl rfl ?_
                    refine SL.nil ?_
                    refine SK.blk ?_
                    refine SK.code ?_
                    refine SC.region ?_
                    refine SL.op (OpT.plain rfl (OpOk.move (Typ.tmp rfl))) rfl rfl ?_
                    refine SL.op (OpT.plain rfl (OpOk.add (Typ.tmp rfl) Typ.cint (by unfold in64; first | omega | (simp at *; omega)))) rfl rfl ?_
                    refine SL.op (OpT.plain rfl (OpOk.assign (Typ.tmp rfl))) rfl rfl ?_
                    refine SL.nil ?_
                    refine SK.roundK ((i_hga + 1, v20)) (by simp only; omega) (by simp only; omega) (by rw [take_succ (by omega)]; simp) rfl (Subs.eq rfl (by first | rfl | omega | (simp; done) | (simp_all; done) | (simp_all; omega)) (Subs.one rfl Subs.nil))
                  · skip
                    try simp only [decide_eq_true_eq, decide_eq_false_iff_not, Bool.and_eq_true, Bool.or_eq_true, Bool.not_eq_true', Bool.not_eq_false', Bool.and_eq_false_iff, Bool.or_eq_false_iff, Bool.not_not, Bool.not_true, Bool.not_false, ne_eq, Classical.not_not, Decidable.not_not] at h19
                    refine SC.exit rfl ?_
                    refine SK.code ?_
                    refine SC.seq ?_
                    have tg : c.gives.take i_hga = c.gives := List.take_of_length_le (by omega)
                    refine SC.region ?_
                    refine SL.op (OpT.plain rfl (OpOk.move (Typ.tmp rfl))) rfl rfl ?_
                    refine SL.op (OpT.plain rfl (OpOk.fieldAddrRef fld_29_6 (Typ.tmp rfl))) rfl rfl ?_
                    refine SL.op (OpT.plain rfl (OpOk.loadRef ty_3 (Typ.tmp rfl))) rfl rfl ?_
                    refine SL.op (OpT.plain rfl (OpOk.call Tryz.call62 Typ.fn (Typs.cons (Typ.tmp rfl) Typs.nil) (s_innkeepref04_n _))) rfl rfl ?_
                    refine SL.op (OpT.plain rfl (OpOk.buildSlice lit_22_3 (parts := [(0, Operand.const (Value.string ⟨[99, 111, 105, 110, 115].toArray⟩)), (1, Operand.tmp 100), (2, Operand.const (Value.string ⟨[102, 111, 114].toArray⟩))]) rfl (TypL.cons (Typ.cstr (l := [99, 111, 105, 110, 115])) (TypL.cons (Typ.tmp rfl) (TypL.cons (Typ.cstr (l := [102, 111, 114])) TypL.nil))))) rfl rfl ?_
                    obtain ⟨by_, hby, htyi⟩ := tyi_22
                    refine SL.append Tryz.underlying22 htyi (i := 0) rfl (Typ.tmp rfl) (Typ.tmp rfl) (by simp) ?_ ?_ rfl fun v21 => ?_
                    · exact (by refine Nat.le_trans (Nat.mul_le_mul (Nat.le_refl _) hby) ?_; first | omega | (simp; done) | (simp; omega) | (simp only [Cmd.s_kind, Cmd.s_dir, Cmd.s_item, Cmd.s_box, Cmd.s_who, Cmd.s_gives, Cmd.s_pay, Cmd.s_wants, Cmd.s_fee]; simp; omega) | (simp at *; omega))
                    · exact (by unfold maxLen; first | omega | (simp; done) | (simp; omega) | (simp only [Cmd.s_kind, Cmd.s_dir, Cmd.s_item, Cmd.s_box, Cmd.s_who, Cmd.s_gives, Cmd.s_pay, Cmd.s_wants, Cmd.s_fee]; simp; omega) | (simp at *; omega))
                    clear htyi hby
                    refine SL.op (OpT.plain rfl (OpOk.assign (Typ.tmp rfl))) rfl rfl ?_
                    refine SL.nil ?_
                    refine SK.code ?_
                    refine SC.seq ?_
                    refine SC.seq ?_
                    refine SC.region ?_
                    refine SL.op (OpT.plain rfl (OpOk.assign Typ.cint)) rfl rfl ?_
                    refine SL.nil ?_
                    refine SK.code ?_
                    refine SC.block ?_
                    refine SC.loopK (σ := Nat × Value) [1, 2] (fun st => [(5, V (st.1 : Int)), (3, .eq st.2)]) (fun st Δ => [Own.row st.2 9 (([nameK c.kind] ++ [wordR c.who, [103, 105, 118, 101]] ++ c.gives.map wordR ++ [[99, 111, 105, 110, 115], wordR c.pay, [102, 111, 114]]) ++ (c.wants.take st.1).map wordR)]) (fun st => c.wants.length - st.1) (fun st => st.1 ≤ c.wants.length) ((0, v21)) (by simp) (by rw [tg]; simp) (Subs.eq rfl (by first | rfl | omega | (simp; done) | (simp_all; done) | (simp_all; omega)) (Subs.one rfl Subs.nil)) (fun st hgb => ?_)
                    obtain ⟨i_hgb, v_hgb⟩ := st
                    dsimp only at hgb ⊢
                    refine SC.seq ?_
                    refine SC.seq ?_
                    refine SC.region ?_
                    refine SL.op (OpT.plain rfl (OpOk.move (Typ.tmp rfl))) rfl rfl ?_
                    refine SL.op (OpT.plain rfl (OpOk.fieldAddrRef fld_29_7 (Typ.tmp rfl))) rfl rfl ?_
                    refine SL.op (OpT.plain rfl (OpOk.loadRef ty_27 (Typ.tmp rfl))) rfl rfl ?_
                    refine SL.op (OpT.plain rfl (OpOk.lenList Tryz.underlying27 (Typ.tmp rfl))) rfl rfl ?_
                    refine SL.op (OpT.plain rfl (OpOk.lss (Typ.tmp rfl) (Typ.tmp rfl))) rfl rfl ?_
                    refine SL.nil ?_
                    refine SK.code ?_
                    refine SC.cond rfl (fun _ _ h => V_bool h) (fun h22 => ?_) (fun h22 => ?_)
                    · skip
                      try simp only [decide_eq_true_eq, decide_eq_false_iff_not, Bool.and_eq_true, Bool.or_eq_true, Bool.not_eq_true', Bool.not_eq_false', Bool.and_eq_false_iff, Bool.or_eq_false_iff, Bool.not_not, Bool.not_true, Bool.not_false, ne_eq, Classical.not_not, Decidable.not_not] at h22
                      refine SC.skip ?_
                      refine SK.code ?_
                      refine SC.seq ?_
                      refine SC.block ?_
                      refine SC.region ?_
                      refine SL.op (OpT.plain rfl (OpOk.move (Typ.tmp rfl))) rfl rfl ?_
                      refine SL.op (OpT.plain rfl (OpOk.fieldAddrRef fld_29_7 (Typ.tmp rfl))) rfl rfl ?_
                      refine SL.op (OpT.plain rfl (OpOk.loadRef ty_27 (Typ.tmp rfl))) rfl rfl ?_
                      refine SL.op (OpT.plain rfl (OpOk.move (Typ.tmp rfl))) rfl rfl ?_
                      refine SL.op (OpT.plain rfl (OpOk.indexAddr Tryz.underlying27 ty_3 (Typ.tmp rfl) (Typ.tmp rfl) (by first | omega | (simp only [decide_eq_true_eq, decide_eq_false_iff_not] at *; omega) | (simp at *; omega)) (by first | omega | (simp only [decide_eq_true_eq, decide_eq_false_iff_not] at *; omega) | (simp at *; omega)))) rfl rfl ?_
                      refine SL.op (OpT.plain rfl (OpOk.loadRef ty_3 (Typ.tmp rfl))) rfl rfl ?_
                      refine SL.op (OpT.plain rfl (OpOk.call Tryz.call62 Typ.fn (Typs.cons (Typ.tmp rfl) Typs.nil) (s_innkeepref04_n _))) rfl rfl ?_
                      refine SL.op (OpT.plain rfl (OpOk.buildSlice lit_22_1 (parts := [(0, Operand.tmp 116)]) rfl (TypL.cons (Typ.tmp rfl) TypL.nil))) rfl rfl ?_
                      obtain ⟨by_, hby, htyi⟩ := tyi_22
                      refine SL.append Tryz.underlying22 htyi (i := 0) rfl (Typ.tmp rfl) (Typ.tmp rfl) (by simp) ?_ ?_ rfl fun v23 => ?_
                      · exact (by refine Nat.le_trans (Nat.mul_le_mul (Nat.le_refl _) hby) ?_; first | omega | (simp; done) | (simp; omega) | (simp only [Cmd.s_kind, Cmd.s_dir, Cmd.s_item, Cmd.s_box, Cmd.s_who, Cmd.s_gives, Cmd.s_pay, Cmd.s_wants, Cmd.s_fee]; simp; omega) | (simp at *; omega))
                      · exact (by unfold maxLen; first | omega | (simp; done) | (simp; omega) | (simp only [Cmd.s_kind, Cmd.s_dir, Cmd.s_item, Cmd.s_box, Cmd.s_who, Cmd.s_gives, Cmd.s_pay, Cmd.s_wants, Cmd.s_fee]; simp; omega) | (simp at *; omega))
                      clear htyi hby
                      refine SL.op (OpT.plain rfl (OpOk.assign (Typ.tmp rfl))) rfl rfl ?_
                      refine SL.nil ?_
                      refine SK.blk ?_
                      refine SK.code ?_
                      refine SC.region ?_
                      refine SL.op (OpT.plain rfl (OpOk.move (Typ.tmp rfl))) rfl rfl ?_
                      refine SL.op (OpT.plain rfl (OpOk.add (Typ.tmp rfl) Typ.cint (by unfold in64; first | omega | (simp at *; omega)))) rfl rfl ?_
                      refine SL.op (OpT.plain rfl (OpOk.assign (Typ.tmp rfl))) rfl rfl ?_
                      refine SL.nil ?_
                      refine SK.roundK ((i_hgb + 1, v23)) (by simp only; omega) (by simp only; omega) (by rw [take_succ (by omega)]; simp) rfl (Subs.eq rfl (by first | rfl | omega | (simp; done) | (simp_all; done) | (simp_all; omega)) (Subs.one rfl Subs.nil))
                    · skip
                      try simp only [decide_eq_true_eq, decide_eq_false_iff_not, Bool.and_eq_true, Bool.or_eq_true, Bool.not_eq_true', Bool.not_eq_false', Bool.and_eq_false_iff, Bool.or_eq_false_iff, Bool.not_not, Bool.not_true, Bool.not_false, ne_eq, Classical.not_not, Decidable.not_not] at h22
                      refine SC.exit rfl ?_
                      refine SK.code ?_
                      have tw : c.wants.take i_hgb = c.wants := List.take_of_length_le (by omega)
                      refine SC.region ?_
                      refine SL.op (OpT.plain rfl (OpOk.move (Typ.tmp rfl))) rfl rfl ?_
                      refine SL.op (OpT.plain rfl (OpOk.fieldAddrRef fld_29_8 (Typ.tmp rfl))) rfl rfl ?_
                      refine SL.op (OpT.plain rfl (OpOk.loadRef ty_3 (Typ.tmp rfl))) rfl rfl ?_
                      refine SL.op (OpT.plain rfl (OpOk.call Tryz.call62 Typ.fn (Typs.cons (Typ.tmp rfl) Typs.nil) (s_innkeepref04_n _))) rfl rfl ?_
                      refine SL.op (OpT.plain rfl (OpOk.buildSlice lit_22_2 (parts := [(0, Operand.const (Value.string ⟨[99, 111, 105, 110, 115].toArray⟩)), (1, Operand.tmp 122)]) rfl (TypL.cons (Typ.cstr (l := [99, 111, 105, 110, 115])) (TypL.cons (Typ.tmp rfl) TypL.nil)))) rfl rfl ?_
                      obtain ⟨by_, hby, htyi⟩ := tyi_22
                      refine SL.append Tryz.underlying22 htyi (i := 0) rfl (Typ.tmp rfl) (Typ.tmp rfl) (by simp) ?_ ?_ rfl fun v24 => ?_
                      · exact (by refine Nat.le_trans (Nat.mul_le_mul (Nat.le_refl _) hby) ?_; first | omega | (simp; done) | (simp; omega) | (simp only [Cmd.s_kind, Cmd.s_dir, Cmd.s_item, Cmd.s_box, Cmd.s_who, Cmd.s_gives, Cmd.s_pay, Cmd.s_wants, Cmd.s_fee]; simp; omega) | (simp at *; omega))
                      · exact (by unfold maxLen; first | omega | (simp; done) | (simp; omega) | (simp only [Cmd.s_kind, Cmd.s_dir, Cmd.s_item, Cmd.s_box, Cmd.s_who, Cmd.s_gives, Cmd.s_pay, Cmd.s_wants, Cmd.s_fee]; simp; omega) | (simp at *; omega))
                      clear htyi hby
                      refine SL.op (OpT.plain rfl (OpOk.assign (Typ.tmp rfl))) rfl rfl ?_
                      refine SL.nil ?_
                      refine SK.blk ?_
                      refine SK.code ?_
                      refine SC.seq ?_
                      refine SC.region ?_
                      refine SL.op (OpT.plain rfl (OpOk.move (Typ.tmp rfl))) rfl rfl ?_
                      refine SL.op (OpT.plain rfl (OpOk.assign (Typ.tmp rfl))) rfl rfl ?_
                      refine SL.nil ?_
                      refine SK.code ?_
                      refine SC.ret ?_
                      refine SR.publishRow (t := 2) (i := 0) rfl rfl ?_
                      exact SR.one rfl (ResT.eq rfl (by first | ((unfold wordsR; simp_all; done)) | rfl | (simp_all []; done) | (simp_all []; rfl) | (simp_all []; omega)))
                · skip
                  try simp only [decide_eq_true_eq, decide_eq_false_iff_not, Bool.and_eq_true, Bool.or_eq_true, Bool.not_eq_true', Bool.not_eq_false', Bool.and_eq_false_iff, Bool.or_eq_false_iff, Bool.not_not, Bool.not_true, Bool.not_false, ne_eq, Classical.not_not, Decidable.not_not] at h17
                  refine SC.skip ?_
                  refine SK.blk ?_
                  refine SK.code ?_
                  refine SC.seq ?_
                  refine SC.region ?_
                  refine SL.op (OpT.plain rfl (OpOk.move (Typ.tmp rfl))) rfl rfl ?_
                  refine SL.op (OpT.plain rfl (OpOk.assign (Typ.tmp rfl))) rfl rfl ?_
                  refine SL.nil ?_
                  refine SK.code ?_
                  refine SC.ret ?_
                  refine SR.publishRow (t := 2) (i := 0) rfl rfl ?_
                  exact SR.one rfl (ResT.eq rfl (by first | ((unfold wordsR; simp_all; done)) | rfl | (simp_all []; done) | (simp_all []; rfl) | (simp_all []; omega)))
end Go.Proofs.YtgnblhmejecgfaaGreatDoor
