/- Layer 4: a command's line, by the program and by the document. -/
import Derived.Test.YtgnblhmejecgfaaGreatDoorW
import Derived.Test.YtgnblhmejecgfaaGreatDoorKE
import Derived.WalkKit
import Derived.Lib.AppendZeros
import Derived.Lib.SliceRun
set_option linter.all false
namespace Go.Proofs.YtgnblhmejecgfaaGreatDoor
open Go Go.RowKit Go.Inn
set_option linter.unusedSimpArgs false
set_option linter.unusedVariables false
set_option maxRecDepth 100000
theorem snoc_ind {α : Type} {p : List α → Prop} (h0 : p []) (h1 : ∀ l x, p l → p (l ++ [x])) (l : List α) : p l := by
  have key : ∀ l : List α, p l.reverse := by
    intro l
    induction l with
    | nil => exact h0
    | cons x l ih => rw [List.reverse_cons]; exact h1 _ _ ih
  simpa using key l.reverse
theorem join_nil : join [] = [] := by simp [join, Lib.join]
theorem join_take_le (l : List Str) : ∀ (i : Nat), (join (l.take i)).length ≤ (join l).length := by
  induction l using snoc_ind with
  | h0 => simp
  | h1 l x ih =>
    intro i
    by_cases h : i ≤ l.length
    · rw [List.take_append_of_le_length h]
      refine Nat.le_trans (ih i) ?_
      rw [join_snoc]
      split
      · rename_i e; subst e; simp [join_nil]
      · simp; try omega
    · rw [List.take_of_length_le (by simp; omega)]; exact Nat.le_refl _
theorem join_mem_le {l : List Str} {x : Str} (h : x ∈ l) : x.length ≤ (join l).length := by
  induction l using snoc_ind with
  | h0 => cases h
  | h1 l y ih =>
    rw [join_snoc]
    rcases List.mem_append.1 h with h | h
    · have := ih h
      split
      · rename_i e; subst e; cases h
      · simp; omega
    · simp at h; subst h
      split
      · simp
      · simp; omega
theorem join_bound {l : List Str} (h : ∀ x, x ∈ l → x.length ≤ 100) : (join l).length ≤ 101 * l.length := by
  induction l using snoc_ind with
  | h0 => simp [join_nil]
  | h1 l y ih =>
    have h1 := ih fun x hx => h x (by simp [hx])
    have h2 := h y (by simp)
    rw [join_snoc]
    split
    · simp; omega
    · simp; omega
structure JoinInv (l : List Str) (i : Nat) (s : Str) : Prop where
  le : i ≤ l.length
  eq : s = join (l.take i)
theorem JoinInv.zero (l : List Str) : JoinInv l 0 [] := ⟨Nat.zero_le _, by simp [join_nil]⟩
theorem JoinInv.step {l : List Str} {i : Nat} {s : Str} (h : JoinInv l i s) (hi : (i : Int) < l.length) (h0 : 0 < (i : Int)) : JoinInv l (i + 1) (s ++ [32] ++ nth l (i : Int)) := by
  refine ⟨by omega, ?_⟩
  rw [take_succ (by omega), join_snoc, if_neg, ← h.eq]
  intro e
  have : (l.take i).length = 0 := by rw [e]; rfl
  rw [List.length_take] at this
  omega
theorem JoinInv.first {l : List Str} {i : Nat} {s : Str} (h : JoinInv l i s) (hi : (i : Int) < l.length) (h0 : ¬ 0 < (i : Int)) : JoinInv l (i + 1) (s ++ nth l (i : Int)) := by
  have e : i = 0 := by omega
  subst e
  refine ⟨by omega, ?_⟩
  rw [take_succ (by omega), h.eq, join_snoc]
  simp [join_nil]
theorem JoinInv.done {l : List Str} {i : Nat} {s : Str} (h : JoinInv l i s) (hi : ¬ (i : Int) < l.length) : s = join l := by
  rw [h.eq, List.take_of_length_le (by omega)]

/-! innkeep/innkeepref02.Join -/
theorem s_innkeepref02_Join (l : List Str) (hl0 : (join l).length ≤ 1000000000000) : FnSpec Tryz.prog glob 29 [V l] (V (join l)) := by
  refine FnSpec.enter Tryz.func29 rfl rfl rfl fun m0 w0 => ?_
  refine SC.learnList (t := 0) rfl fun hp0 => ?_
  refine SC.seq ?_
  refine SC.region ?_
  refine SL.op (OpT.plain rfl (OpOk.assign (Typ.cstr (l := [])))) rfl rfl ?_
  refine SL.nil ?_
  refine SK.code ?_
  refine SC.seq ?_
  refine SC.region ?_
  refine SL.op (OpT.plain rfl (OpOk.assign (Typ.cstr (l := [])))) rfl rfl ?_
  refine SL.nil ?_
  refine SK.code ?_
  refine SC.seq ?_
  refine SC.seq ?_
  refine SC.region ?_
  refine SL.op (OpT.plain rfl (OpOk.assign Typ.cint)) rfl rfl ?_
  refine SL.nil ?_
  refine SK.code ?_
  refine SC.block ?_
  refine SC.loopK (σ := Nat × Str) [0, 2] (fun st => [(4, V (st.1 : Int)), (3, V st.2)]) (fun st Δ => Δ) (fun st => l.length - st.1) (fun st => JoinInv l st.1 st.2) ((0, [])) (JoinInv.zero l) rfl (Subs.eq rfl (by first | rfl | omega | (simp; done) | (simp_all; done) | (simp_all; omega)) (Subs.eq rfl (by first | rfl | omega | (simp; done) | (simp_all; done) | (simp_all; omega)) Subs.nil)) (fun st hs => ?_)
  obtain ⟨i, s⟩ := st
  dsimp only at hs ⊢
  have q1 := hs.le
  have q2 : s.length ≤ (join l).length := by rw [hs.eq]; exact join_take_le l i
  refine SC.seq ?_
  refine SC.seq ?_
  refine SC.region ?_
  refine SL.op (OpT.plain rfl (OpOk.move (Typ.tmp rfl))) rfl rfl ?_
  refine SL.op (OpT.plain rfl (OpOk.move (Typ.tmp rfl))) rfl rfl ?_
  refine SL.op (OpT.plain rfl (OpOk.lenList Tryz.underlying22 (Typ.tmp rfl))) rfl rfl ?_
  refine SL.op (OpT.plain rfl (OpOk.lss (Typ.tmp rfl) (Typ.tmp rfl))) rfl rfl ?_
  refine SL.nil ?_
  refine SK.code ?_
  refine SC.cond rfl (fun _ _ h => V_bool h) (fun h1 => ?_) (fun h1 => ?_)
  · skip
    try simp only [decide_eq_true_eq, decide_eq_false_iff_not, Bool.and_eq_true, Bool.or_eq_true, Bool.not_eq_true', Bool.not_eq_false', Bool.and_eq_false_iff, Bool.or_eq_false_iff, Bool.not_not, Bool.not_true, Bool.not_false, ne_eq, Classical.not_not, Decidable.not_not] at h1
    refine SC.skip ?_
    refine SK.code ?_
    refine SC.seq ?_
    refine SC.block ?_
    refine SC.seq ?_
    refine SC.seq ?_
    refine SC.region ?_
    refine SL.op (OpT.plain rfl (OpOk.move (Typ.tmp rfl))) rfl rfl ?_
    refine SL.op (OpT.plain rfl (OpOk.gtr (Typ.tmp rfl) Typ.cint)) rfl rfl ?_
    refine SL.nil ?_
    refine SK.code ?_
    refine SC.cond rfl (fun _ _ h => V_bool h) (fun h2 => ?_) (fun h2 => ?_)
    · skip
      try simp only [decide_eq_true_eq, decide_eq_false_iff_not, Bool.and_eq_true, Bool.or_eq_true, Bool.not_eq_true', Bool.not_eq_false', Bool.and_eq_false_iff, Bool.or_eq_false_iff, Bool.not_not, Bool.not_true, Bool.not_false, ne_eq, Classical.not_not, Decidable.not_not] at h2
      refine SC.region ?_
      refine SL.op (OpT.plain rfl (OpOk.move (Typ.tmp rfl))) rfl rfl ?_
      refine SL.op (OpT.plain rfl (OpOk.addStr (Typ.tmp rfl) (Typ.cstr (l := [32])) (by unfold maxLen; first | omega | (simp; omega)))) rfl rfl ?_
      refine SL.op (OpT.plain rfl (OpOk.assign (Typ.tmp rfl))) rfl rfl ?_
      refine SL.nil ?_
      refine SK.code ?_
      have q3 := join_mem_le (nth_mem (xs := l) (i := (i : Int)) (by omega) (by omega))
      refine SC.region ?_
      refine SL.op (OpT.plain rfl (OpOk.move (Typ.tmp rfl))) rfl rfl ?_
      refine SL.op (OpT.plain rfl (OpOk.move (Typ.tmp rfl))) rfl rfl ?_
      refine SL.op (OpT.plain rfl (OpOk.move (Typ.tmp rfl))) rfl rfl ?_
      refine SL.op (OpT.plain rfl (OpOk.indexAddr Tryz.underlying22 ty_9 (Typ.tmp rfl) (Typ.tmp rfl) (by first | omega | (simp only [decide_eq_true_eq, decide_eq_false_iff_not] at *; omega) | (simp at *; omega)) (by first | omega | (simp only [decide_eq_true_eq, decide_eq_false_iff_not] at *; omega) | (simp at *; omega)))) rfl rfl ?_
      refine SL.op (OpT.plain rfl (OpOk.loadRef ty_9 (Typ.tmp rfl))) rfl rfl ?_
      refine SL.op (OpT.plain rfl (OpOk.addStr (Typ.tmp rfl) (Typ.tmp rfl) (by unfold maxLen; first | omega | (simp; omega)))) rfl rfl ?_
      refine SL.op (OpT.plain rfl (OpOk.assign (Typ.tmp rfl))) rfl rfl ?_
      refine SL.nil ?_
      refine SK.blk ?_
      refine SK.code ?_
      refine SC.region ?_
      refine SL.op (OpT.plain rfl (OpOk.move (Typ.tmp rfl))) rfl rfl ?_
      refine SL.op (OpT.plain rfl (OpOk.add (Typ.tmp rfl) Typ.cint (by unfold in64; first | omega | (simp at *; omega)))) rfl rfl ?_
      refine SL.op (OpT.plain rfl (OpOk.assign (Typ.tmp rfl))) rfl rfl ?_
      refine SL.nil ?_
      refine SK.roundK ((i + 1, s ++ [32] ++ nth l (i : Int))) (by simp only; omega) (by first | exact hs.step (by assumption) (by assumption) | exact hs.first (by assumption) (by assumption)) rfl rfl (Subs.eq rfl (by first | rfl | omega | (simp; done) | (simp_all; done) | (simp_all; omega)) (Subs.eq rfl (by first | rfl | omega | (simp; done) | (simp_all; done) | (simp_all; omega)) Subs.nil))
    · skip
      try simp only [decide_eq_true_eq, decide_eq_false_iff_not, Bool.and_eq_true, Bool.or_eq_true, Bool.not_eq_true', Bool.not_eq_false', Bool.and_eq_false_iff, Bool.or_eq_false_iff, Bool.not_not, Bool.not_true, Bool.not_false, ne_eq, Classical.not_not, Decidable.not_not] at h2
      refine SC.skip ?_
      refine SK.code ?_
      have q3 := join_mem_le (nth_mem (xs := l) (i := (i : Int)) (by omega) (by omega))
      refine SC.region ?_
      refine SL.op (OpT.plain rfl (OpOk.move (Typ.tmp rfl))) rfl rfl ?_
      refine SL.op (OpT.plain rfl (OpOk.move (Typ.tmp rfl))) rfl rfl ?_
      refine SL.op (OpT.plain rfl (OpOk.move (Typ.tmp rfl))) rfl rfl ?_
      refine SL.op (OpT.plain rfl (OpOk.indexAddr Tryz.underlying22 ty_9 (Typ.tmp rfl) (Typ.tmp rfl) (by first | omega | (simp only [decide_eq_true_eq, decide_eq_false_iff_not] at *; omega) | (simp at *; omega)) (by first | omega | (simp only [decide_eq_true_eq, decide_eq_false_iff_not] at *; omega) | (simp at *; omega)))) rfl rfl ?_
      refine SL.op (OpT.plain rfl (OpOk.loadRef ty_9 (Typ.tmp rfl))) rfl rfl ?_
      refine SL.op (OpT.plain rfl (OpOk.addStr (Typ.tmp rfl) (Typ.tmp rfl) (by unfold maxLen; first | omega | (simp; omega)))) rfl rfl ?_
      refine SL.op (OpT.plain rfl (OpOk.assign (Typ.tmp rfl))) rfl rfl ?_
      refine SL.nil ?_
      refine SK.blk ?_
      refine SK.code ?_
      refine SC.region ?_
      refine SL.op (OpT.plain rfl (OpOk.move (Typ.tmp rfl))) rfl rfl ?_
      refine SL.op (OpT.plain rfl (OpOk.add (Typ.tmp rfl) Typ.cint (by unfold in64; first | omega | (simp at *; omega)))) rfl rfl ?_
      refine SL.op (OpT.plain rfl (OpOk.assign (Typ.tmp rfl))) rfl rfl ?_
      refine SL.nil ?_
      refine SK.roundK ((i + 1, s ++ nth l (i : Int))) (by simp only; omega) (by first | exact hs.step (by assumption) (by assumption) | exact hs.first (by assumption) (by assumption)) rfl rfl (Subs.eq rfl (by first | rfl | omega | (simp; done) | (simp_all; done) | (simp_all; omega)) (Subs.eq rfl (by first | rfl | omega | (simp; done) | (simp_all; done) | (simp_all; omega)) Subs.nil))
  · skip
    try simp only [decide_eq_true_eq, decide_eq_false_iff_not, Bool.and_eq_true, Bool.or_eq_true, Bool.not_eq_true', Bool.not_eq_false', Bool.and_eq_false_iff, Bool.or_eq_false_iff, Bool.not_not, Bool.not_true, Bool.not_false, ne_eq, Classical.not_not, Decidable.not_not] at h1
    refine SC.exit rfl ?_
    refine SK.code ?_
    refine SC.seq ?_
    have hdone := hs.done (by assumption)
    refine SC.region ?_
    refine SL.op (OpT.plain rfl (OpOk.move (Typ.tmp rfl))) rfl rfl ?_
    refine SL.op (OpT.plain rfl (OpOk.assign (Typ.tmp rfl))) rfl rfl ?_
    refine SL.nil ?_
    refine SK.code ?_
    refine SC.ret ?_
    exact SR.one rfl (ResT.eq rfl (by first | (exact hdone) | rfl | (simp_all []; done) | (simp_all []; rfl) | (simp_all []; omega)))

theorem wordR_le (n : Int) (h : in64 n) : (wordR n).length ≤ 20 := wordR_len20 h.2
theorem name_le (k : Int) : (nameK k).length ≤ 5 := by
  by_cases e : k < 1 ∨ 10 < k
  · rw [name_out e]; simp
  · have e : k = 1 ∨ k = 2 ∨ k = 3 ∨ k = 4 ∨ k = 5 ∨ k = 6 ∨ k = 7 ∨ k = 8 ∨ k = 9 ∨ k = 10 := by omega
    rcases e with rfl | rfl | rfl | rfl | rfl | rfl | rfl | rfl | rfl | rfl <;> decide
theorem way_le (d : Int) : (wayD d).length ≤ 5 := by
  by_cases e : 0 ≤ d ∧ d ≤ 3
  · have e : d = 0 ∨ d = 1 ∨ d = 2 ∨ d = 3 := by omega
    rcases e with rfl | rfl | rfl | rfl <;> decide
  · have : wayD d = [] := Classical.byContradiction fun h => e (way_ne.1 h)
    rw [this]; simp
theorem fit_le {n : Int} (h : fit n) : (wordR n).length ≤ 20 := wordR_len20 (by have := h.2; omega)
theorem wordsR_le {c : Cmd} (hm : mayR c = true) : (∀ x, x ∈ wordsR c → x.length ≤ 100) ∧ (wordsR c).length ≤ 100 := by
  have mp : ∀ {l : List Int} {x : Str}, (∀ n, n ∈ l → fit n) → x ∈ l.map wordR → x.length ≤ 100 := fun h hx => by
    obtain ⟨n, hn, rfl⟩ := List.mem_map.1 hx
    have := fit_le (h n hn)
    omega
  rcases may_shape hm with ⟨d, hd, rfl⟩ | ⟨w, d, hw, hd, rfl⟩ | ⟨k, i, hk, hi, rfl⟩ | ⟨k, i, b, hk, hi, hb, rfl⟩ | ⟨i, w, hi, hw, rfl⟩ | ⟨w, g, p, q, f, hw, hg, hp, hq, hf, rfl⟩ | ⟨k, hk, rfl⟩
  · have h1 := name_le 1; have h2 := way_le d
    refine ⟨fun x hx => ?_, by simp [wordsR]⟩
    simp [wordsR] at hx
    rcases hx with rfl | rfl <;> omega
  · have h1 := name_le 2; have h2 := way_le d; have h3 := fit_le hw
    refine ⟨fun x hx => ?_, by simp [wordsR]⟩
    simp [wordsR] at hx
    rcases hx with rfl | rfl | rfl <;> omega
  · have h1 := name_le k; have h3 := fit_le hi
    refine ⟨fun x hx => ?_, by rcases hk with rfl | rfl <;> simp [wordsR]⟩
    rcases hk with rfl | rfl <;> (simp [wordsR] at hx; rcases hx with rfl | rfl <;> omega)
  · have h1 := name_le k; have h3 := fit_le hi; have h4 := fit_le hb
    refine ⟨fun x hx => ?_, by rcases hk with rfl | rfl <;> simp [wordsR]⟩
    rcases hk with rfl | rfl <;> (simp [wordsR] at hx; rcases hx with rfl | rfl | rfl | rfl <;> (first | omega | simp))
  · have h1 := name_le 7; have h3 := fit_le hi; have h4 := fit_le hw
    refine ⟨fun x hx => ?_, by simp [wordsR]⟩
    simp [wordsR] at hx
    rcases hx with rfl | rfl | rfl | rfl <;> (first | omega | simp)
  · have h1 := name_le 8; have h3 := fit_le hw; have h4 := fit_le hp; have h5 := fit_le hf
    refine ⟨fun x hx => ?_, by simp [wordsR]; omega⟩
    have e : wordsR { kind := 8, who := w, gives := g, pay := p, wants := q, fee := f } = nameK 8 :: wordR w :: [103, 105, 118, 101] :: (g.map wordR ++ (coins :: wordR p :: [102, 111, 114] :: (q.map wordR ++ [coins, wordR f]))) := by simp [wordsR, coins]
    rw [e] at hx
    simp only [List.mem_cons, List.mem_append, List.not_mem_nil, or_false] at hx
    rcases hx with rfl | rfl | rfl | hx | rfl | rfl | rfl | hx | rfl | rfl
    · omega
    · omega
    · simp
    · exact mp hg.1 hx
    · simp [coins]
    · omega
    · simp
    · exact mp hq.1 hx
    · simp [coins]
    · omega
  · have h1 := name_le k
    refine ⟨fun x hx => ?_, by rcases hk with rfl | rfl <;> simp [wordsR]⟩
    rcases hk with rfl | rfl <;> (simp [wordsR] at hx; subst hx; omega)
/-- ref04.Put -/
def putR (c : Cmd) : Str × Int := if mayR c = true then (join (wordsR c), 0) else ([], 2)
theorem join_words_le {c : Cmd} (hm : mayR c = true) : (join (wordsR c)).length ≤ 10100 := by
  obtain ⟨h1, h2⟩ := wordsR_le hm
  have := join_bound h1
  omega
theorem putR_no {c : Cmd} (h : mayR c = false) : putR c = ([], 2) := by unfold putR; rw [if_neg (by rw [h]; simp)]
theorem putR_ok {c : Cmd} (h : mayR c = true) : putR c = (join (wordsR c), 0) := by unfold putR; rw [if_pos h]

/-! innkeep/innkeepref04.Put -/
theorem s_innkeepref04_Put (c : Cmd) : FnSpec Tryz.prog glob 24 [V c] (.tup [V (putR c).1, V (putR c).2]) := by
  refine FnSpec.enter Tryz.func24 rfl rfl rfl fun m0 w0 => ?_
  refine SC.seq ?_
  refine SC.region ?_
  refine SL.op (OpT.plain rfl (OpOk.boxRef (Typ.tmp rfl))) rfl rfl ?_
  refine SL.op (OpT.plain rfl (OpOk.assign (Typ.cstr (l := [])))) rfl rfl ?_
  refine SL.op (OpT.plain rfl (OpOk.assign Typ.cint)) rfl rfl ?_
  refine SL.nil ?_
  refine SK.code ?_
  refine SC.seq ?_
  refine SC.seq ?_
  refine SC.region ?_
  refine SL.op (OpT.plain rfl (OpOk.loadRef ty_29 (Typ.tmp rfl))) rfl rfl ?_
  refine SL.op (OpT.plain rfl (OpOk.call Tryz.call26 Typ.fn (Typs.cons (Typ.tmp rfl) Typs.nil) (s_innkeepref03_May _))) rfl rfl ?_
  refine SL.op (OpT.plain rfl (OpOk.not (Typ.tmp rfl))) rfl rfl ?_
  refine SL.nil ?_
  refine SK.code ?_
  refine SC.cond rfl (fun _ _ h => V_bool h) (fun h1 => ?_) (fun h1 => ?_)
  · skip
    try simp only [decide_eq_true_eq, decide_eq_false_iff_not, Bool.and_eq_true, Bool.or_eq_true, Bool.not_eq_true', Bool.not_eq_false', Bool.and_eq_false_iff, Bool.or_eq_false_iff, Bool.not_not, Bool.not_true, Bool.not_false, ne_eq, Classical.not_not, Decidable.not_not] at h1
    refine SC.seq ?_
    refine SC.region ?_
    refine SL.op (OpT.plain rfl (OpOk.assign (Typ.cstr (l := [])))) rfl rfl ?_
    refine SL.op (OpT.plain rfl (OpOk.assign Typ.cint)) rfl rfl ?_
    refine SL.nil ?_
    refine SK.code ?_
    refine SC.ret ?_
    exact SR.two rfl (ResT.eq rfl (by first | (rw [putR_no (by assumption)]) | (rw [putR_ok (by assumption)]) | rfl | (simp_all []; done) | (simp_all []; rfl) | (simp_all []; omega))) (ResT.eq rfl (by first | (rw [putR_no (by assumption)]) | (rw [putR_ok (by assumption)]) | rfl | (simp_all []; done) | (simp_all []; rfl) | (simp_all []; omega)))
  · skip
    try simp only [decide_eq_true_eq, decide_eq_false_iff_not, Bool.and_eq_true, Bool.or_eq_true, Bool.not_eq_true', Bool.not_eq_false', Bool.and_eq_false_iff, Bool.or_eq_false_iff, Bool.not_not, Bool.not_true, Bool.not_false, ne_eq, Classical.not_not, Decidable.not_not] at h1
    refine SC.skip ?_
    refine SK.code ?_
    refine SC.seq ?_
    refine SC.region ?_
    refine SL.op (OpT.plain rfl (OpOk.loadRef ty_29 (Typ.tmp rfl))) rfl rfl ?_
    refine SL.op (OpT.plain rfl (OpOk.call Tryz.call36 Typ.fn (Typs.cons (Typ.tmp rfl) Typs.nil) (s_innkeepref04_Words _ (by assumption)))) rfl rfl ?_
    refine SL.op (OpT.plain rfl (OpOk.call Tryz.call29 Typ.fn (Typs.cons (Typ.tmp rfl) Typs.nil) (s_innkeepref02_Join _ (Nat.le_trans (join_words_le (by assumption)) (by omega))))) rfl rfl ?_
    refine SL.op (OpT.plain rfl (OpOk.assign (Typ.tmp rfl))) rfl rfl ?_
    refine SL.op (OpT.plain rfl (OpOk.assign Typ.cint)) rfl rfl ?_
    refine SL.nil ?_
    refine SK.code ?_
    refine SC.ret ?_
    exact SR.two rfl (ResT.eq rfl (by first | (rw [putR_no (by assumption)]) | (rw [putR_ok (by assumption)]) | rfl | (simp_all []; done) | (simp_all []; rfl) | (simp_all []; omega))) (ResT.eq rfl (by first | (rw [putR_no (by assumption)]) | (rw [putR_ok (by assumption)]) | rfl | (simp_all []; done) | (simp_all []; rfl) | (simp_all []; omega)))

/-! innkeep/line.rows -/
theorem s_line_rows (l : List Int) (hl : l.length ≤ 1000000) : FnSpec Tryz.prog glob 52 [V l] (V (l.map wordT)) := by
  refine FnSpec.enter Tryz.func52 rfl rfl rfl fun m0 w0 => ?_
  refine SC.learnList (t := 0) rfl fun hp0 => ?_
  refine SC.seq ?_
  refine SC.region ?_
  refine SL.op (OpT.plain rfl (OpOk.assign (Typ.cnil (α := Str)))) rfl rfl ?_
  refine SL.nil ?_
  refine SK.code ?_
  refine SC.seq ?_
  refine SC.region ?_
  refine SL.nilRow (Str) 9 ?_
  refine SL.op (F := .eq (.slice none 0 0)) (OpT.plain rfl (OpOk.assign (Typ.con fun _ => rfl))) rfl rfl ?_
  refine SL.nil ?_
  refine SK.code ?_
  refine SC.seq ?_
  refine SC.seq ?_
  refine SC.region ?_
  refine SL.op (OpT.plain rfl (OpOk.move (Typ.tmp rfl))) rfl rfl ?_
  refine SL.op (OpT.plain rfl (OpOk.lenList Tryz.underlying27 (Typ.tmp rfl))) rfl rfl ?_
  refine SL.op (OpT.plain rfl (OpOk.move Typ.cint)) rfl rfl ?_
  refine SL.nil ?_
  refine SK.code ?_
  refine SC.block ?_
  refine SC.loopK (σ := Nat × Value) [2, 6, 7] (fun st => [(8, V (st.1 : Int)), (3, .eq st.2)]) (fun st Δ => [Own.row st.2 9 ((l.take st.1).map wordT)]) (fun st => l.length - st.1) (fun st => st.1 ≤ l.length) ((0, .slice none 0 0)) (by simp) (by simp) (Subs.eq rfl (by first | rfl | omega | (simp; done) | (simp_all; done) | (simp_all; omega)) (Subs.one rfl Subs.nil)) (fun st hs => ?_)
  obtain ⟨i, v⟩ := st
  dsimp only at hs ⊢
  refine SC.seq ?_
  refine SC.region ?_
  refine SL.op (OpT.plain rfl (OpOk.lss (Typ.tmp rfl) (Typ.tmp rfl))) rfl rfl ?_
  refine SL.nil ?_
  refine SK.code ?_
  refine SC.seq ?_
  refine SC.cond rfl (fun _ _ h => V_bool h) (fun h1 => ?_) (fun h1 => ?_)
  · skip
    try simp only [decide_eq_true_eq, decide_eq_false_iff_not, Bool.and_eq_true, Bool.or_eq_true, Bool.not_eq_true', Bool.not_eq_false', Bool.and_eq_false_iff, Bool.or_eq_false_iff, Bool.not_not, Bool.not_true, Bool.not_false, ne_eq, Classical.not_not, Decidable.not_not] at h1
    refine SC.skip ?_
    refine SK.code ?_
    refine SC.seq ?_
    refine SC.block ?_
    refine SC.seq ?_
    refine SC.region ?_
    refine SL.op (OpT.plain rfl (OpOk.indexAddr Tryz.underlying27 ty_3 (Typ.tmp rfl) (Typ.tmp rfl) (by first | omega | (simp only [decide_eq_true_eq, decide_eq_false_iff_not] at *; omega) | (simp at *; omega)) (by first | omega | (simp only [decide_eq_true_eq, decide_eq_false_iff_not] at *; omega) | (simp at *; omega)))) rfl rfl ?_
    refine SL.op (OpT.plain rfl (OpOk.loadRef ty_3 (Typ.tmp rfl))) rfl rfl ?_
    refine SL.op (OpT.plain rfl (OpOk.assign (Typ.tmp rfl))) rfl rfl ?_
    refine SL.nil ?_
    refine SK.code ?_
    refine SC.region ?_
    refine SL.op (OpT.plain rfl (OpOk.move (Typ.tmp rfl))) rfl rfl ?_
    refine SL.op (OpT.plain rfl (OpOk.move (Typ.tmp rfl))) rfl rfl ?_
    refine SL.op (OpT.plain rfl (OpOk.call Tryz.call49 Typ.fn (Typs.cons (Typ.tmp rfl) Typs.nil) (s_token_Word _))) rfl rfl ?_
    refine SL.op (OpT.plain rfl (OpOk.buildSlice lit_22_1 (parts := [(0, Operand.tmp 14)]) rfl (TypL.cons (Typ.tmp rfl) TypL.nil))) rfl rfl ?_
    obtain ⟨by_, hby, htyi⟩ := tyi_22
    refine SL.append Tryz.underlying22 htyi (i := 0) rfl (Typ.tmp rfl) (Typ.tmp rfl) (by simp) ?_ ?_ rfl fun v2 => ?_
    · exact (by refine Nat.le_trans (Nat.mul_le_mul (Nat.le_refl _) hby) ?_; first | omega | (simp; done) | (simp; omega) | (simp only [Cmd.s_kind, Cmd.s_dir, Cmd.s_item, Cmd.s_box, Cmd.s_who, Cmd.s_gives, Cmd.s_pay, Cmd.s_wants, Cmd.s_fee]; simp; omega) | (simp at *; omega))
    · exact (by unfold maxLen; first | omega | (simp; done) | (simp; omega) | (simp only [Cmd.s_kind, Cmd.s_dir, Cmd.s_item, Cmd.s_box, Cmd.s_who, Cmd.s_gives, Cmd.s_pay, Cmd.s_wants, Cmd.s_fee]; simp; omega) | (simp at *; omega))
    clear htyi hby
    refine SL.op (OpT.plain rfl (OpOk.assign (Typ.tmp rfl))) rfl rfl ?_
    refine SL.nil ?_
    refine SK.blk ?_
    refine SK.code ?_
    refine SC.region ?_
    refine SL.op (OpT.plain rfl (OpOk.add (Typ.tmp rfl) Typ.cint (by unfold in64; first | omega | (simp at *; omega)))) rfl rfl ?_
    refine SL.op (OpT.plain rfl (OpOk.move (Typ.tmp rfl))) rfl rfl ?_
    refine SL.nil ?_
    refine SK.roundK ((i + 1, v2)) (by simp only; omega) (by simp only; omega) (by rw [take_succ (by omega)]; simp) rfl (Subs.eq rfl (by first | rfl | omega | (simp; done) | (simp_all; done) | (simp_all; omega)) (Subs.one rfl Subs.nil))
  · skip
    try simp only [decide_eq_true_eq, decide_eq_false_iff_not, Bool.and_eq_true, Bool.or_eq_true, Bool.not_eq_true', Bool.not_eq_false', Bool.and_eq_false_iff, Bool.or_eq_false_iff, Bool.not_not, Bool.not_true, Bool.not_false, ne_eq, Classical.not_not, Decidable.not_not] at h1
    refine SC.exit rfl ?_
    refine SK.code ?_
    refine SC.seq ?_
    have hdone : l.take i = l := List.take_of_length_le (by omega)
    refine SC.region ?_
    refine SL.op (OpT.plain rfl (OpOk.move (Typ.tmp rfl))) rfl rfl ?_
    refine SL.op (OpT.plain rfl (OpOk.assign (Typ.tmp rfl))) rfl rfl ?_
    refine SL.nil ?_
    refine SK.code ?_
    refine SC.ret ?_
    refine SR.publishRow (t := 2) (i := 0) rfl rfl ?_
    exact SR.one rfl (ResT.eq rfl (by first | ((rw [hdone])) | rfl | (simp_all []; done) | (simp_all []; rfl) | (simp_all []; omega)))

theorem grow_zero (w : World) : Calls Tryz.prog 86 #[.slice none 0 0, .int .i64 0] w fun e w' => e = .returned (.slice none 0 0) ∧ w' = w := by
  go_enter Tryz.func86, Tryz.ntmps86
  go_wp2
  go_ret
  exact ⟨rfl, rfl⟩
theorem zeroCells_size' (cs : Array Value) : ∀ k, (Builtin.zeroCells cs k).size = k * cs.size := by
  intro k
  simp [Builtin.zeroCells]
set_option maxHeartbeats 2000000 in
theorem grows_str (n : Nat) (hn : n ≤ 1000000) : Grows Tryz.prog 86 9 (Rep.n Str) n := by
  intro w
  by_cases h0 : n = 0
  · subst h0
    refine (grow_zero w).mono ?_
    rintro e w' ⟨rfl, rfl⟩
    exact ⟨_, rfl, .inl ⟨rfl, rfl⟩⟩
  · obtain ⟨by_, hby, ht⟩ := tyi_22
    obtain ⟨i, z, i1, i2, i3, i4, i5⟩ := ht.get
    have hbig : n * i.bytes ≤ 1000000 * 400 := Nat.mul_le_mul hn (by rw [i4]; exact hby)
    have h1 : ¬ ((n : Int) < 0) := by omega
    have h3 : wrap64 (n : Int) = (n : Int) := by unfold wrap64; omega
    have h4 : (n : Int) > 0 := by omega
    have hrz := fun ty => Lib.run_append_nil_zeros (P := Tryz.prog) w 22 3 ty 9 i z .i64 .i64 Tryz.underlying22 Tryz.underlying3 i1 i2 n (by omega) (by rw [i3]; decide) (by omega) (by omega)
    have hrz : ∀ ty, (Builtin.append_ #[22, 3] ty #[.slice none 0 0, .int .i64 (wrap64 (n : Int))]).run Tryz.prog w = .ok (.slice (some ⟨w.heap.size, 0, none⟩) n (grownCap w n 0 9)) (w.drew.alloc (.cells (Builtin.zeroCells z.cells n ++ Builtin.zeroCells z.cells (grownCap w n 0 9 - n)) 9)) := fun ty => by rw [h3]; exact hrz ty
    have hGn : n ≤ grownCap w n 0 9 := grownCap_ge w _ _ _
    have hG63 := grownCap_le_maxLen w n 0 9 (by unfold maxLen; omega)
    have hcz : ∀ k, (Builtin.zeroCells z.cells k).size = k * Rep.n Str := fun k => by rw [zeroCells_size', i5]
    obtain ⟨G, hG⟩ : ∃ G, G = grownCap w n 0 9 := ⟨_, rfl⟩
    rw [← hG] at hrz hGn hG63
    generalize hcur : Builtin.zeroCells z.cells n ++ Builtin.zeroCells z.cells (G - n) = cur at hrz
    have hsz : cur.size = G * Rep.n Str := by
      rw [← hcur, Array.size_append, hcz, hcz, ← Nat.add_mul]
      congr 1; omega
    clear hG hcur hcz
    have walk : Calls Tryz.prog 86 #[.slice none 0 0, .int .i64 n] w fun e w' => e = .returned (.slice (some ⟨w.heap.size, 0, none⟩) 0 G) ∧ w' = w.drew.alloc (.cells cur 9) := by
      have hG9 : G ≤ 9223372036854775807 := by unfold maxLen at hG63; omega
      clear hsz hGn hG63 hbig i1 i2 i3 i4 i5 ht hby hn h0
      go_enter Tryz.func86, Tryz.ntmps86
      go_wp2_with (at_builtin; refine Lib.wpList_append_run _ rfl _ _ _ _ rfl _ _ rfl rfl _ _ (hrz _) ?_)
      all_goals (go_ret; exact ⟨rfl, rfl⟩)
    refine walk.mono ?_
    rintro e w' ⟨rfl, rfl⟩
    exact ⟨_, rfl, .inr ⟨G, cur, rfl, rfl, hG63, hsz⟩⟩

theorem flat_take_le {α : Type} (xss : List (List α)) (i : Nat) : (xss.take i).flatten.length ≤ xss.flatten.length := by
  have e : xss.flatten = (xss.take i).flatten ++ (xss.drop i).flatten := by rw [← List.flatten_append, List.take_append_drop]
  rw [e]; simp
theorem flat_nth_le {α : Type} [Inhabited (List α)] {xss : List (List α)} {i : Int} (h0 : 0 ≤ i) (h : i < xss.length) : (nth xss i).length ≤ xss.flatten.length := by
  have hm := nth_mem h0 h
  generalize nth xss i = x at hm
  obtain ⟨a, b, rfl⟩ := List.append_of_mem hm
  simp; omega
structure CatInv (xss : List (List Str)) (i : Nat) (n : Nat) : Prop where
  le : i ≤ xss.length
  eq : n = (xss.take i).flatten.length
theorem CatInv.zero (xss : List (List Str)) : CatInv xss 0 0 := ⟨Nat.zero_le _, by simp⟩
theorem CatInv.step {xss : List (List Str)} {i n : Nat} (h : CatInv xss i n) (hi : (i : Int) < xss.length) : CatInv xss (i + 1) (n + (nth xss (i : Int)).length) := by
  refine ⟨by omega, ?_⟩
  rw [take_succ (by omega), List.flatten_append, List.length_append, ← h.eq]
  simp

/-! slices.Concat[[]string,string] -/
theorem s_Concat_string (xss : List (List Str)) (hx : xss.flatten.length ≤ 1000000) (hy : xss.length ≤ 1000000) : FnSpec Tryz.prog glob 51 [V xss] (V xss.flatten) := by
  refine FnSpec.enter Tryz.func51 rfl rfl rfl fun m0 w0 => ?_
  refine SC.learnList (t := 0) rfl fun hp0 => ?_
  refine SC.seq ?_
  refine SC.region ?_
  refine SL.op (OpT.plain rfl (OpOk.assign (Typ.cnil (α := Str)))) rfl rfl ?_
  refine SL.nil ?_
  refine SK.code ?_
  refine SC.seq ?_
  refine SC.region ?_
  refine SL.op (OpT.plain rfl (OpOk.assign Typ.cint)) rfl rfl ?_
  refine SL.nil ?_
  refine SK.code ?_
  refine SC.seq ?_
  refine SC.seq ?_
  refine SC.region ?_
  refine SL.op (OpT.plain rfl (OpOk.move (Typ.tmp rfl))) rfl rfl ?_
  refine SL.op (OpT.plain rfl (OpOk.lenList Tryz.underlying130 (Typ.tmp rfl))) rfl rfl ?_
  refine SL.op (OpT.plain rfl (OpOk.move Typ.cint)) rfl rfl ?_
  refine SL.nil ?_
  refine SK.code ?_
  refine SC.block ?_
  refine SC.loopK (σ := Nat × Nat) [0, 2, 9, 10] (fun st => [(11, V (st.1 : Int)), (3, V (st.2 : Int))]) (fun st Δ => Δ) (fun st => xss.length - st.1) (fun st => CatInv xss st.1 st.2) ((0, 0)) (CatInv.zero xss) rfl (Subs.eq rfl (by first | rfl | omega | (simp; done) | (simp_all; done) | (simp_all; omega)) (Subs.eq rfl (by first | rfl | omega | (simp; done) | (simp_all; done) | (simp_all; omega)) Subs.nil)) (fun st hs => ?_)
  obtain ⟨i, n⟩ := st
  dsimp only at hs ⊢
  have q1 := hs.le
  have q2 : n ≤ xss.flatten.length := by rw [hs.eq]; exact flat_take_le xss i
  refine SC.seq ?_
  refine SC.region ?_
  refine SL.op (OpT.plain rfl (OpOk.lss (Typ.tmp rfl) (Typ.tmp rfl))) rfl rfl ?_
  refine SL.nil ?_
  refine SK.code ?_
  refine SC.seq ?_
  refine SC.cond rfl (fun _ _ h => V_bool h) (fun h1 => ?_) (fun h1 => ?_)
  · skip
    try simp only [decide_eq_true_eq, decide_eq_false_iff_not, Bool.and_eq_true, Bool.or_eq_true, Bool.not_eq_true', Bool.not_eq_false', Bool.and_eq_false_iff, Bool.or_eq_false_iff, Bool.not_not, Bool.not_true, Bool.not_false, ne_eq, Classical.not_not, Decidable.not_not] at h1
    refine SC.skip ?_
    refine SK.code ?_
    refine SC.seq ?_
    refine SC.block ?_
    refine SC.seq ?_
    refine SC.region ?_
    refine SL.op (OpT.plain rfl (OpOk.indexAddr Tryz.underlying130 ty_22 (Typ.tmp rfl) (Typ.tmp rfl) (by first | omega | (simp only [decide_eq_true_eq, decide_eq_false_iff_not] at *; omega) | (simp at *; omega)) (by first | omega | (simp only [decide_eq_true_eq, decide_eq_false_iff_not] at *; omega) | (simp at *; omega)))) rfl rfl ?_
    refine SL.op (OpT.plain rfl (OpOk.loadRef ty_22 (Typ.tmp rfl))) rfl rfl ?_
    refine SL.op (OpT.plain rfl (OpOk.assign (Typ.tmp rfl))) rfl rfl ?_
    refine SL.nil ?_
    refine SK.code ?_
    refine SC.seq ?_
    have q3 := flat_nth_le (xss := xss) (i := (i : Int)) (by omega) (by omega)
    refine SC.region ?_
    refine SL.op (OpT.plain rfl (OpOk.move (Typ.tmp rfl))) rfl rfl ?_
    refine SL.op (OpT.plain rfl (OpOk.move (Typ.tmp rfl))) rfl rfl ?_
    refine SL.op (OpT.plain rfl (OpOk.lenList Tryz.underlying22 (Typ.tmp rfl))) rfl rfl ?_
    refine SL.op (OpT.plain rfl (OpOk.add (Typ.tmp rfl) (Typ.tmp rfl) (by unfold in64; first | omega | (simp at *; omega)))) rfl rfl ?_
    refine SL.op (OpT.plain rfl (OpOk.assign (Typ.tmp rfl))) rfl rfl ?_
    refine SL.nil ?_
    refine SK.code ?_
    refine SC.seq ?_
    refine SC.region ?_
    refine SL.op (OpT.plain rfl (OpOk.move (Typ.tmp rfl))) rfl rfl ?_
    refine SL.op (OpT.plain rfl (OpOk.lss (Typ.tmp rfl) Typ.cint)) rfl rfl ?_
    refine SL.nil ?_
    refine SK.code ?_
    refine SC.cond rfl (fun _ _ h => V_bool h) (fun h2 => ?_) (fun h2 => ?_)
    · skip
      try simp only [decide_eq_true_eq, decide_eq_false_iff_not, Bool.and_eq_true, Bool.or_eq_true, Bool.not_eq_true', Bool.not_eq_false', Bool.and_eq_false_iff, Bool.or_eq_false_iff, Bool.not_not, Bool.not_true, Bool.not_false, ne_eq, Classical.not_not, Decidable.not_not] at h2
      (exfalso; omega)
    · skip
      try simp only [decide_eq_true_eq, decide_eq_false_iff_not, Bool.and_eq_true, Bool.or_eq_true, Bool.not_eq_true', Bool.not_eq_false', Bool.and_eq_false_iff, Bool.or_eq_false_iff, Bool.not_not, Bool.not_true, Bool.not_false, ne_eq, Classical.not_not, Decidable.not_not] at h2
      refine SC.skip ?_
      refine SK.blk ?_
      refine SK.code ?_
      refine SC.region ?_
      refine SL.op (OpT.plain rfl (OpOk.add (Typ.tmp rfl) Typ.cint (by unfold in64; first | omega | (simp at *; omega)))) rfl rfl ?_
      refine SL.op (OpT.plain rfl (OpOk.move (Typ.tmp rfl))) rfl rfl ?_
      refine SL.nil ?_
      refine SK.roundK ((i + 1, n + (nth xss (i : Int)).length)) (by simp only; omega) (hs.step (by assumption)) rfl rfl (Subs.eq rfl (by first | rfl | omega | (simp; done) | (simp_all; done) | (simp_all; omega)) (Subs.eq rfl (by first | rfl | omega | (simp; done) | (simp_all; done) | (simp_all; omega)) Subs.nil))
  · skip
    try simp only [decide_eq_true_eq, decide_eq_false_iff_not, Bool.and_eq_true, Bool.or_eq_true, Bool.not_eq_true', Bool.not_eq_false', Bool.and_eq_false_iff, Bool.or_eq_false_iff, Bool.not_not, Bool.not_true, Bool.not_false, ne_eq, Classical.not_not, Decidable.not_not] at h1
    refine SC.exit rfl ?_
    refine SK.code ?_
    refine SC.seq ?_
    have hdone : xss.take i = xss := List.take_of_length_le (by omega)
    refine SC.region ?_
    refine SL.op (OpT.plain rfl (OpOk.move (Typ.tmp rfl))) rfl rfl ?_
    refine SL.growRow (Str) Typ.fn Tryz.call86 (grows_str n (by omega)) (Typ.tmp rfl) rfl fun v3 => ?_
    refine SL.op (OpT.plain rfl (OpOk.assign (Typ.tmp rfl))) rfl rfl ?_
    refine SL.nil ?_
    refine SK.code ?_
    refine SC.seq ?_
    refine SC.seq ?_
    refine SC.region ?_
    refine SL.op (OpT.plain rfl (OpOk.move (Typ.tmp rfl))) rfl rfl ?_
    refine SL.op (OpT.plain rfl (OpOk.lenList Tryz.underlying130 (Typ.tmp rfl))) rfl rfl ?_
    refine SL.op (OpT.plain rfl (OpOk.move Typ.cint)) rfl rfl ?_
    refine SL.nil ?_
    refine SK.code ?_
    refine SC.block ?_
    refine SC.loopK (σ := Nat × Value) [2, 25, 26] (fun st => [(27, V (st.1 : Int)), (6, .eq st.2)]) (fun st Δ => [Own.row st.2 9 (xss.take st.1).flatten]) (fun st => xss.length - st.1) (fun st => st.1 ≤ xss.length) ((0, v3)) (by simp) (by simp) (Subs.eq rfl (by first | rfl | omega | (simp; done) | (simp_all; done) | (simp_all; omega)) (Subs.one rfl Subs.nil)) (fun st hq => ?_)
    obtain ⟨j, v⟩ := st
    dsimp only at hq ⊢
    refine SC.seq ?_
    refine SC.region ?_
    refine SL.op (OpT.plain rfl (OpOk.lss (Typ.tmp rfl) (Typ.tmp rfl))) rfl rfl ?_
    refine SL.nil ?_
    refine SK.code ?_
    refine SC.seq ?_
    refine SC.cond rfl (fun _ _ h => V_bool h) (fun h4 => ?_) (fun h4 => ?_)
    · skip
      try simp only [decide_eq_true_eq, decide_eq_false_iff_not, Bool.and_eq_true, Bool.or_eq_true, Bool.not_eq_true', Bool.not_eq_false', Bool.and_eq_false_iff, Bool.or_eq_false_iff, Bool.not_not, Bool.not_true, Bool.not_false, ne_eq, Classical.not_not, Decidable.not_not] at h4
      refine SC.skip ?_
      refine SK.code ?_
      refine SC.seq ?_
      refine SC.block ?_
      refine SC.seq ?_
      refine SC.region ?_
      refine SL.op (OpT.plain rfl (OpOk.indexAddr Tryz.underlying130 ty_22 (Typ.tmp rfl) (Typ.tmp rfl) (by first | omega | (simp only [decide_eq_true_eq, decide_eq_false_iff_not] at *; omega) | (simp at *; omega)) (by first | omega | (simp only [decide_eq_true_eq, decide_eq_false_iff_not] at *; omega) | (simp at *; omega)))) rfl rfl ?_
      refine SL.op (OpT.plain rfl (OpOk.loadRef ty_22 (Typ.tmp rfl))) rfl rfl ?_
      refine SL.op (OpT.plain rfl (OpOk.assign (Typ.tmp rfl))) rfl rfl ?_
      refine SL.nil ?_
      refine SK.code ?_
      have q4 := flat_take_le xss j
      have q5 := flat_nth_le (xss := xss) (i := (j : Int)) (by omega) (by omega)
      refine SC.region ?_
      refine SL.op (OpT.plain rfl (OpOk.move (Typ.tmp rfl))) rfl rfl ?_
      refine SL.op (OpT.plain rfl (OpOk.move (Typ.tmp rfl))) rfl rfl ?_
      obtain ⟨by_, hby, htyi⟩ := tyi_22
      refine SL.appendAny Tryz.underlying22 htyi (i := 0) rfl (Typ.tmp rfl) (Typ.tmp rfl) ?_ ?_ rfl fun v5 => ?_
      · exact (by refine Nat.le_trans (Nat.mul_le_mul (Nat.le_refl _) hby) ?_; first | omega | (simp; done) | (simp; omega) | (simp only [Cmd.s_kind, Cmd.s_dir, Cmd.s_item, Cmd.s_box, Cmd.s_who, Cmd.s_gives, Cmd.s_pay, Cmd.s_wants, Cmd.s_fee]; simp; omega) | (simp at *; omega))
      · exact (by unfold maxLen; first | omega | (simp; done) | (simp; omega) | (simp only [Cmd.s_kind, Cmd.s_dir, Cmd.s_item, Cmd.s_box, Cmd.s_who, Cmd.s_gives, Cmd.s_pay, Cmd.s_wants, Cmd.s_fee]; simp; omega) | (simp at *; omega))
      clear htyi hby
      refine SL.op (OpT.plain rfl (OpOk.assign (Typ.tmp rfl))) rfl rfl ?_
      refine SL.nil ?_
      refine SK.blk ?_
      refine SK.code ?_
      refine SC.region ?_
      refine SL.op (OpT.plain rfl (OpOk.add (Typ.tmp rfl) Typ.cint (by unfold in64; first | omega | (simp at *; omega)))) rfl rfl ?_
      refine SL.op (OpT.plain rfl (OpOk.move (Typ.tmp rfl))) rfl rfl ?_
      refine SL.nil ?_
      refine SK.roundK ((j + 1, v5)) (by simp only; omega) (by simp only; omega) (by rw [take_succ (by omega), List.flatten_append]; simp) rfl (Subs.eq rfl (by first | rfl | omega | (simp; done) | (simp_all; done) | (simp_all; omega)) (Subs.one rfl Subs.nil))
    · skip
      try simp only [decide_eq_true_eq, decide_eq_false_iff_not, Bool.and_eq_true, Bool.or_eq_true, Bool.not_eq_true', Bool.not_eq_false', Bool.and_eq_false_iff, Bool.or_eq_false_iff, Bool.not_not, Bool.not_true, Bool.not_false, ne_eq, Classical.not_not, Decidable.not_not] at h4
      refine SC.exit rfl ?_
      refine SK.code ?_
      refine SC.seq ?_
      have hdone2 : xss.take j = xss := List.take_of_length_le (by omega)
      refine SC.region ?_
      refine SL.op (OpT.plain rfl (OpOk.move (Typ.tmp rfl))) rfl rfl ?_
      refine SL.op (OpT.plain rfl (OpOk.assign (Typ.tmp rfl))) rfl rfl ?_
      refine SL.nil ?_
      refine SK.code ?_
      refine SC.ret ?_
      refine SR.publishRow (t := 2) (i := 0) rfl rfl ?_
      exact SR.one rfl (ResT.eq rfl (by first | ((rw [hdone2])) | rfl | (simp_all []; done) | (simp_all []; rfl) | (simp_all []; omega)))

theorem s_ref04_Get_C (s : Str) (hs0 : s.length ≤ 100000) : FnSpec Tryz.prog glob 14 [V s] (.tup [V (getC s).1, V (getC s).2]) := by
  rw [getC_eq]
  exact s_innkeepref04_Get s hs0
end Go.Proofs.YtgnblhmejecgfaaGreatDoor
