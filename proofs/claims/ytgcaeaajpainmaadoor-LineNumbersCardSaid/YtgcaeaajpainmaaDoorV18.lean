/- Layer 4: the laws LineBack and LineNumbers. -/
import Derived.Test.YtgcaeaajpainmaaDoorV16
import Derived.Test.YtgcaeaajpainmaaDoorKF
set_option linter.all false

namespace Go.Proofs.YtgcaeaajpainmaaDoor
open Go Go.RowKit Go.Inn
set_option linter.unusedSimpArgs false
set_option linter.unusedVariables false
set_option maxRecDepth 100000
theorem getC_two' (s : Str) : (getC s).2 = 0 ∨ (getC s).2 = 2 := by
  unfold getC
  split
  · exact .inr rfl
  · split
    · exact .inl rfl
    · exact .inr rfl
theorem getC_err' (s : Str) : (getC s).2 ≠ 0 → (getC s).1 = {} := by
  unfold getC
  split
  · intro _; rfl
  · split
    · intro h; exact absurd rfl h
    · intro _; rfl
theorem putR_le (c : Cmd) : (putR c).1.length ≤ 10100 := by
  unfold putR
  split
  · rename_i h; exact join_words_le h
  · simp
theorem putR_zero {c : Cmd} (h : (putR c).2 = 0) : mayR c = true ∧ (putR c).1 = join (wordsR c) := by
  unfold putR at h ⊢
  split
  · rename_i q; exact ⟨q, rfl⟩
  · rename_i q; rw [if_neg q] at h; cases h
theorem words_gaps (a : Str) : words ([32, 32] ++ a ++ [32]) = words a := by
  have e : [32, 32] ++ a ++ [32] = ([] : Str) ++ 32 :: ([] ++ 32 :: (a ++ 32 :: [])) := by simp
  rw [e, words_gap2, words_gap2, words_gap2]
  simp [words_nil]
theorem back_read {c : Cmd} (h : (putR c).2 = 0) : getC ([32, 32] ++ (putR c).1 ++ [32]) = (c, 0) := by
  obtain ⟨hm, e⟩ := putR_zero h
  exact getC_words hm (by rw [words_gaps, e, words_join (wordsR_plain hm)])
theorem back_same {c d : Cmd} (hc : (putR c).2 = 0) (hd : (putR d).2 = 0) : ((putR c).1 = (putR d).1) ↔ c = d := by
  obtain ⟨h1, e1⟩ := putR_zero hc
  obtain ⟨h2, e2⟩ := putR_zero hd
  constructor
  · intro e
    rw [e1, e2] at e
    have := congrArg words e
    rw [words_join (wordsR_plain h1), words_join (wordsR_plain h2)] at this
    exact wordsR_inj h1 h2 this
  · intro e; rw [e]
theorem back_dead {c d x : Cmd} {e : Int} (hx : (x, e) = (c, 0)) (hc : (putR c).2 = 0) (h : (¬ e = 0 ∨ ¬ x = c) ∨ (putR d).2 = 0 ∧ (decide ((putR c).1 = (putR d).1) == decide (c = d)) = false) : False := by
  cases hx
  rcases h with (h | h) | ⟨h1, h2⟩
  · exact h rfl
  · exact h rfl
  · have this : decide ((putR c).1 = (putR d).1) = decide (c = d) := decide_eq_decide.2 (back_same hc h1)
    rw [this] at h2
    simp at h2
theorem back_put {s : Str} (h : (getC s).2 = 0) : putR (getC s).1 = (join (words s), 0) := by
  obtain ⟨h1, h2⟩ := getC_zero h
  rw [putR_ok h1, h2]
theorem back_len {s : Str} (h : (getC s).2 = 0) : (join (words s)).length ≤ 1000000000000 := by
  obtain ⟨h1, h2⟩ := getC_zero h
  rw [← h2]
  exact Nat.le_trans (join_words_le h1) (by omega)

/-! innkeep/innkeeplaw04.LineBack -/
theorem s_innkeeplaw04_LineBack (c d : Cmd) (s : Str) : FnSpec Tryd.prog glob 3 [V c, V d, V s] (V true) := by
  refine FnSpec.enter Tryd.func3 rfl rfl rfl fun m0 w0 => ?_
  refine SC.learnStr (t := 2) rfl fun hp2 => ?_
  refine SC.seq ?_
  refine SC.region ?_
  refine SL.op (OpT.plain rfl (OpOk.boxRef (Typ.tmp rfl))) rfl rfl ?_
  refine SL.op (OpT.plain rfl (OpOk.boxRef (Typ.tmp rfl))) rfl rfl ?_
  refine SL.op (OpT.plain rfl (OpOk.assign Typ.cbool)) rfl rfl ?_
  refine SL.nil ?_
  refine SK.code ?_
  refine SC.seq ?_
  refine SC.seq ?_
  refine SC.region ?_
  refine SL.op (OpT.plain rfl (OpOk.call Tryd.call5 Typ.fn Typs.nil (s_innkeeplaw04_awake))) rfl rfl ?_
  refine SL.op (OpT.plain rfl (OpOk.not (Typ.tmp rfl))) rfl rfl ?_
  refine SL.op (OpT.plain rfl (OpOk.move (Typ.tmp rfl))) rfl rfl ?_
  refine SL.op (OpT.guard rfl rfl rfl (fun _ _ h => V_bool h) (fun hg => OpOk.loadRef ty_24 (Typ.tmp rfl))) rfl rfl ?_
  refine SL.op (OpT.guard rfl rfl rfl (fun _ _ h => V_bool h) (fun hg => OpOk.call Tryd.call6 Typ.fn (Typs.cons (Typ.cond hg rfl) Typs.nil) (s_innkeepref03_Few _))) rfl rfl ?_
  refine SL.op (OpT.guard rfl rfl rfl (fun _ _ h => V_bool h) (fun hg => OpOk.not (Typ.cond hg rfl))) rfl rfl ?_
  refine SL.op (OpT.plain rfl (OpOk.pickOr (Typ.tmp rfl) (fun hb => Typ.cond hb rfl))) rfl rfl ?_
  refine SL.op (OpT.plain rfl (OpOk.move (Typ.tmp rfl))) rfl rfl ?_
  refine SL.op (OpT.guard rfl rfl rfl (fun _ _ h => V_bool h) (fun hg => OpOk.loadRef ty_24 (Typ.tmp rfl))) rfl rfl ?_
  refine SL.op (OpT.guard rfl rfl rfl (fun _ _ h => V_bool h) (fun hg => OpOk.call Tryd.call6 Typ.fn (Typs.cons (Typ.cond hg rfl) Typs.nil) (s_innkeepref03_Few _))) rfl rfl ?_
  refine SL.op (OpT.guard rfl rfl rfl (fun _ _ h => V_bool h) (fun hg => OpOk.not (Typ.cond hg rfl))) rfl rfl ?_
  refine SL.op (OpT.plain rfl (OpOk.pickOr (Typ.tmp rfl) (fun hb => Typ.cond hb rfl))) rfl rfl ?_
  refine SL.op (OpT.plain rfl (OpOk.move (Typ.tmp rfl))) rfl rfl ?_
  refine SL.op (OpT.guard rfl rfl rfl (fun _ _ h => V_bool h) (fun hg => OpOk.move (Typ.tmp rfl))) rfl rfl ?_
  refine SL.op (OpT.guard rfl rfl rfl (fun _ _ h => V_bool h) (fun hg => OpOk.lenStr Tryd.underlying9 (Typ.cond hg rfl))) rfl rfl ?_
  refine SL.op (OpT.guard rfl rfl rfl (fun _ _ h => V_bool h) (fun hg => OpOk.gtr (Typ.cond hg rfl) Typ.cint)) rfl rfl ?_
  refine SL.op (OpT.plain rfl (OpOk.pickOr (Typ.tmp rfl) (fun hb => Typ.cond hb rfl))) rfl rfl ?_
  refine SL.nil ?_
  refine SK.code ?_
  refine SC.cond rfl (fun _ _ h => V_bool h) (fun h1 => ?_) (fun h1 => ?_)
  · skip
    try simp only [decide_eq_true_eq, decide_eq_false_iff_not, Bool.and_eq_true, Bool.or_eq_true, Bool.not_eq_true', Bool.not_eq_false', Bool.and_eq_false_iff, Bool.or_eq_false_iff, Bool.not_not, Bool.not_true, Bool.not_false, ne_eq, Classical.not_not, Decidable.not_not] at h1
    refine SC.seq ?_
    refine SC.region ?_
    refine SL.op (OpT.plain rfl (OpOk.call Tryd.call5 Typ.fn Typs.nil (s_innkeeplaw04_awake))) rfl rfl ?_
    refine SL.op (OpT.plain rfl (OpOk.assign (Typ.tmp rfl))) rfl rfl ?_
    refine SL.nil ?_
    refine SK.code ?_
    refine SC.ret ?_
    exact SR.one rfl (ResT.eq rfl (by first | ((have q1 := getC_two' s; have q2 := getC_err' s; simp_all; done)) | ((have q1 := back_put (s := s) (by first | assumption | (simp_all; done)); simp_all; done)) | rfl | (simp_all []; done) | (simp_all []; rfl) | (simp_all []; omega)))
  · skip
    try simp only [decide_eq_true_eq, decide_eq_false_iff_not, Bool.and_eq_true, Bool.or_eq_true, Bool.not_eq_true', Bool.not_eq_false', Bool.and_eq_false_iff, Bool.or_eq_false_iff, Bool.not_not, Bool.not_true, Bool.not_false, ne_eq, Classical.not_not, Decidable.not_not] at h1
    have hsl : (s.length : Int) ≤ 1000 := by first | (simp_all; done) | (simp_all; omega)
    refine SC.skip ?_
    refine SK.code ?_
    refine SC.seq ?_
    refine SC.region ?_
    refine SL.op (OpT.plain rfl (OpOk.loadRef ty_24 (Typ.tmp rfl))) rfl rfl ?_
    refine SL.op (OpT.plain rfl (OpOk.call Tryd.call7 Typ.fn (Typs.cons (Typ.tmp rfl) Typs.nil) (s_line_Put _))) rfl rfl ?_
    refine SL.op (OpT.plain rfl (OpOk.move (Typ.tmp rfl))) rfl rfl ?_
    refine SL.op (OpT.plain rfl (OpOk.extract (Typ.tmp rfl) rfl)) rfl rfl ?_
    refine SL.op (OpT.plain rfl (OpOk.extract (Typ.tmp rfl) rfl)) rfl rfl ?_
    refine SL.op (OpT.plain rfl (OpOk.assign (Typ.tmp rfl))) rfl rfl ?_
    refine SL.op (OpT.plain rfl (OpOk.assign (Typ.tmp rfl))) rfl rfl ?_
    refine SL.nil ?_
    refine SK.code ?_
    refine SC.seq ?_
    refine SC.region ?_
    refine SL.op (OpT.plain rfl (OpOk.loadRef ty_24 (Typ.tmp rfl))) rfl rfl ?_
    refine SL.op (OpT.plain rfl (OpOk.call Tryd.call7 Typ.fn (Typs.cons (Typ.tmp rfl) Typs.nil) (s_line_Put _))) rfl rfl ?_
    refine SL.op (OpT.plain rfl (OpOk.move (Typ.tmp rfl))) rfl rfl ?_
    refine SL.op (OpT.plain rfl (OpOk.extract (Typ.tmp rfl) rfl)) rfl rfl ?_
    refine SL.op (OpT.plain rfl (OpOk.extract (Typ.tmp rfl) rfl)) rfl rfl ?_
    refine SL.op (OpT.plain rfl (OpOk.assign (Typ.tmp rfl))) rfl rfl ?_
    refine SL.op (OpT.plain rfl (OpOk.assign (Typ.tmp rfl))) rfl rfl ?_
    refine SL.nil ?_
    refine SK.code ?_
    refine SC.seq ?_
    refine SC.seq ?_
    refine SC.region ?_
    refine SL.op (OpT.plain rfl (OpOk.move (Typ.tmp rfl))) rfl rfl ?_
    refine SL.op (OpT.plain rfl (OpOk.eql (Typ.tmp rfl) Typ.cint)) rfl rfl ?_
    refine SL.nil ?_
    refine SK.code ?_
    refine SC.cond rfl (fun _ _ h => V_bool h) (fun h2 => ?_) (fun h2 => ?_)
    · skip
      try simp only [decide_eq_true_eq, decide_eq_false_iff_not, Bool.and_eq_true, Bool.or_eq_true, Bool.not_eq_true', Bool.not_eq_false', Bool.and_eq_false_iff, Bool.or_eq_false_iff, Bool.not_not, Bool.not_true, Bool.not_false, ne_eq, Classical.not_not, Decidable.not_not] at h2
      have hc : (putR c).2 = 0 := (by assumption)
      refine SC.seq ?_
      refine SC.region ?_
      refine SL.op (OpT.plain rfl (OpOk.move (Typ.tmp rfl))) rfl rfl ?_
      refine SL.op (OpT.plain rfl (OpOk.addStr (Typ.cstr (l := [32, 32])) (Typ.tmp rfl) (by have := putR_le c; unfold maxLen; first | omega | (simp; omega)))) rfl rfl ?_
      refine SL.op (OpT.plain rfl (OpOk.addStr (Typ.tmp rfl) (Typ.cstr (l := [32])) (by have := putR_le c; unfold maxLen; first | omega | (simp; omega)))) rfl rfl ?_
      refine SL.op (OpT.plain rfl (OpOk.call Tryd.call8 Typ.fn (Typs.cons (Typ.tmp rfl) Typs.nil) (s_line_Get _ (by have := putR_le c; simp; omega)))) rfl rfl ?_
      refine SL.op (OpT.plain rfl (OpOk.move (Typ.tmp rfl))) rfl rfl ?_
      refine SL.op (OpT.plain rfl (OpOk.extract (Typ.tmp rfl) rfl)) rfl rfl ?_
      refine SL.op (OpT.plain rfl (OpOk.extract (Typ.tmp rfl) rfl)) rfl rfl ?_
      refine SL.allocOwn tyz_24 rfl fun b3 => ?_
      refine SL.opW (OpW.storeOwn ty_24 (Lens.id _) (i := 0) rfl rfl (Typ.tmp rfl) (Typ.tmp rfl)) ?_
      refine SL.op (OpT.plain rfl (OpOk.assign (Typ.tmp rfl))) rfl rfl ?_
      refine SL.nil ?_
      refine SK.code ?_
      refine SC.seq ?_
      refine SC.region ?_
      refine SL.op (OpT.plain rfl (OpOk.move (Typ.tmp rfl))) rfl rfl ?_
      refine SL.op (OpT.plain rfl (OpOk.neq (Typ.tmp rfl) Typ.cint)) rfl rfl ?_
      refine SL.op (OpT.plain rfl (OpOk.move (Typ.tmp rfl))) rfl rfl ?_
      refine SL.op (OpT.guard rfl rfl rfl (fun _ _ h => V_bool h) (fun hg => OpOk.loadOwn ty_24 (Lens.id _) (k := 0) rfl rfl (Typ.tmp rfl))) rfl rfl ?_
      refine SL.op (OpT.guard rfl rfl rfl (fun _ _ h => V_bool h) (fun hg => OpOk.loadRef ty_24 (Typ.tmp rfl))) rfl rfl ?_
      refine SL.op (OpT.guard rfl rfl rfl (fun _ _ h => V_bool h) (fun hg => OpOk.call Tryd.call9 Typ.fn (Typs.cons (Typ.cond hg rfl) (Typs.cons (Typ.cond hg rfl) Typs.nil)) (s_innkeepref03_Same _ _))) rfl rfl ?_
      refine SL.op (OpT.guard rfl rfl rfl (fun _ _ h => V_bool h) (fun hg => OpOk.not (Typ.cond hg rfl))) rfl rfl ?_
      refine SL.op (OpT.plain rfl (OpOk.pickOr (Typ.tmp rfl) (fun hb => Typ.cond hb rfl))) rfl rfl ?_
      refine SL.op (OpT.plain rfl (OpOk.move (Typ.tmp rfl))) rfl rfl ?_
      refine SL.op (OpT.guard rfl rfl rfl (fun _ _ h => V_bool h) (fun hg => OpOk.move (Typ.tmp rfl))) rfl rfl ?_
      refine SL.op (OpT.guard rfl rfl rfl (fun _ _ h => V_bool h) (fun hg => OpOk.eql (Typ.cond hg rfl) Typ.cint)) rfl rfl ?_
      refine SL.op (OpT.guard rfl rfl rfl (fun _ _ h => V_bool h) (fun hg => OpOk.move (Typ.cond hg rfl))) rfl rfl ?_
      refine SL.op (OpT.guard2 rfl rfl rfl (fun _ _ h => V_bool h) (fun hc hg => OpOk.move (Typ.tmp rfl))) rfl rfl ?_
      refine SL.op (OpT.guard2 rfl rfl rfl (fun _ _ h => V_bool h) (fun hc hg => OpOk.move (Typ.tmp rfl))) rfl rfl ?_
      refine SL.op (OpT.guard2 rfl rfl rfl (fun _ _ h => V_bool h) (fun hc hg => OpOk.eqlS (Typ.cond ⟨hc, hg⟩ rfl) (Typ.cond ⟨hc, hg⟩ rfl))) rfl rfl ?_
      refine SL.op (OpT.guard2 rfl rfl rfl (fun _ _ h => V_bool h) (fun hc hg => OpOk.loadRef ty_24 (Typ.tmp rfl))) rfl rfl ?_
      refine SL.op (OpT.guard2 rfl rfl rfl (fun _ _ h => V_bool h) (fun hc hg => OpOk.loadRef ty_24 (Typ.tmp rfl))) rfl rfl ?_
      refine SL.op (OpT.guard2 rfl rfl rfl (fun _ _ h => V_bool h) (fun hc hg => OpOk.call Tryd.call9 Typ.fn (Typs.cons (Typ.cond ⟨hc, hg⟩ rfl) (Typs.cons (Typ.cond ⟨hc, hg⟩ rfl) Typs.nil)) (s_innkeepref03_Same _ _))) rfl rfl ?_
      refine SL.op (OpT.guard2 rfl rfl rfl (fun _ _ h => V_bool h) (fun hc hg => OpOk.neb Tryd.underlying4 (Typ.cond ⟨hc, hg⟩ rfl) (Typ.cond ⟨hc, hg⟩ rfl))) rfl rfl ?_
      refine SL.op (OpT.guard rfl rfl rfl (fun _ _ h => V_bool h) (fun hg => OpOk.pickAnd (Typ.cond hg rfl) (fun hb => Typ.cond ⟨hg, hb⟩ rfl))) rfl rfl ?_
      refine SL.op (OpT.plain rfl (OpOk.pickOr (Typ.tmp rfl) (fun hb => Typ.cond hb rfl))) rfl rfl ?_
      refine SL.nil ?_
      refine SK.code ?_
      refine SC.cond rfl (fun _ _ h => V_bool h) (fun h4 => ?_) (fun h4 => ?_)
      · skip
        try simp only [decide_eq_true_eq, decide_eq_false_iff_not, Bool.and_eq_true, Bool.or_eq_true, Bool.not_eq_true', Bool.not_eq_false', Bool.and_eq_false_iff, Bool.or_eq_false_iff, Bool.not_not, Bool.not_true, Bool.not_false, ne_eq, Classical.not_not, Decidable.not_not] at h4
        (exfalso; exact back_dead (back_read hc) hc (by assumption))
      · skip
        try simp only [decide_eq_true_eq, decide_eq_false_iff_not, Bool.and_eq_true, Bool.or_eq_true, Bool.not_eq_true', Bool.not_eq_false', Bool.and_eq_false_iff, Bool.or_eq_false_iff, Bool.not_not, Bool.not_true, Bool.not_false, ne_eq, Classical.not_not, Decidable.not_not] at h4
        refine SC.skip ?_
        refine SK.code ?_
        refine SC.seq ?_
        refine SC.region ?_
        refine SL.op (OpT.plain rfl (OpOk.move (Typ.tmp rfl))) rfl rfl ?_
        refine SL.op (OpT.plain rfl (OpOk.call Tryd.call8 Typ.fn (Typs.cons (Typ.tmp rfl) Typs.nil) (s_line_Get _ (by omega)))) rfl rfl ?_
        refine SL.op (OpT.plain rfl (OpOk.move (Typ.tmp rfl))) rfl rfl ?_
        refine SL.op (OpT.plain rfl (OpOk.extract (Typ.tmp rfl) rfl)) rfl rfl ?_
        refine SL.op (OpT.plain rfl (OpOk.extract (Typ.tmp rfl) rfl)) rfl rfl ?_
        refine SL.allocOwn tyz_24 rfl fun b5 => ?_
        refine SL.opW (OpW.storeOwn ty_24 (Lens.id _) (i := 1) rfl rfl (Typ.tmp rfl) (Typ.tmp rfl)) ?_
        refine SL.op (OpT.plain rfl (OpOk.assign (Typ.tmp rfl))) rfl rfl ?_
        refine SL.nil ?_
        refine SK.code ?_
        refine SC.seq ?_
        refine SC.region ?_
        refine SL.op (OpT.plain rfl (OpOk.loadOwn ty_24 (Lens.id _) (k := 1) rfl rfl (Typ.tmp rfl))) rfl rfl ?_
        refine SL.op (OpT.plain rfl (OpOk.call Tryd.call7 Typ.fn (Typs.cons (Typ.tmp rfl) Typs.nil) (s_line_Put _))) rfl rfl ?_
        refine SL.op (OpT.plain rfl (OpOk.move (Typ.tmp rfl))) rfl rfl ?_
        refine SL.op (OpT.plain rfl (OpOk.extract (Typ.tmp rfl) rfl)) rfl rfl ?_
        refine SL.op (OpT.plain rfl (OpOk.extract (Typ.tmp rfl) rfl)) rfl rfl ?_
        refine SL.op (OpT.plain rfl (OpOk.assign (Typ.tmp rfl))) rfl rfl ?_
        refine SL.op (OpT.plain rfl (OpOk.assign (Typ.tmp rfl))) rfl rfl ?_
        refine SL.nil ?_
        refine SK.code ?_
        refine SC.seq ?_
        refine SC.seq ?_
        refine SC.region ?_
        refine SL.op (OpT.plain rfl (OpOk.move (Typ.tmp rfl))) rfl rfl ?_
        refine SL.op (OpT.plain rfl (OpOk.neq (Typ.tmp rfl) Typ.cint)) rfl rfl ?_
        refine SL.nil ?_
        refine SK.code ?_
        refine SC.cond rfl (fun _ _ h => V_bool h) (fun h6 => ?_) (fun h6 => ?_)
        · skip
          try simp only [decide_eq_true_eq, decide_eq_false_iff_not, Bool.and_eq_true, Bool.or_eq_true, Bool.not_eq_true', Bool.not_eq_false', Bool.and_eq_false_iff, Bool.or_eq_false_iff, Bool.not_not, Bool.not_true, Bool.not_false, ne_eq, Classical.not_not, Decidable.not_not] at h6
          refine SC.seq ?_
          refine SC.region ?_
          refine SL.op (OpT.plain rfl (OpOk.move (Typ.tmp rfl))) rfl rfl ?_
          refine SL.op (OpT.plain rfl (OpOk.eql (Typ.tmp rfl) Typ.cint)) rfl rfl ?_
          refine SL.op (OpT.plain rfl (OpOk.move (Typ.tmp rfl))) rfl rfl ?_
          refine SL.op (OpT.guard rfl rfl rfl (fun _ _ h => V_bool h) (fun hg => OpOk.loadOwn ty_24 (Lens.id _) (k := 1) rfl rfl (Typ.tmp rfl))) rfl rfl ?_
          refine SL.op (OpT.guard rfl rfl rfl (fun _ _ h => V_bool h) (fun hg => OpOk.build tys_24 Parts.nil)) rfl rfl ?_
          refine SL.op (OpT.guard rfl rfl rfl (fun _ _ h => V_bool h) (fun hg => OpOk.call Tryd.call9 Typ.fn (Typs.cons (Typ.cond hg rfl) (Typs.cons (Typ.cond hg rfl) Typs.nil)) (s_innkeepref03_Same _ _))) rfl rfl ?_
          refine SL.op (OpT.plain rfl (OpOk.pickAnd (Typ.tmp rfl) (fun hb => Typ.cond hb rfl))) rfl rfl ?_
          refine SL.op (OpT.plain rfl (OpOk.assign (Typ.tmp rfl))) rfl rfl ?_
          refine SL.nil ?_
          refine SK.code ?_
          refine SC.ret ?_
          exact SR.one rfl (ResT.eq rfl (by first | ((have q1 := getC_two' s; have q2 := getC_err' s; simp_all; done)) | ((have q1 := back_put (s := s) (by first | assumption | (simp_all; done)); simp_all; done)) | rfl | (simp_all []; done) | (simp_all []; rfl) | (simp_all []; omega)))
        · skip
          try simp only [decide_eq_true_eq, decide_eq_false_iff_not, Bool.and_eq_true, Bool.or_eq_true, Bool.not_eq_true', Bool.not_eq_false', Bool.and_eq_false_iff, Bool.or_eq_false_iff, Bool.not_not, Bool.not_true, Bool.not_false, ne_eq, Classical.not_not, Decidable.not_not] at h6
          refine SC.skip ?_
          refine SK.code ?_
          refine SC.seq ?_
          refine SC.region ?_
          refine SL.op (OpT.plain rfl (OpOk.move (Typ.tmp rfl))) rfl rfl ?_
          refine SL.op (OpT.plain rfl (OpOk.eql (Typ.tmp rfl) Typ.cint)) rfl rfl ?_
          refine SL.op (OpT.plain rfl (OpOk.move (Typ.tmp rfl))) rfl rfl ?_
          refine SL.op (OpT.guard rfl rfl rfl (fun _ _ h => V_bool h) (fun hg => OpOk.move (Typ.tmp rfl))) rfl rfl ?_
          refine SL.op (OpT.guard rfl rfl rfl (fun _ _ h => V_bool h) (fun hg => OpOk.call Tryd.call11 Typ.fn (Typs.cons (Typ.cond hg rfl) Typs.nil) (s_innkeepref02_Cut _ (by omega)))) rfl rfl ?_
          refine SL.op (OpT.guard rfl rfl rfl (fun _ _ h => V_bool h) (fun hg => OpOk.call Tryd.call10 Typ.fn (Typs.cons (Typ.cond hg rfl) Typs.nil) (s_innkeepref02_Join _ (back_len (by assumption))))) rfl rfl ?_
          refine SL.op (OpT.guard rfl rfl rfl (fun _ _ h => V_bool h) (fun hg => OpOk.move (Typ.tmp rfl))) rfl rfl ?_
          refine SL.op (OpT.guard rfl rfl rfl (fun _ _ h => V_bool h) (fun hg => OpOk.eqlS (Typ.cond hg rfl) (Typ.cond hg rfl))) rfl rfl ?_
          refine SL.op (OpT.plain rfl (OpOk.pickAnd (Typ.tmp rfl) (fun hb => Typ.cond hb rfl))) rfl rfl ?_
          refine SL.op (OpT.plain rfl (OpOk.assign (Typ.tmp rfl))) rfl rfl ?_
          refine SL.nil ?_
          refine SK.code ?_
          refine SC.ret ?_
          exact SR.one rfl (ResT.eq rfl (by first | ((have q1 := getC_two' s; have q2 := getC_err' s; simp_all; done)) | ((have q1 := back_put (s := s) (by first | assumption | (simp_all; done)); simp_all; done)) | rfl | (simp_all []; done) | (simp_all []; rfl) | (simp_all []; omega)))
    · skip
      try simp only [decide_eq_true_eq, decide_eq_false_iff_not, Bool.and_eq_true, Bool.or_eq_true, Bool.not_eq_true', Bool.not_eq_false', Bool.and_eq_false_iff, Bool.or_eq_false_iff, Bool.not_not, Bool.not_true, Bool.not_false, ne_eq, Classical.not_not, Decidable.not_not] at h2
      refine SC.skip ?_
      refine SK.code ?_
      refine SC.seq ?_
      refine SC.region ?_
      refine SL.op (OpT.plain rfl (OpOk.move (Typ.tmp rfl))) rfl rfl ?_
      refine SL.op (OpT.plain rfl (OpOk.call Tryd.call8 Typ.fn (Typs.cons (Typ.tmp rfl) Typs.nil) (s_line_Get _ (by omega)))) rfl rfl ?_
      refine SL.op (OpT.plain rfl (OpOk.move (Typ.tmp rfl))) rfl rfl ?_
      refine SL.op (OpT.plain rfl (OpOk.extract (Typ.tmp rfl) rfl)) rfl rfl ?_
      refine SL.op (OpT.plain rfl (OpOk.extract (Typ.tmp rfl) rfl)) rfl rfl ?_
      refine SL.allocOwn tyz_24 rfl fun b7 => ?_
      refine SL.opW (OpW.storeOwn ty_24 (Lens.id _) (i := 0) rfl rfl (Typ.tmp rfl) (Typ.tmp rfl)) ?_
      refine SL.op (OpT.plain rfl (OpOk.assign (Typ.tmp rfl))) rfl rfl ?_
      refine SL.nil ?_
      refine SK.code ?_
      refine SC.seq ?_
      refine SC.region ?_
      refine SL.op (OpT.plain rfl (OpOk.loadOwn ty_24 (Lens.id _) (k := 0) rfl rfl (Typ.tmp rfl))) rfl rfl ?_
      refine SL.op (OpT.plain rfl (OpOk.call Tryd.call7 Typ.fn (Typs.cons (Typ.tmp rfl) Typs.nil) (s_line_Put _))) rfl rfl ?_
      refine SL.op (OpT.plain rfl (OpOk.move (Typ.tmp rfl))) rfl rfl ?_
      refine SL.op (OpT.plain rfl (OpOk.extract (Typ.tmp rfl) rfl)) rfl rfl ?_
      refine SL.op (OpT.plain rfl (OpOk.extract (Typ.tmp rfl) rfl)) rfl rfl ?_
      refine SL.op (OpT.plain rfl (OpOk.assign (Typ.tmp rfl))) rfl rfl ?_
      refine SL.op (OpT.plain rfl (OpOk.assign (Typ.tmp rfl))) rfl rfl ?_
      refine SL.nil ?_
      refine SK.code ?_
      refine SC.seq ?_
      refine SC.seq ?_
      refine SC.region ?_
      refine SL.op (OpT.plain rfl (OpOk.move (Typ.tmp rfl))) rfl rfl ?_
      refine SL.op (OpT.plain rfl (OpOk.neq (Typ.tmp rfl) Typ.cint)) rfl rfl ?_
      refine SL.nil ?_
      refine SK.code ?_
      refine SC.cond rfl (fun _ _ h => V_bool h) (fun h8 => ?_) (fun h8 => ?_)
      · skip
        try simp only [decide_eq_true_eq, decide_eq_false_iff_not, Bool.and_eq_true, Bool.or_eq_true, Bool.not_eq_true', Bool.not_eq_false', Bool.and_eq_false_iff, Bool.or_eq_false_iff, Bool.not_not, Bool.not_true, Bool.not_false, ne_eq, Classical.not_not, Decidable.not_not] at h8
        refine SC.seq ?_
        refine SC.region ?_
        refine SL.op (OpT.plain rfl (OpOk.move (Typ.tmp rfl))) rfl rfl ?_
        refine SL.op (OpT.plain rfl (OpOk.eql (Typ.tmp rfl) Typ.cint)) rfl rfl ?_
        refine SL.op (OpT.plain rfl (OpOk.move (Typ.tmp rfl))) rfl rfl ?_
        refine SL.op (OpT.guard rfl rfl rfl (fun _ _ h => V_bool h) (fun hg => OpOk.loadOwn ty_24 (Lens.id _) (k := 0) rfl rfl (Typ.tmp rfl))) rfl rfl ?_
        refine SL.op (OpT.guard rfl rfl rfl (fun _ _ h => V_bool h) (fun hg => OpOk.build tys_24 Parts.nil)) rfl rfl ?_
        refine SL.op (OpT.guard rfl rfl rfl (fun _ _ h => V_bool h) (fun hg => OpOk.call Tryd.call9 Typ.fn (Typs.cons (Typ.cond hg rfl) (Typs.cons (Typ.cond hg rfl) Typs.nil)) (s_innkeepref03_Same _ _))) rfl rfl ?_
        refine SL.op (OpT.plain rfl (OpOk.pickAnd (Typ.tmp rfl) (fun hb => Typ.cond hb rfl))) rfl rfl ?_
        refine SL.op (OpT.plain rfl (OpOk.assign (Typ.tmp rfl))) rfl rfl ?_
        refine SL.nil ?_
        refine SK.code ?_
        refine SC.ret ?_
        exact SR.one rfl (ResT.eq rfl (by first | ((have q1 := getC_two' s; have q2 := getC_err' s; simp_all; done)) | ((have q1 := back_put (s := s) (by first | assumption | (simp_all; done)); simp_all; done)) | rfl | (simp_all []; done) | (simp_all []; rfl) | (simp_all []; omega)))
      · skip
        try simp only [decide_eq_true_eq, decide_eq_false_iff_not, Bool.and_eq_true, Bool.or_eq_true, Bool.not_eq_true', Bool.not_eq_false', Bool.and_eq_false_iff, Bool.or_eq_false_iff, Bool.not_not, Bool.not_true, Bool.not_false, ne_eq, Classical.not_not, Decidable.not_not] at h8
        refine SC.skip ?_
        refine SK.code ?_
        refine SC.seq ?_
        refine SC.region ?_
        refine SL.op (OpT.plain rfl (OpOk.move (Typ.tmp rfl))) rfl rfl ?_
        refine SL.op (OpT.plain rfl (OpOk.eql (Typ.tmp rfl) Typ.cint)) rfl rfl ?_
        refine SL.op (OpT.plain rfl (OpOk.move (Typ.tmp rfl))) rfl rfl ?_
        refine SL.op (OpT.guard rfl rfl rfl (fun _ _ h => V_bool h) (fun hg => OpOk.move (Typ.tmp rfl))) rfl rfl ?_
        refine SL.op (OpT.guard rfl rfl rfl (fun _ _ h => V_bool h) (fun hg => OpOk.call Tryd.call11 Typ.fn (Typs.cons (Typ.cond hg rfl) Typs.nil) (s_innkeepref02_Cut _ (by omega)))) rfl rfl ?_
        refine SL.op (OpT.guard rfl rfl rfl (fun _ _ h => V_bool h) (fun hg => OpOk.call Tryd.call10 Typ.fn (Typs.cons (Typ.cond hg rfl) Typs.nil) (s_innkeepref02_Join _ (back_len (by assumption))))) rfl rfl ?_
        refine SL.op (OpT.guard rfl rfl rfl (fun _ _ h => V_bool h) (fun hg => OpOk.move (Typ.tmp rfl))) rfl rfl ?_
        refine SL.op (OpT.guard rfl rfl rfl (fun _ _ h => V_bool h) (fun hg => OpOk.eqlS (Typ.cond hg rfl) (Typ.cond hg rfl))) rfl rfl ?_
        refine SL.op (OpT.plain rfl (OpOk.pickAnd (Typ.tmp rfl) (fun hb => Typ.cond hb rfl))) rfl rfl ?_
        refine SL.op (OpT.plain rfl (OpOk.assign (Typ.tmp rfl))) rfl rfl ?_
        refine SL.nil ?_
        refine SK.code ?_
        refine SC.ret ?_
        exact SR.one rfl (ResT.eq rfl (by first | ((have q1 := getC_two' s; have q2 := getC_err' s; simp_all; done)) | ((have q1 := back_put (s := s) (by first | assumption | (simp_all; done)); simp_all; done)) | rfl | (simp_all []; done) | (simp_all []; rfl) | (simp_all []; omega)))

theorem num_fit {i : UInt32} (h : ¬ 1073741824 < i) : fit (i.toNat : Int) := by
  rw [UInt32.lt_iff_toNat_lt] at h
  have e : (1073741824 : UInt32).toNat = 1073741824 := rfl
  rw [e] at h
  exact ⟨by omega, by omega⟩
theorem word_zero {n : Int} (h : fit n) {w : Str} (hw : w ≠ []) : ¬ wordR n = 48 :: w := by
  intro e
  have h1 := numR_word h
  have hl := wordR_len 9 n (by have := h.2; show n < (10 : Int) ^ 10; have e : (10 : Int) ^ 10 = 10000000000 := by decide
                               omega)
  rw [e] at h1 hl
  obtain ⟨x, r, rfl⟩ : ∃ x r, w = x :: r := by cases w with
    | nil => exact absurd rfl hw
    | cons x r => exact ⟨x, r, rfl⟩
  unfold numR at h1
  rw [if_neg (by rintro (h | h); · cases h
                 · omega)] at h1
  have e2 : numLoop (48 :: x :: r) true 0 = none := by
    rw [numLoop, if_neg (by simp), numLoop, if_pos (by right; right; exact ⟨rfl, rfl⟩)]
  rw [e2] at h1
  cases h1
theorem bad_read {s : Str} (h : ∀ c, mayR c = true → ¬ wordsR c = words s) : getC s = ({}, 2) := by
  have h2 : ¬ (getC s).2 = 0 := fun e => h _ (getC_zero e).1 (getC_zero e).2
  have h3 := getC_err' s h2
  rcases getC_two' s with e | e
  · exact absurd e h2
  · exact Prod.ext h3 e
theorem kind_of_words {c : Cmd} (hm : mayR c = true) {k : Int} (hk : 1 ≤ k ∧ k ≤ 10) {l : List Str} (h : wordsR c = nameK k :: l) : c.kind = k := by
  have e : nameK c.kind = nameK k := by
    have : nameK c.kind :: (wordsR c).drop 1 = nameK k :: l := h
    exact (List.cons.inj this).1
  exact nameK_inj (may_kind1 hm) hk e
section
variable {x y : Int}
theorem n_words4 {a b c d : Str} (ha : plainW a) (hb : plainW b) (hc : plainW c) (hd : plainW d) : words (a ++ 32 :: (b ++ 32 :: (c ++ 32 :: d))) = [a, b, c, d] := by
  rw [words_gap2, words_gap2, words_gap2, words_one ha, words_one hb, words_one hc, words_one hd]; rfl
theorem lit_plain {w : Str} (h : w.all (fun b => decide (b ≠ 32)) = true ∧ w ≠ []) : plainW w := ⟨h.2, fun x hx => by have := List.all_eq_true.1 h.1 x hx; simpa using this⟩
theorem zero_plain (h : fit x) : plainW (48 :: wordR x) := ⟨by simp, fun z hz e => by
  rcases List.mem_cons.1 hz with hz | hz
  · rw [hz] at e; exact absurd e (by decide)
  · exact (fit_plain h).2 z hz e⟩
theorem may5 (hx : fit x) (hy : fit y) : mayR { kind := 5, item := x, box := y } = true ∧ mayR { kind := 6, item := x, box := y } = true ∧ mayR { kind := 7, item := x, who := y } = true ∧ mayR { kind := 8, who := y, gives := [x, x], pay := y, wants := [y], fee := x } = true := by
  have h1 := (fitB_iff x).2 hx
  have h2 := (fitB_iff y).2 hy
  refine ⟨?_, ?_, ?_, ?_⟩ <;> simp [mayR, fitH, rowH, rowB, h1, h2]
theorem n1 (hx : fit x) (hy : fit y) : getC ([112, 117, 116, 32] ++ wordR x ++ [32, 105, 110, 32] ++ wordR y) = ({ kind := 5, item := x, box := y }, 0) := by
  refine getC_words (may5 hx hy).1 ?_
  have e : [112, 117, 116, 32] ++ wordR x ++ [32, 105, 110, 32] ++ wordR y = [112, 117, 116] ++ 32 :: (wordR x ++ 32 :: ([105, 110] ++ 32 :: wordR y)) := by simp
  rw [e, n_words4 (lit_plain (by decide)) (fit_plain hx) (lit_plain (by decide)) (fit_plain hy)]; rfl
theorem n2 (hx : fit x) (hy : fit y) : getC ([116, 97, 107, 101, 32] ++ wordR x ++ [32, 102, 114, 111, 109, 32] ++ wordR y) = ({ kind := 6, item := x, box := y }, 0) := by
  refine getC_words (may5 hx hy).2.1 ?_
  have e : [116, 97, 107, 101, 32] ++ wordR x ++ [32, 102, 114, 111, 109, 32] ++ wordR y = [116, 97, 107, 101] ++ 32 :: (wordR x ++ 32 :: ([102, 114, 111, 109] ++ 32 :: wordR y)) := by simp
  rw [e, n_words4 (lit_plain (by decide)) (fit_plain hx) (lit_plain (by decide)) (fit_plain hy)]; rfl
theorem n3 (hx : fit x) (hy : fit y) : getC ([112, 117, 116, 32, 48] ++ wordR x ++ [32, 105, 110, 32] ++ wordR y) = ({}, 2) := by
  have e : [112, 117, 116, 32, 48] ++ wordR x ++ [32, 105, 110, 32] ++ wordR y = [112, 117, 116] ++ 32 :: ((48 :: wordR x) ++ 32 :: ([105, 110] ++ 32 :: wordR y)) := by simp
  rw [e]
  refine bad_read fun c hm h => ?_
  rw [n_words4 (lit_plain (by decide)) (zero_plain hx) (lit_plain (by decide)) (fit_plain hy)] at h
  have hk := kind_of_words (k := 5) hm (by omega) h
  rcases may_shape hm with ⟨d, hd, rfl⟩ | ⟨w, d, hw, hd, rfl⟩ | ⟨k, i, hk2, hi, rfl⟩ | ⟨k, i, b, hk2, hi, hb, rfl⟩ | ⟨i, w, hi, hw, rfl⟩ | ⟨w, g, p, q, f, hw, hg, hp, hq, hf, rfl⟩ | ⟨k, hk2, rfl⟩
  all_goals dsimp only at hk
  any_goals omega
  subst hk
  have h : [nameK 5, wordR i, [105, 110], wordR b] = [[112, 117, 116], 48 :: wordR x, [105, 110], wordR y] := h
  simp only [List.cons.injEq] at h
  exact word_zero hi (wordR_ne x) h.2.1
theorem n4 (hx : fit x) (hy : fit y) : getC ([103, 105, 118, 101, 32] ++ wordR x ++ [32, 116, 111, 32, 48] ++ wordR y) = ({}, 2) := by
  have e : [103, 105, 118, 101, 32] ++ wordR x ++ [32, 116, 111, 32, 48] ++ wordR y = [103, 105, 118, 101] ++ 32 :: (wordR x ++ 32 :: ([116, 111] ++ 32 :: (48 :: wordR y))) := by simp
  rw [e]
  refine bad_read fun c hm h => ?_
  rw [n_words4 (lit_plain (by decide)) (fit_plain hx) (lit_plain (by decide)) (zero_plain hy)] at h
  have hk := kind_of_words (k := 7) hm (by omega) h
  rcases may_shape hm with ⟨d, hd, rfl⟩ | ⟨w, d, hw, hd, rfl⟩ | ⟨k, i, hk2, hi, rfl⟩ | ⟨k, i, b, hk2, hi, hb, rfl⟩ | ⟨i, w, hi, hw, rfl⟩ | ⟨w, g, p, q, f, hw, hg, hp, hq, hf, rfl⟩ | ⟨k, hk2, rfl⟩
  all_goals dsimp only at hk
  any_goals omega
  have h : [nameK 7, wordR i, [116, 111], wordR w] = [[103, 105, 118, 101], wordR x, [116, 111], 48 :: wordR y] := h
  simp only [List.cons.injEq] at h
  exact word_zero hw (wordR_ne y) h.2.2.2.1
theorem n5 (hx : fit x) (hy : fit y) : getC ([116, 114, 97, 100, 101, 32] ++ wordR y ++ [32, 103, 105, 118, 101, 32] ++ wordR x ++ [32] ++ wordR x ++ [32, 99, 111, 105, 110, 115, 32] ++ wordR y ++ [32, 102, 111, 114, 32] ++ wordR y ++ [32, 99, 111, 105, 110, 115, 32] ++ wordR x) = ({ kind := 8, who := y, gives := [x, x], pay := y, wants := [y], fee := x }, 0) := by
  refine getC_words (may5 hx hy).2.2.2 ?_
  have px := fit_plain hx
  have py := fit_plain hy
  have e : [116, 114, 97, 100, 101, 32] ++ wordR y ++ [32, 103, 105, 118, 101, 32] ++ wordR x ++ [32] ++ wordR x ++ [32, 99, 111, 105, 110, 115, 32] ++ wordR y ++ [32, 102, 111, 114, 32] ++ wordR y ++ [32, 99, 111, 105, 110, 115, 32] ++ wordR x =
    [116, 114, 97, 100, 101] ++ 32 :: (wordR y ++ 32 :: ([103, 105, 118, 101] ++ 32 :: (wordR x ++ 32 :: (wordR x ++ 32 :: ([99, 111, 105, 110, 115] ++ 32 :: (wordR y ++ 32 :: ([102, 111, 114] ++ 32 :: (wordR y ++ 32 :: ([99, 111, 105, 110, 115] ++ 32 :: wordR x))))))))) := by simp
  have l1 : plainW [116, 114, 97, 100, 101] := lit_plain (by decide)
  have l2 : plainW [103, 105, 118, 101] := lit_plain (by decide)
  have l3 : plainW [99, 111, 105, 110, 115] := lit_plain (by decide)
  have l4 : plainW [102, 111, 114] := lit_plain (by decide)
  rw [e]
  simp only [words_gap2, words_one px, words_one py, words_one l1, words_one l2, words_one l3, words_one l4]
  rfl
end

/-! innkeep/innkeeplaw04.LineNumbers -/
theorem s_innkeeplaw04_LineNumbers (i b : UInt32) : FnSpec Tryd.prog glob 4 [V i, V b] (V true) := by
  refine FnSpec.enter Tryd.func4 rfl rfl rfl fun m0 w0 => ?_
  refine SC.seq ?_
  refine SC.region ?_
  refine SL.op (OpT.plain rfl (OpOk.assign Typ.cbool)) rfl rfl ?_
  refine SL.nil ?_
  refine SK.code ?_
  refine SC.seq ?_
  refine SC.seq ?_
  refine SC.region ?_
  refine SL.op (OpT.plain rfl (OpOk.call Tryd.call5 Typ.fn Typs.nil (s_innkeeplaw04_awake))) rfl rfl ?_
  refine SL.op (OpT.plain rfl (OpOk.not (Typ.tmp rfl))) rfl rfl ?_
  refine SL.op (OpT.plain rfl (OpOk.move (Typ.tmp rfl))) rfl rfl ?_
  refine SL.op (OpT.guard rfl rfl rfl (fun _ _ h => V_bool h) (fun hg => OpOk.move (Typ.tmp rfl))) rfl rfl ?_
  refine SL.op (OpT.guard rfl rfl rfl (fun _ _ h => V_bool h) (fun hg => OpOk.gtrU32 (Typ.cond hg rfl) (Typ.cu32n 1073741824))) rfl rfl ?_
  refine SL.op (OpT.plain rfl (OpOk.pickOr (Typ.tmp rfl) (fun hb => Typ.cond hb rfl))) rfl rfl ?_
  refine SL.op (OpT.plain rfl (OpOk.move (Typ.tmp rfl))) rfl rfl ?_
  refine SL.op (OpT.guard rfl rfl rfl (fun _ _ h => V_bool h) (fun hg => OpOk.move (Typ.tmp rfl))) rfl rfl ?_
  refine SL.op (OpT.guard rfl rfl rfl (fun _ _ h => V_bool h) (fun hg => OpOk.gtrU32 (Typ.cond hg rfl) (Typ.cu32n 1073741824))) rfl rfl ?_
  refine SL.op (OpT.plain rfl (OpOk.pickOr (Typ.tmp rfl) (fun hb => Typ.cond hb rfl))) rfl rfl ?_
  refine SL.nil ?_
  refine SK.code ?_
  refine SC.cond rfl (fun _ _ h => V_bool h) (fun h1 => ?_) (fun h1 => ?_)
  · skip
    try simp only [decide_eq_true_eq, decide_eq_false_iff_not, Bool.and_eq_true, Bool.or_eq_true, Bool.not_eq_true', Bool.not_eq_false', Bool.and_eq_false_iff, Bool.or_eq_false_iff, Bool.not_not, Bool.not_true, Bool.not_false, ne_eq, Classical.not_not, Decidable.not_not] at h1
    refine SC.seq ?_
    refine SC.region ?_
    refine SL.op (OpT.plain rfl (OpOk.call Tryd.call5 Typ.fn Typs.nil (s_innkeeplaw04_awake))) rfl rfl ?_
    refine SL.op (OpT.plain rfl (OpOk.assign (Typ.tmp rfl))) rfl rfl ?_
    refine SL.nil ?_
    refine SK.code ?_
    refine SC.ret ?_
    exact SR.one rfl (ResT.eq rfl (by first | ((simp [Cmd.s_kind, Cmd.s_item, Cmd.s_box, Cmd.s_who, Cmd.s_gives, Cmd.s_pay, Cmd.s_wants, Cmd.s_fee]; done)) | rfl | (simp_all []; done) | (simp_all []; rfl) | (simp_all []; omega)))
  · skip
    try simp only [decide_eq_true_eq, decide_eq_false_iff_not, Bool.and_eq_true, Bool.or_eq_true, Bool.not_eq_true', Bool.not_eq_false', Bool.and_eq_false_iff, Bool.or_eq_false_iff, Bool.not_not, Bool.not_true, Bool.not_false, ne_eq, Classical.not_not, Decidable.not_not] at h1
    have hx : fit (i.toNat : Int) := num_fit (by simp_all)
    have hy : fit (b.toNat : Int) := num_fit (by simp_all)
    have lx := fit_le hx
    have ly := fit_le hy
    refine SC.skip ?_
    refine SK.code ?_
    refine SC.seq ?_
    refine SC.region ?_
    refine SL.op (OpT.plain rfl (OpOk.move (Typ.tmp rfl))) rfl rfl ?_
    refine SL.op (OpT.plain rfl (OpOk.convU32 ⟨_, Tryd.underlying37⟩ Tryd.underlying3 (Typ.tmp rfl))) rfl rfl ?_
    refine SL.op (OpT.plain rfl (OpOk.call Tryd.call12 Typ.fn (Typs.cons (Typ.tmp rfl) Typs.nil) (s_innkeepref02_Word _))) rfl rfl ?_
    refine SL.op (OpT.plain rfl (OpOk.assign (Typ.tmp rfl))) rfl rfl ?_
    refine SL.nil ?_
    refine SK.code ?_
    refine SC.seq ?_
    refine SC.region ?_
    refine SL.op (OpT.plain rfl (OpOk.move (Typ.tmp rfl))) rfl rfl ?_
    refine SL.op (OpT.plain rfl (OpOk.convU32 ⟨_, Tryd.underlying37⟩ Tryd.underlying3 (Typ.tmp rfl))) rfl rfl ?_
    refine SL.op (OpT.plain rfl (OpOk.call Tryd.call12 Typ.fn (Typs.cons (Typ.tmp rfl) Typs.nil) (s_innkeepref02_Word _))) rfl rfl ?_
    refine SL.op (OpT.plain rfl (OpOk.assign (Typ.tmp rfl))) rfl rfl ?_
    refine SL.nil ?_
    refine SK.code ?_
    refine SC.seq ?_
    refine SC.region ?_
    refine SL.op (OpT.plain rfl (OpOk.move (Typ.tmp rfl))) rfl rfl ?_
    refine SL.op (OpT.plain rfl (OpOk.addStr (Typ.cstr (l := [112, 117, 116, 32])) (Typ.tmp rfl) (by unfold maxLen; first | omega | (simp; omega)))) rfl rfl ?_
    refine SL.op (OpT.plain rfl (OpOk.addStr (Typ.tmp rfl) (Typ.cstr (l := [32, 105, 110, 32])) (by unfold maxLen; first | omega | (simp; omega)))) rfl rfl ?_
    refine SL.op (OpT.plain rfl (OpOk.move (Typ.tmp rfl))) rfl rfl ?_
    refine SL.op (OpT.plain rfl (OpOk.addStr (Typ.tmp rfl) (Typ.tmp rfl) (by unfold maxLen; first | omega | (simp; omega)))) rfl rfl ?_
    refine SL.op (OpT.plain rfl (OpOk.call Tryd.call8 Typ.fn (Typs.cons (Typ.tmp rfl) Typs.nil) (FnSpec.eqv2 (n1 hx hy) (s_line_Get _ (by simp; omega))))) rfl rfl ?_
    refine SL.op (OpT.plain rfl (OpOk.move (Typ.tmp rfl))) rfl rfl ?_
    refine SL.op (OpT.plain rfl (OpOk.extract (Typ.tmp rfl) rfl)) rfl rfl ?_
    refine SL.op (OpT.plain rfl (OpOk.extract (Typ.tmp rfl) rfl)) rfl rfl ?_
    refine SL.allocOwn tyz_24 rfl fun b2 => ?_
    refine SL.opW (OpW.storeOwn ty_24 (Lens.id _) (i := 0) rfl rfl (Typ.tmp rfl) (Typ.tmp rfl)) ?_
    refine SL.op (OpT.plain rfl (OpOk.assign (Typ.tmp rfl))) rfl rfl ?_
    refine SL.nil ?_
    refine SK.code ?_
    refine SC.seq ?_
    refine SC.region ?_
    refine SL.op (OpT.plain rfl (OpOk.move (Typ.tmp rfl))) rfl rfl ?_
    refine SL.op (OpT.plain rfl (OpOk.addStr (Typ.cstr (l := [116, 97, 107, 101, 32])) (Typ.tmp rfl) (by unfold maxLen; first | omega | (simp; omega)))) rfl rfl ?_
    refine SL.op (OpT.plain rfl (OpOk.addStr (Typ.tmp rfl) (Typ.cstr (l := [32, 102, 114, 111, 109, 32])) (by unfold maxLen; first | omega | (simp; omega)))) rfl rfl ?_
    refine SL.op (OpT.plain rfl (OpOk.move (Typ.tmp rfl))) rfl rfl ?_
    refine SL.op (OpT.plain rfl (OpOk.addStr (Typ.tmp rfl) (Typ.tmp rfl) (by unfold maxLen; first | omega | (simp; omega)))) rfl rfl ?_
    refine SL.op (OpT.plain rfl (OpOk.call Tryd.call8 Typ.fn (Typs.cons (Typ.tmp rfl) Typs.nil) (FnSpec.eqv2 (n2 hx hy) (s_line_Get _ (by simp; omega))))) rfl rfl ?_
    refine SL.op (OpT.plain rfl (OpOk.move (Typ.tmp rfl))) rfl rfl ?_
    refine SL.op (OpT.plain rfl (OpOk.extract (Typ.tmp rfl) rfl)) rfl rfl ?_
    refine SL.op (OpT.plain rfl (OpOk.extract (Typ.tmp rfl) rfl)) rfl rfl ?_
    refine SL.allocOwn tyz_24 rfl fun b3 => ?_
    refine SL.opW (OpW.storeOwn ty_24 (Lens.id _) (i := 1) rfl rfl (Typ.tmp rfl) (Typ.tmp rfl)) ?_
    refine SL.op (OpT.plain rfl (OpOk.assign (Typ.tmp rfl))) rfl rfl ?_
    refine SL.nil ?_
    refine SK.code ?_
    refine SC.seq ?_
    refine SC.region ?_
    refine SL.op (OpT.plain rfl (OpOk.move (Typ.tmp rfl))) rfl rfl ?_
    refine SL.op (OpT.plain rfl (OpOk.addStr (Typ.cstr (l := [112, 117, 116, 32, 48])) (Typ.tmp rfl) (by unfold maxLen; first | omega | (simp; omega)))) rfl rfl ?_
    refine SL.op (OpT.plain rfl (OpOk.addStr (Typ.tmp rfl) (Typ.cstr (l := [32, 105, 110, 32])) (by unfold maxLen; first | omega | (simp; omega)))) rfl rfl ?_
    refine SL.op (OpT.plain rfl (OpOk.move (Typ.tmp rfl))) rfl rfl ?_
    refine SL.op (OpT.plain rfl (OpOk.addStr (Typ.tmp rfl) (Typ.tmp rfl) (by unfold maxLen; first | omega | (simp; omega)))) rfl rfl ?_
    refine SL.op (OpT.plain rfl (OpOk.call Tryd.call8 Typ.fn (Typs.cons (Typ.tmp rfl) Typs.nil) (FnSpec.eqv2 (n3 hx hy) (s_line_Get _ (by simp; omega))))) rfl rfl ?_
    refine SL.op (OpT.plain rfl (OpOk.move (Typ.tmp rfl))) rfl rfl ?_
    refine SL.op (OpT.plain rfl (OpOk.extract (Typ.tmp rfl) rfl)) rfl rfl ?_
    refine SL.op (OpT.plain rfl (OpOk.extract (Typ.tmp rfl) rfl)) rfl rfl ?_
    refine SL.allocOwn tyz_24 rfl fun b4 => ?_
    refine SL.opW (OpW.storeOwn ty_24 (Lens.id _) (i := 2) rfl rfl (Typ.tmp rfl) (Typ.tmp rfl)) ?_
    refine SL.op (OpT.plain rfl (OpOk.assign (Typ.tmp rfl))) rfl rfl ?_
    refine SL.nil ?_
    refine SK.code ?_
    refine SC.seq ?_
    refine SC.region ?_
    refine SL.op (OpT.plain rfl (OpOk.move (Typ.tmp rfl))) rfl rfl ?_
    refine SL.op (OpT.plain rfl (OpOk.addStr (Typ.cstr (l := [103, 105, 118, 101, 32])) (Typ.tmp rfl) (by unfold maxLen; first | omega | (simp; omega)))) rfl rfl ?_
    refine SL.op (OpT.plain rfl (OpOk.addStr (Typ.tmp rfl) (Typ.cstr (l := [32, 116, 111, 32, 48])) (by unfold maxLen; first | omega | (simp; omega)))) rfl rfl ?_
    refine SL.op (OpT.plain rfl (OpOk.move (Typ.tmp rfl))) rfl rfl ?_
    refine SL.op (OpT.plain rfl (OpOk.addStr (Typ.tmp rfl) (Typ.tmp rfl) (by unfold maxLen; first | omega | (simp; omega)))) rfl rfl ?_
    refine SL.op (OpT.plain rfl (OpOk.call Tryd.call8 Typ.fn (Typs.cons (Typ.tmp rfl) Typs.nil) (FnSpec.eqv2 (n4 hx hy) (s_line_Get _ (by simp; omega))))) rfl rfl ?_
    refine SL.op (OpT.plain rfl (OpOk.move (Typ.tmp rfl))) rfl rfl ?_
    refine SL.op (OpT.plain rfl (OpOk.extract (Typ.tmp rfl) rfl)) rfl rfl ?_
    refine SL.op (OpT.plain rfl (OpOk.extract (Typ.tmp rfl) rfl)) rfl rfl ?_
    refine SL.allocOwn tyz_24 rfl fun b5 => ?_
    refine SL.opW (OpW.storeOwn ty_24 (Lens.id _) (i := 3) rfl rfl (Typ.tmp rfl) (Typ.tmp rfl)) ?_
    refine SL.op (OpT.plain rfl (OpOk.assign (Typ.tmp rfl))) rfl rfl ?_
    refine SL.nil ?_
    refine SK.code ?_
    refine SC.seq ?_
    conv => arg 4; simp only [List.set_cons_zero, List.set_cons_succ, List.cons_append, List.nil_append]
    refine SC.region ?_
    refine SL.op (OpT.plain rfl (OpOk.move (Typ.tmp rfl))) rfl rfl ?_
    refine SL.op (OpT.plain rfl (OpOk.addStr (Typ.cstr (l := [116, 114, 97, 100, 101, 32])) (Typ.tmp rfl) (by unfold maxLen; first | omega | (simp; omega)))) rfl rfl ?_
    refine SL.op (OpT.plain rfl (OpOk.addStr (Typ.tmp rfl) (Typ.cstr (l := [32, 103, 105, 118, 101, 32])) (by unfold maxLen; first | omega | (simp; omega)))) rfl rfl ?_
    refine SL.op (OpT.plain rfl (OpOk.move (Typ.tmp rfl))) rfl rfl ?_
    refine SL.op (OpT.plain rfl (OpOk.addStr (Typ.tmp rfl) (Typ.tmp rfl) (by unfold maxLen; first | omega | (simp; omega)))) rfl rfl ?_
    refine SL.op (OpT.plain rfl (OpOk.addStr (Typ.tmp rfl) (Typ.cstr (l := [32])) (by unfold maxLen; first | omega | (simp; omega)))) rfl rfl ?_
    refine SL.op (OpT.plain rfl (OpOk.move (Typ.tmp rfl))) rfl rfl ?_
    refine SL.op (OpT.plain rfl (OpOk.addStr (Typ.tmp rfl) (Typ.tmp rfl) (by unfold maxLen; first | omega | (simp; omega)))) rfl rfl ?_
    refine SL.op (OpT.plain rfl (OpOk.addStr (Typ.tmp rfl) (Typ.cstr (l := [32, 99, 111, 105, 110, 115, 32])) (by unfold maxLen; first | omega | (simp; omega)))) rfl rfl ?_
    refine SL.op (OpT.plain rfl (OpOk.move (Typ.tmp rfl))) rfl rfl ?_
    refine SL.op (OpT.plain rfl (OpOk.addStr (Typ.tmp rfl) (Typ.tmp rfl) (by unfold maxLen; first | omega | (simp; omega)))) rfl rfl ?_
    refine SL.op (OpT.plain rfl (OpOk.addStr (Typ.tmp rfl) (Typ.cstr (l := [32, 102, 111, 114, 32])) (by unfold maxLen; first | omega | (simp; omega)))) rfl rfl ?_
    refine SL.op (OpT.plain rfl (OpOk.move (Typ.tmp rfl))) rfl rfl ?_
    refine SL.op (OpT.plain rfl (OpOk.addStr (Typ.tmp rfl) (Typ.tmp rfl) (by unfold maxLen; first | omega | (simp; omega)))) rfl rfl ?_
    refine SL.op (OpT.plain rfl (OpOk.addStr (Typ.tmp rfl) (Typ.cstr (l := [32, 99, 111, 105, 110, 115, 32])) (by unfold maxLen; first | omega | (simp; omega)))) rfl rfl ?_
    refine SL.op (OpT.plain rfl (OpOk.move (Typ.tmp rfl))) rfl rfl ?_
    refine SL.op (OpT.plain rfl (OpOk.addStr (Typ.tmp rfl) (Typ.tmp rfl) (by unfold maxLen; first | omega | (simp; omega)))) rfl rfl ?_
    refine SL.op (OpT.plain rfl (OpOk.call Tryd.call8 Typ.fn (Typs.cons (Typ.tmp rfl) Typs.nil) (FnSpec.eqv2 (n5 hx hy) (s_line_Get _ (by simp; omega))))) rfl rfl ?_
    refine SL.op (OpT.plain rfl (OpOk.move (Typ.tmp rfl))) rfl rfl ?_
    refine SL.op (OpT.plain rfl (OpOk.extract (Typ.tmp rfl) rfl)) rfl rfl ?_
    refine SL.op (OpT.plain rfl (OpOk.extract (Typ.tmp rfl) rfl)) rfl rfl ?_
    refine SL.allocOwn tyz_24 rfl fun b6 => ?_
    refine SL.opW (OpW.storeOwn ty_24 (Lens.id _) (i := 4) rfl rfl (Typ.tmp rfl) (Typ.tmp rfl)) ?_
    refine SL.op (OpT.plain rfl (OpOk.assign (Typ.tmp rfl))) rfl rfl ?_
    refine SL.nil ?_
    refine SK.code ?_
    refine SC.seq ?_
    refine SC.seq ?_
    conv => arg 4; simp only [List.set_cons_zero, List.set_cons_succ, List.cons_append, List.nil_append]
    refine SC.region ?_
    refine SL.op (OpT.plain rfl (OpOk.move (Typ.tmp rfl))) rfl rfl ?_
    refine SL.op (OpT.plain rfl (OpOk.neq (Typ.tmp rfl) Typ.cint)) rfl rfl ?_
    refine SL.op (OpT.plain rfl (OpOk.move (Typ.tmp rfl))) rfl rfl ?_
    refine SL.op (OpT.guard rfl rfl rfl (fun _ _ h => V_bool h) (fun hg => OpOk.move (Typ.tmp rfl))) rfl rfl ?_
    refine SL.op (OpT.guard rfl rfl rfl (fun _ _ h => V_bool h) (fun hg => OpOk.neq (Typ.cond hg rfl) Typ.cint)) rfl rfl ?_
    refine SL.op (OpT.plain rfl (OpOk.pickOr (Typ.tmp rfl) (fun hb => Typ.cond hb rfl))) rfl rfl ?_
    refine SL.op (OpT.plain rfl (OpOk.move (Typ.tmp rfl))) rfl rfl ?_
    refine SL.op (OpT.guard rfl rfl rfl (fun _ _ h => V_bool h) (fun hg => OpOk.move (Typ.tmp rfl))) rfl rfl ?_
    refine SL.op (OpT.guard rfl rfl rfl (fun _ _ h => V_bool h) (fun hg => OpOk.neq (Typ.cond hg rfl) Typ.cint)) rfl rfl ?_
    refine SL.op (OpT.plain rfl (OpOk.pickOr (Typ.tmp rfl) (fun hb => Typ.cond hb rfl))) rfl rfl ?_
    refine SL.op (OpT.plain rfl (OpOk.move (Typ.tmp rfl))) rfl rfl ?_
    refine SL.op (OpT.guard rfl rfl rfl (fun _ _ h => V_bool h) (fun hg => OpOk.move (Typ.tmp rfl))) rfl rfl ?_
    refine SL.op (OpT.guard rfl rfl rfl (fun _ _ h => V_bool h) (fun hg => OpOk.neq (Typ.cond hg rfl) Typ.cint)) rfl rfl ?_
    refine SL.op (OpT.plain rfl (OpOk.pickOr (Typ.tmp rfl) (fun hb => Typ.cond hb rfl))) rfl rfl ?_
    refine SL.op (OpT.plain rfl (OpOk.move (Typ.tmp rfl))) rfl rfl ?_
    refine SL.op (OpT.guard rfl rfl rfl (fun _ _ h => V_bool h) (fun hg => OpOk.move (Typ.tmp rfl))) rfl rfl ?_
    refine SL.op (OpT.guard rfl rfl rfl (fun _ _ h => V_bool h) (fun hg => OpOk.neq (Typ.cond hg rfl) Typ.cint)) rfl rfl ?_
    refine SL.op (OpT.plain rfl (OpOk.pickOr (Typ.tmp rfl) (fun hb => Typ.cond hb rfl))) rfl rfl ?_
    refine SL.nil ?_
    refine SK.code ?_
    refine SC.cond rfl (fun _ _ h => V_bool h) (fun h7 => ?_) (fun h7 => ?_)
    · skip
      try simp only [decide_eq_true_eq, decide_eq_false_iff_not, Bool.and_eq_true, Bool.or_eq_true, Bool.not_eq_true', Bool.not_eq_false', Bool.and_eq_false_iff, Bool.or_eq_false_iff, Bool.not_not, Bool.not_true, Bool.not_false, ne_eq, Classical.not_not, Decidable.not_not] at h7
      (exfalso; simp_all; done)
    · skip
      try simp only [decide_eq_true_eq, decide_eq_false_iff_not, Bool.and_eq_true, Bool.or_eq_true, Bool.not_eq_true', Bool.not_eq_false', Bool.and_eq_false_iff, Bool.or_eq_false_iff, Bool.not_not, Bool.not_true, Bool.not_false, ne_eq, Classical.not_not, Decidable.not_not] at h7
      refine SC.skip ?_
      refine SK.code ?_
      refine SC.seq ?_
      conv => arg 4; simp only [List.set_cons_zero, List.set_cons_succ, List.cons_append, List.nil_append]
      refine SC.region ?_
      refine SL.op (OpT.plain rfl (OpOk.move (Typ.tmp rfl))) rfl rfl ?_
      refine SL.op (OpT.plain rfl (OpOk.convU32 ⟨_, Tryd.underlying37⟩ Tryd.underlying3 (Typ.tmp rfl))) rfl rfl ?_
      refine SL.op (OpT.plain rfl (OpOk.assign (Typ.tmp rfl))) rfl rfl ?_
      refine SL.nil ?_
      refine SK.code ?_
      refine SC.seq ?_
      conv => arg 4; simp only [List.set_cons_zero, List.set_cons_succ, List.cons_append, List.nil_append]
      refine SC.region ?_
      refine SL.op (OpT.plain rfl (OpOk.move (Typ.tmp rfl))) rfl rfl ?_
      refine SL.op (OpT.plain rfl (OpOk.convU32 ⟨_, Tryd.underlying37⟩ Tryd.underlying3 (Typ.tmp rfl))) rfl rfl ?_
      refine SL.op (OpT.plain rfl (OpOk.assign (Typ.tmp rfl))) rfl rfl ?_
      refine SL.nil ?_
      refine SK.code ?_
      refine SC.seq ?_
      conv => arg 4; simp only [List.set_cons_zero, List.set_cons_succ, List.cons_append, List.nil_append]
      refine SC.region ?_
      refine SL.op (OpT.plain rfl (OpOk.loadOwn ty_24 (Lens.id _) (k := 0) rfl rfl (Typ.tmp rfl))) rfl rfl ?_
      refine SL.op (OpT.plain rfl (OpOk.move (Typ.tmp rfl))) rfl rfl ?_
      refine SL.op (OpT.plain rfl (OpOk.move (Typ.tmp rfl))) rfl rfl ?_
      refine SL.op (OpT.plain rfl (OpOk.build tys_24 (Parts.cons Cmd.l_kind rfl Typ.cint (Parts.cons Cmd.l_item rfl (Typ.tmp rfl) (Parts.cons Cmd.l_box rfl (Typ.tmp rfl) Parts.nil))))) rfl rfl ?_
      refine SL.op (OpT.plain rfl (OpOk.call Tryd.call9 Typ.fn (Typs.cons (Typ.tmp rfl) (Typs.cons (Typ.tmp rfl) Typs.nil)) (s_innkeepref03_Same _ _))) rfl rfl ?_
      refine SL.op (OpT.plain rfl (OpOk.move (Typ.tmp rfl))) rfl rfl ?_
      refine SL.op (OpT.guard rfl rfl rfl (fun _ _ h => V_bool h) (fun hg => OpOk.loadOwn ty_24 (Lens.id _) (k := 1) rfl rfl (Typ.tmp rfl))) rfl rfl ?_
      refine SL.op (OpT.guard rfl rfl rfl (fun _ _ h => V_bool h) (fun hg => OpOk.move (Typ.tmp rfl))) rfl rfl ?_
      refine SL.op (OpT.guard rfl rfl rfl (fun _ _ h => V_bool h) (fun hg => OpOk.move (Typ.tmp rfl))) rfl rfl ?_
      refine SL.op (OpT.guard rfl rfl rfl (fun _ _ h => V_bool h) (fun hg => OpOk.build tys_24 (Parts.cons Cmd.l_kind rfl Typ.cint (Parts.cons Cmd.l_item rfl (Typ.cond hg rfl) (Parts.cons Cmd.l_box rfl (Typ.cond hg rfl) Parts.nil))))) rfl rfl ?_
      refine SL.op (OpT.guard rfl rfl rfl (fun _ _ h => V_bool h) (fun hg => OpOk.call Tryd.call9 Typ.fn (Typs.cons (Typ.cond hg rfl) (Typs.cons (Typ.cond hg rfl) Typs.nil)) (s_innkeepref03_Same _ _))) rfl rfl ?_
      refine SL.op (OpT.plain rfl (OpOk.pickAnd (Typ.tmp rfl) (fun hb => Typ.cond hb rfl))) rfl rfl ?_
      refine SL.op (OpT.plain rfl (OpOk.move (Typ.tmp rfl))) rfl rfl ?_
      refine SL.op (OpT.guard rfl rfl rfl (fun _ _ h => V_bool h) (fun hg => OpOk.loadOwn ty_24 (Lens.id _) (k := 4) rfl rfl (Typ.tmp rfl))) rfl rfl ?_
      refine SL.op (OpT.guard rfl rfl rfl (fun _ _ h => V_bool h) (fun hg => OpOk.move (Typ.tmp rfl))) rfl rfl ?_
      refine SL.op (OpT.guard rfl rfl rfl (fun _ _ h => V_bool h) (fun hg => OpOk.move (Typ.tmp rfl))) rfl rfl ?_
      refine SL.op (OpT.guard rfl rfl rfl (fun _ _ h => V_bool h) (fun hg => OpOk.move (Typ.tmp rfl))) rfl rfl ?_
      refine SL.op (OpT.guard rfl rfl rfl (fun _ _ h => V_bool h) (fun hg => OpOk.buildSlice lit_22_2 (parts := [(0, Operand.tmp 130), (1, Operand.tmp 131)]) rfl (TypL.cons (Typ.cond hg rfl) (TypL.cons (Typ.cond hg rfl) TypL.nil)))) rfl rfl ?_
      refine SL.op (OpT.guard rfl rfl rfl (fun _ _ h => V_bool h) (fun hg => OpOk.move (Typ.tmp rfl))) rfl rfl ?_
      refine SL.op (OpT.guard rfl rfl rfl (fun _ _ h => V_bool h) (fun hg => OpOk.move (Typ.tmp rfl))) rfl rfl ?_
      refine SL.op (OpT.guard rfl rfl rfl (fun _ _ h => V_bool h) (fun hg => OpOk.buildSlice lit_22_1 (parts := [(0, Operand.tmp 134)]) rfl (TypL.cons (Typ.cond hg rfl) TypL.nil))) rfl rfl ?_
      refine SL.op (OpT.guard rfl rfl rfl (fun _ _ h => V_bool h) (fun hg => OpOk.move (Typ.tmp rfl))) rfl rfl ?_
      refine SL.op (OpT.guard rfl rfl rfl (fun _ _ h => V_bool h) (fun hg => OpOk.build tys_24 (Parts.cons Cmd.l_kind rfl Typ.cint (Parts.cons Cmd.l_who rfl (Typ.cond hg rfl) (Parts.cons Cmd.l_gives rfl (Typ.cond hg rfl) (Parts.cons Cmd.l_pay rfl (Typ.cond hg rfl) (Parts.cons Cmd.l_wants rfl (Typ.cond hg rfl) (Parts.cons Cmd.l_fee rfl (Typ.cond hg rfl) Parts.nil)))))))) rfl rfl ?_
      refine SL.op (OpT.guard rfl rfl rfl (fun _ _ h => V_bool h) (fun hg => OpOk.call Tryd.call9 Typ.fn (Typs.cons (Typ.cond hg rfl) (Typs.cons (Typ.cond hg rfl) Typs.nil)) (s_innkeepref03_Same _ _))) rfl rfl ?_
      refine SL.op (OpT.plain rfl (OpOk.pickAnd (Typ.tmp rfl) (fun hb => Typ.cond hb rfl))) rfl rfl ?_
      refine SL.op (OpT.plain rfl (OpOk.assign (Typ.tmp rfl))) rfl rfl ?_
      refine SL.nil ?_
      refine SK.code ?_
      refine SC.ret ?_
      exact SR.one rfl (ResT.eq rfl (by first | ((simp [Cmd.s_kind, Cmd.s_item, Cmd.s_box, Cmd.s_who, Cmd.s_gives, Cmd.s_pay, Cmd.s_wants, Cmd.s_fee]; done)) | rfl | (simp_all []; done) | (simp_all []; rfl) | (simp_all []; omega)))
end Go.Proofs.YtgcaeaajpainmaaDoor
