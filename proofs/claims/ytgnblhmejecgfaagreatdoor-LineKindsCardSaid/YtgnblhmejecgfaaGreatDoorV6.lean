/- Layer 4: what line.Get answers. -/
import Derived.Test.YtgnblhmejecgfaaGreatDoorV5
set_option linter.all false

namespace Go.Proofs.YtgnblhmejecgfaaGreatDoor
open Go Go.RowKit Go.Inn
set_option linter.unusedSimpArgs false
set_option linter.unusedVariables false
set_option maxRecDepth 100000
theorem getC_nil {s : Str} (h : ((words s).length : Int) = 0) : getC s = ({}, 2) := by unfold getC; rw [if_pos (len0 h)]
theorem getC_no {s : Str} {c : Cmd} {ws : List Str} {ok : Bool} (h : ¬ ((words s).length : Int) = 0) (hd : partsRun ((mget formsL (kindOf (nth (words s) 0)).1).getD []) { kind := (kindOf (nth (words s) 0)).1 } (rest1 (words s)) (kindOf (nth (words s) 0)).2 = (c, ws, ok))
    (h6 : (ok = false ∨ 0 < (ws.length : Int)) ∨ mayC c = false) : getC s = ({}, 2) := by
  unfold getC
  rw [if_neg (len0' h), hd, if_neg]
  rintro ⟨e1, e2, e3⟩
  dsimp only at e1 e2 e3
  rcases h6 with (h6 | h6) | h6
  · rw [e1] at h6; cases h6
  · rw [e2] at h6; simp at h6
  · rw [e3] at h6; cases h6
theorem getC_ok {s : Str} {c : Cmd} {ws : List Str} {ok : Bool} (h : ¬ ((words s).length : Int) = 0) (hd : partsRun ((mget formsL (kindOf (nth (words s) 0)).1).getD []) { kind := (kindOf (nth (words s) 0)).1 } (rest1 (words s)) (kindOf (nth (words s) 0)).2 = (c, ws, ok))
    (h6 : (ok = true ∧ ¬ 0 < (ws.length : Int)) ∧ mayC c = true) : getC s = (c, 0) := by
  unfold getC
  rw [if_neg (len0' h), hd, if_pos]
  have e : ws = [] := List.eq_nil_of_length_eq_zero (by have := h6.1.2; omega)
  exact ⟨h6.1.1, e, h6.2⟩

/-! innkeep/line.Get -/
theorem s_line_Get (s : Str) (hs0 : s.length ≤ 100000) : FnSpec Tryz.prog glob 25 [V s] (.tup [V (getC s).1, V (getC s).2]) := by
  refine FnSpec.enter Tryz.func25 rfl rfl rfl fun m0 w0 => ?_
  refine SC.learnStr (t := 0) rfl fun hp0 => ?_
  refine SC.seq ?_
  refine SC.region ?_
  refine SL.allocOwn tyz_29 rfl fun b1 => ?_
  refine SL.op (OpT.plain rfl (OpOk.assign Typ.cint)) rfl rfl ?_
  refine SL.nil ?_
  refine SK.code ?_
  refine SC.seq ?_
  refine SC.region ?_
  refine SL.op (OpT.plain rfl (OpOk.move (Typ.tmp rfl))) rfl rfl ?_
  refine SL.op (OpT.plain rfl (OpOk.call Tryz.call55 Typ.fn (Typs.cons (Typ.tmp rfl) Typs.nil) (s_token_Cut _ (by omega)))) rfl rfl ?_
  refine SL.op (OpT.plain rfl (OpOk.assign (Typ.tmp rfl))) rfl rfl ?_
  refine SL.nil ?_
  refine SK.code ?_
  refine SC.seq ?_
  refine SC.seq ?_
  refine SC.region ?_
  refine SL.op (OpT.plain rfl (OpOk.move (Typ.tmp rfl))) rfl rfl ?_
  refine SL.op (OpT.plain rfl (OpOk.lenList Tryz.underlying22 (Typ.tmp rfl))) rfl rfl ?_
  refine SL.op (OpT.plain rfl (OpOk.eql (Typ.tmp rfl) Typ.cint)) rfl rfl ?_
  refine SL.nil ?_
  refine SK.code ?_
  refine SC.cond rfl (fun _ _ h => V_bool h) (fun h2 => ?_) (fun h2 => ?_)
  · skip
    try simp only [decide_eq_true_eq, decide_eq_false_iff_not, Bool.and_eq_true, Bool.or_eq_true, Bool.not_eq_true', Bool.not_eq_false', Bool.and_eq_false_iff, Bool.or_eq_false_iff, Bool.not_not, Bool.not_true, Bool.not_false, ne_eq, Classical.not_not, Decidable.not_not] at h2
    refine SC.seq ?_
    refine SC.region ?_
    refine SL.op (OpT.plain rfl (OpOk.build tys_29 Parts.nil)) rfl rfl ?_
    refine SL.opW (OpW.storeOwn ty_29 (Lens.id _) (i := 0) rfl rfl (Typ.tmp rfl) (Typ.tmp rfl)) ?_
    refine SL.op (OpT.plain rfl (OpOk.assign Typ.cint)) rfl rfl ?_
    refine SL.nil ?_
    refine SK.code ?_
    refine SC.ret ?_
    exact SR.two rfl (ResT.own ty_29 rfl (k := 0) rfl (by first | (rw [getC_nil (by assumption)]) | (rw [getC_ok (by assumption) hdone (by assumption)]) | (rw [getC_no (by assumption) hdone (by assumption)]) | rfl | (simp_all []; done) | (simp_all []; rfl) | (simp_all []; omega))) (ResT.eq rfl (by first | (rw [getC_nil (by assumption)]) | (rw [getC_ok (by assumption) hdone (by assumption)]) | (rw [getC_no (by assumption) hdone (by assumption)]) | rfl | (simp_all []; done) | (simp_all []; rfl) | (simp_all []; omega)))
  · skip
    try simp only [decide_eq_true_eq, decide_eq_false_iff_not, Bool.and_eq_true, Bool.or_eq_true, Bool.not_eq_true', Bool.not_eq_false', Bool.and_eq_false_iff, Bool.or_eq_false_iff, Bool.not_not, Bool.not_true, Bool.not_false, ne_eq, Classical.not_not, Decidable.not_not] at h2
    refine SC.skip ?_
    refine SK.code ?_
    refine SC.seq ?_
    have hwl : ∀ x, x ∈ words s → x.length ≤ 281474976710656 := fun x hx => Nat.le_trans (words_le hx) (by omega)
    have hwn : (words s).length ≤ 100001 := Nat.le_trans (kw_len _) (Nat.le_trans (pieces_len s) (by omega))
    refine SC.region ?_
    refine SL.op (OpT.plain rfl (OpOk.move (Typ.tmp rfl))) rfl rfl ?_
    refine SL.op (OpT.plain rfl (OpOk.indexAddr Tryz.underlying22 ty_9 (Typ.tmp rfl) Typ.cint (by first | omega | (simp only [decide_eq_true_eq, decide_eq_false_iff_not] at *; omega) | (simp at *; omega)) (by first | omega | (simp only [decide_eq_true_eq, decide_eq_false_iff_not] at *; omega) | (simp at *; omega)))) rfl rfl ?_
    refine SL.op (OpT.plain rfl (OpOk.loadRef ty_9 (Typ.tmp rfl))) rfl rfl ?_
    refine SL.op (OpT.plain rfl (OpOk.call Tryz.call56 Typ.fn (Typs.cons (Typ.tmp rfl) Typs.nil) (s_cmd_Kind _))) rfl rfl ?_
    refine SL.op (OpT.plain rfl (OpOk.move (Typ.tmp rfl))) rfl rfl ?_
    refine SL.op (OpT.plain rfl (OpOk.extract (Typ.tmp rfl) rfl)) rfl rfl ?_
    refine SL.op (OpT.plain rfl (OpOk.extract (Typ.tmp rfl) rfl)) rfl rfl ?_
    refine SL.op (OpT.plain rfl (OpOk.assign (Typ.tmp rfl))) rfl rfl ?_
    refine SL.op (OpT.plain rfl (OpOk.assign (Typ.tmp rfl))) rfl rfl ?_
    refine SL.nil ?_
    refine SK.code ?_
    refine SC.seq ?_
    refine SC.region ?_
    refine SL.op (OpT.plain rfl (OpOk.move (Typ.tmp rfl))) rfl rfl ?_
    refine SL.op (OpT.plain rfl (OpOk.build tysR (Parts.cons CmdR.l_kind rfl (Typ.tmp rfl) Parts.nil))) rfl rfl ?_
    refine SL.allocOwn tyzR rfl fun b3 => ?_
    refine SL.opW (OpW.storeOwn tyR (Lens.id _) (i := 1) rfl rfl (Typ.tmp rfl) (Typ.tmp rfl)) ?_
    refine SL.nil ?_
    refine SK.code ?_
    refine SC.seq ?_
    refine SC.nilRow Int 3 ?_
    refine SC.nilRow Int 3 ?_
    refine SC.region ?_
    refine SL.op (OpT.plain rfl (OpOk.move (Typ.tmp rfl))) rfl rfl ?_
    refine SL.op (OpT.plain rfl (OpOk.cutList Tryz.underlying22 ty_9 (Typ.tmp rfl) (Lo.s Typ.cint) Lo.z (by first | omega | (simp only [decide_eq_true_eq, decide_eq_false_iff_not] at *; omega) | (simp at *; omega)) (by first | omega | (simp only [decide_eq_true_eq, decide_eq_false_iff_not] at *; omega) | (simp at *; omega)) (by first | omega | (simp only [decide_eq_true_eq, decide_eq_false_iff_not] at *; omega) | (simp at *; omega)))) rfl rfl ?_
    refine SL.op (OpT.plain rfl (OpOk.assign (Typ.tmp rfl))) rfl rfl ?_
    refine SL.nil ?_
    refine SK.code ?_
    refine SC.seq ?_
    refine SC.seq ?_
    refine SC.region ?_
    refine SL.op (OpT.plain rfl (OpOk.call Tryz.call57 Typ.fn Typs.nil (s_line_forms))) rfl rfl ?_
    refine SL.op (OpT.plain rfl (OpOk.move (Typ.tmp rfl))) rfl rfl ?_
    refine SL.op (OpT.plain rfl (OpOk.lookupMap Tryz.underlying91 Tryz.underlying3 tyz_90 (Typ.tmp rfl) (Typ.tmp rfl))) rfl rfl ?_
    refine SL.op (OpT.plain rfl (OpOk.lenList Tryz.underlying90 (Typ.tmp rfl))) rfl rfl ?_
    refine SL.op (OpT.plain rfl (OpOk.move Typ.cint)) rfl rfl ?_
    refine SL.nil ?_
    refine SK.code ?_
    refine SC.block ?_
    refine SC.learnList (t := 29) rfl fun hpl => ?_
    refine SC.loopK (σ := Nat × Cmd × List Str × Bool × Value × Value) [2, 3, 7, 29, 30] (fun st => [(31, V (st.1 : Int)), (4, V st.2.2.1), (6, V st.2.2.2.1)]) (fun st Δ => [Own.var b1 29 ({} : Cmd)] ++ cmdOwn 29 3 b3 st.2.1 st.2.2.2.2.1 st.2.2.2.2.2) (fun st => ((mget formsL (kindOf (nth (words s) 0)).1).getD []).length - st.1) (fun st => GetInv ((mget formsL (kindOf (nth (words s) 0)).1).getD []) { kind := (kindOf (nth (words s) 0)).1 } (rest1 (words s)) (kindOf (nth (words s) 0)).2 st.1 st.2.1 st.2.2.1 st.2.2.2.1) ((0, { kind := (kindOf (nth (words s) 0)).1 }, rest1 (words s), (kindOf (nth (words s) 0)).2, .slice none 0 0, .slice none 0 0)) (GetInv.zero _ _ _ _) rfl (Subs.eq rfl (by first | rfl | omega | (simp; done) | (simp_all; done) | (simp_all; omega)) (Subs.eq rfl (by first | rfl | omega | (simp; done) | (simp_all; done) | (simp_all; omega)) (Subs.eq rfl (by first | rfl | omega | (simp; done) | (simp_all; done) | (simp_all; omega)) Subs.nil))) (fun st hs => ?_)
    obtain ⟨i, c, ws, ok, v1, v2⟩ := st
    dsimp only at hs ⊢
    have q1 := hs.le
    refine SC.seq ?_
    refine SC.region ?_
    refine SL.op (OpT.plain rfl (OpOk.lss (Typ.tmp rfl) (Typ.tmp rfl))) rfl rfl ?_
    refine SL.nil ?_
    refine SK.code ?_
    refine SC.seq ?_
    refine SC.cond rfl (fun _ _ h => V_bool h) (fun h4 => ?_) (fun h4 => ?_)
    · skip
      try simp only [decide_eq_true_eq, decide_eq_false_iff_not, Bool.and_eq_true, Bool.or_eq_true, Bool.not_eq_true', Bool.not_eq_false', Bool.and_eq_false_iff, Bool.or_eq_false_iff, Bool.not_not, Bool.not_true, Bool.not_false, ne_eq, Classical.not_not, Decidable.not_not] at h4
      refine SC.skip ?_
      refine SK.code ?_
      refine SC.seq ?_
      refine SC.block ?_
      refine SC.seq ?_
      refine SC.region ?_
      refine SL.op (OpT.plain rfl (OpOk.indexAddr Tryz.underlying90 ty_94 (Typ.tmp rfl) (Typ.tmp rfl) (by first | omega | (simp only [decide_eq_true_eq, decide_eq_false_iff_not] at *; omega) | (simp at *; omega)) (by first | omega | (simp only [decide_eq_true_eq, decide_eq_false_iff_not] at *; omega) | (simp at *; omega)))) rfl rfl ?_
      refine SL.op (OpT.plain rfl (OpOk.loadRef ty_94 (Typ.tmp rfl))) rfl rfl ?_
      refine SL.op (OpT.plain rfl (OpOk.assign (Typ.tmp rfl))) rfl rfl ?_
      refine SL.nil ?_
      refine SK.code ?_
      refine SC.seq ?_
      refine SC.region ?_
      refine SL.op (OpT.plain rfl (OpOk.move (Typ.tmp rfl))) rfl rfl ?_
      refine SL.nil ?_
      refine SK.code ?_
      refine SC.cond rfl (fun _ _ h => V_bool h) (fun h5 => ?_) (fun h5 => ?_)
      · skip
        try simp only [decide_eq_true_eq, decide_eq_false_iff_not, Bool.and_eq_true, Bool.or_eq_true, Bool.not_eq_true', Bool.not_eq_false', Bool.and_eq_false_iff, Bool.or_eq_false_iff, Bool.not_not, Bool.not_true, Bool.not_false, ne_eq, Classical.not_not, Decidable.not_not] at h5
        refine SC.region ?_
        refine SL.op (OpT.plain rfl (OpOk.move (Typ.tmp rfl))) rfl rfl ?_
        refine SL.op (OpT.plain rfl (OpOk.move (Typ.tmp rfl))) rfl rfl ?_
        refine SL.callD [_] (spec_part _ c v1 v2 _ ws (forms_no_nil _ _ (nth_mem (by omega) (by omega))) (fun x hx => hwl x (rest1_sub (hs.sub x hx))) (by have := hs.gives; have := rest1_len (words s); simp at *; omega) (by have := hs.wants; have := rest1_len (words s); simp at *; omega)) rfl (Typ.tmp rfl) (Typs.cons (Typ.tmp rfl) (Typs.cons (Typ.tmp rfl) Typs.nil)) rfl (fun Δ' hΔ => ?_)
        obtain ⟨u1, u2, rfl⟩ := hΔ
        refine SL.op (OpT.plain rfl (OpOk.move (Typ.tmp rfl))) rfl rfl ?_
        refine SL.op (OpT.plain rfl (OpOk.extract (Typ.tmp rfl) rfl)) rfl rfl ?_
        refine SL.op (OpT.plain rfl (OpOk.extract (Typ.tmp rfl) rfl)) rfl rfl ?_
        refine SL.op (OpT.plain rfl (OpOk.assign (Typ.tmp rfl))) rfl rfl ?_
        refine SL.op (OpT.plain rfl (OpOk.assign (Typ.tmp rfl))) rfl rfl ?_
        refine SL.nil ?_
        refine SK.blk ?_
        refine SK.code ?_
        refine SC.region ?_
        refine SL.op (OpT.plain rfl (OpOk.add (Typ.tmp rfl) Typ.cint (by unfold in64; first | omega | (simp at *; omega)))) rfl rfl ?_
        refine SL.op (OpT.plain rfl (OpOk.move (Typ.tmp rfl))) rfl rfl ?_
        refine SL.nil ?_
        refine SK.roundK ((i + 1, (partRun (nth ((mget formsL (kindOf (nth (words s) 0)).1).getD []) (i : Int)) c ws).1, (partRun (nth ((mget formsL (kindOf (nth (words s) 0)).1).getD []) (i : Int)) c ws).2.1, (partRun (nth ((mget formsL (kindOf (nth (words s) 0)).1).getD []) (i : Int)) c ws).2.2, u1, u2)) (by have := hs.le; simp at *; omega) (by first | exact hs.run (by assumption) (by assumption) | exact hs.pass (by assumption) (by assumption)) rfl rfl (Subs.eq rfl (by first | rfl | omega | (simp; done) | (simp_all; done) | (simp_all; omega)) (Subs.eq rfl (by first | rfl | omega | (simp; done) | (simp_all; done) | (simp_all; omega)) (Subs.eq rfl (by first | rfl | omega | (simp; done) | (simp_all; done) | (simp_all; omega)) Subs.nil)))
      · skip
        try simp only [decide_eq_true_eq, decide_eq_false_iff_not, Bool.and_eq_true, Bool.or_eq_true, Bool.not_eq_true', Bool.not_eq_false', Bool.and_eq_false_iff, Bool.or_eq_false_iff, Bool.not_not, Bool.not_true, Bool.not_false, ne_eq, Classical.not_not, Decidable.not_not] at h5
        refine SC.skip ?_
        refine SK.blk ?_
        refine SK.code ?_
        refine SC.region ?_
        refine SL.op (OpT.plain rfl (OpOk.add (Typ.tmp rfl) Typ.cint (by unfold in64; first | omega | (simp at *; omega)))) rfl rfl ?_
        refine SL.op (OpT.plain rfl (OpOk.move (Typ.tmp rfl))) rfl rfl ?_
        refine SL.nil ?_
        refine SK.roundK ((i + 1, c, ws, ok, v1, v2)) (by have := hs.le; simp at *; omega) (by first | exact hs.run (by assumption) (by assumption) | exact hs.pass (by assumption) (by assumption)) rfl rfl (Subs.eq rfl (by first | rfl | omega | (simp; done) | (simp_all; done) | (simp_all; omega)) (Subs.eq rfl (by first | rfl | omega | (simp; done) | (simp_all; done) | (simp_all; omega)) (Subs.eq rfl (by first | rfl | omega | (simp; done) | (simp_all; done) | (simp_all; omega)) Subs.nil)))
    · skip
      try simp only [decide_eq_true_eq, decide_eq_false_iff_not, Bool.and_eq_true, Bool.or_eq_true, Bool.not_eq_true', Bool.not_eq_false', Bool.and_eq_false_iff, Bool.or_eq_false_iff, Bool.not_not, Bool.not_true, Bool.not_false, ne_eq, Classical.not_not, Decidable.not_not] at h4
      refine SC.exit rfl ?_
      refine SK.code ?_
      refine SC.seq ?_
      refine SC.seq ?_
      have hdone := hs.done (by assumption)
      refine SC.cmdDone [_] rfl ?_
      refine SC.region ?_
      refine SL.op (OpT.plain rfl (OpOk.move (Typ.tmp rfl))) rfl rfl ?_
      refine SL.op (OpT.plain rfl (OpOk.not (Typ.tmp rfl))) rfl rfl ?_
      refine SL.op (OpT.plain rfl (OpOk.move (Typ.tmp rfl))) rfl rfl ?_
      refine SL.op (OpT.guard rfl rfl rfl (fun _ _ h => V_bool h) (fun hg => OpOk.move (Typ.tmp rfl))) rfl rfl ?_
      refine SL.op (OpT.guard rfl rfl rfl (fun _ _ h => V_bool h) (fun hg => OpOk.lenList Tryz.underlying22 (Typ.cond hg rfl))) rfl rfl ?_
      refine SL.op (OpT.guard rfl rfl rfl (fun _ _ h => V_bool h) (fun hg => OpOk.gtr (Typ.cond hg rfl) Typ.cint)) rfl rfl ?_
      refine SL.op (OpT.plain rfl (OpOk.pickOr (Typ.tmp rfl) (fun hb => Typ.cond hb rfl))) rfl rfl ?_
      refine SL.op (OpT.plain rfl (OpOk.move (Typ.tmp rfl))) rfl rfl ?_
      refine SL.op (OpT.guard rfl rfl rfl (fun _ _ h => V_bool h) (fun hg => OpOk.loadOwn ty_29 (Lens.id _) (k := 1) rfl rfl (Typ.tmp rfl))) rfl rfl ?_
      refine SL.op (OpT.guard rfl rfl rfl (fun _ _ h => V_bool h) (fun hg => OpOk.call Tryz.call48 Typ.fn (Typs.cons (Typ.cond hg rfl) Typs.nil) (s_cmd_May _))) rfl rfl ?_
      refine SL.op (OpT.guard rfl rfl rfl (fun _ _ h => V_bool h) (fun hg => OpOk.not (Typ.cond hg rfl))) rfl rfl ?_
      refine SL.op (OpT.plain rfl (OpOk.pickOr (Typ.tmp rfl) (fun hb => Typ.cond hb rfl))) rfl rfl ?_
      refine SL.nil ?_
      refine SK.code ?_
      refine SC.cond rfl (fun _ _ h => V_bool h) (fun h6 => ?_) (fun h6 => ?_)
      · skip
        try simp only [decide_eq_true_eq, decide_eq_false_iff_not, Bool.and_eq_true, Bool.or_eq_true, Bool.not_eq_true', Bool.not_eq_false', Bool.and_eq_false_iff, Bool.or_eq_false_iff, Bool.not_not, Bool.not_true, Bool.not_false, ne_eq, Classical.not_not, Decidable.not_not] at h6
        refine SC.seq ?_
        refine SC.region ?_
        refine SL.op (OpT.plain rfl (OpOk.build tys_29 Parts.nil)) rfl rfl ?_
        refine SL.opW (OpW.storeOwn ty_29 (Lens.id _) (i := 0) rfl rfl (Typ.tmp rfl) (Typ.tmp rfl)) ?_
        refine SL.op (OpT.plain rfl (OpOk.assign Typ.cint)) rfl rfl ?_
        refine SL.nil ?_
        refine SK.code ?_
        refine SC.ret ?_
        exact SR.two rfl (ResT.own ty_29 rfl (k := 0) rfl (by first | (rw [getC_nil (by assumption)]) | (rw [getC_ok (by assumption) hdone (by assumption)]) | (rw [getC_no (by assumption) hdone (by assumption)]) | rfl | (simp_all []; done) | (simp_all []; rfl) | (simp_all []; omega))) (ResT.eq rfl (by first | (rw [getC_nil (by assumption)]) | (rw [getC_ok (by assumption) hdone (by assumption)]) | (rw [getC_no (by assumption) hdone (by assumption)]) | rfl | (simp_all []; done) | (simp_all []; rfl) | (simp_all []; omega)))
      · skip
        try simp only [decide_eq_true_eq, decide_eq_false_iff_not, Bool.and_eq_true, Bool.or_eq_true, Bool.not_eq_true', Bool.not_eq_false', Bool.and_eq_false_iff, Bool.or_eq_false_iff, Bool.not_not, Bool.not_true, Bool.not_false, ne_eq, Classical.not_not, Decidable.not_not] at h6
        refine SC.skip ?_
        refine SK.code ?_
        refine SC.seq ?_
        refine SC.region ?_
        refine SL.op (OpT.plain rfl (OpOk.loadOwn ty_29 (Lens.id _) (k := 1) rfl rfl (Typ.tmp rfl))) rfl rfl ?_
        refine SL.opW (OpW.storeOwn ty_29 (Lens.id _) (i := 0) rfl rfl (Typ.tmp rfl) (Typ.tmp rfl)) ?_
        refine SL.op (OpT.plain rfl (OpOk.assign Typ.cint)) rfl rfl ?_
        refine SL.nil ?_
        refine SK.code ?_
        refine SC.ret ?_
        exact SR.two rfl (ResT.own ty_29 rfl (k := 0) rfl (by first | (rw [getC_nil (by assumption)]) | (rw [getC_ok (by assumption) hdone (by assumption)]) | (rw [getC_no (by assumption) hdone (by assumption)]) | rfl | (simp_all []; done) | (simp_all []; rfl) | (simp_all []; omega))) (ResT.eq rfl (by first | (rw [getC_nil (by assumption)]) | (rw [getC_ok (by assumption) hdone (by assumption)]) | (rw [getC_no (by assumption) hdone (by assumption)]) | rfl | (simp_all []; done) | (simp_all []; rfl) | (simp_all []; omega)))
end Go.Proofs.YtgnblhmejecgfaaGreatDoor
