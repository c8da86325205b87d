/- Layer 19: what begins and ends a session's command. -/
import Derived.Test.YtgnblhmejecgfaaGreatDoorV6
set_option linter.all false

namespace Go.Proofs.YtgnblhmejecgfaaGreatDoor
open Go Go.RowKit Go.Inn
set_option linter.unusedSimpArgs false
set_option linter.unusedVariables false
set_option maxRecDepth 100000
def restS (s : Sess) : Sess := { player := s.player, lines := s.lines, next := s.next, phase := if (s.lines.length : Int) ≤ s.next then 12 else 0 }
def newS (x : Script) : Sess := restS { player := x.player, lines := x.lines }
def closeS (s : Sess) : Sess := restS { s with next := s.next + 1 }
def anewS (s : Sess) : Sess := { player := s.player, lines := s.lines, next := s.next, phase := 1, cmd := s.cmd, tries := s.tries }
def openS (s : Sess) : Sess :=
  if (getC (nth s.lines s.next)).2 ≠ 0 then { s with cmd := (getC (nth s.lines s.next)).1, phase := 8, reply := { err := (getC (nth s.lines s.next)).2 } }
  else if (getC (nth s.lines s.next)).1.kind = 9 ∨ (getC (nth s.lines s.next)).1.kind = 10 then { s with cmd := (getC (nth s.lines s.next)).1, phase := 9 } else { s with cmd := (getC (nth s.lines s.next)).1, phase := 1 }

/-! innkeep/sess.rests -/
theorem s_sess_rests (s : Sess) : FnSpec Tryz.prog glob 31 [V s] (V (restS s)) := by
  refine FnSpec.enter Tryz.func31 rfl rfl rfl fun m0 w0 => ?_
  refine SC.seq ?_
  refine SC.region ?_
  refine SL.op (OpT.plain rfl (OpOk.boxRef (Typ.tmp rfl))) rfl rfl ?_
  refine SL.allocOwn tyz_38 rfl fun b1 => ?_
  refine SL.nil ?_
  refine SK.code ?_
  refine SC.seq ?_
  refine SC.region ?_
  refine SL.op (OpT.plain rfl (OpOk.fieldAddrRef fld_38_0 (Typ.tmp rfl))) rfl rfl ?_
  refine SL.op (OpT.plain rfl (OpOk.loadRef ty_3 (Typ.tmp rfl))) rfl rfl ?_
  refine SL.op (OpT.plain rfl (OpOk.fieldAddrRef fld_38_1 (Typ.tmp rfl))) rfl rfl ?_
  refine SL.op (OpT.plain rfl (OpOk.loadRef ty_22 (Typ.tmp rfl))) rfl rfl ?_
  refine SL.op (OpT.plain rfl (OpOk.fieldAddrRef fld_38_2 (Typ.tmp rfl))) rfl rfl ?_
  refine SL.op (OpT.plain rfl (OpOk.loadRef ty_3 (Typ.tmp rfl))) rfl rfl ?_
  refine SL.op (OpT.plain rfl (OpOk.build tys_38 (Parts.cons Sess.l_player rfl (Typ.tmp rfl) (Parts.cons Sess.l_lines rfl (Typ.tmp rfl) (Parts.cons Sess.l_next rfl (Typ.tmp rfl) (Parts.cons Sess.l_phase rfl Typ.cint Parts.nil)))))) rfl rfl ?_
  refine SL.allocOwn tyz_38 rfl fun b2 => ?_
  refine SL.opW (OpW.storeOwn ty_38 (Lens.id _) (i := 1) rfl rfl (Typ.tmp rfl) (Typ.tmp rfl)) ?_
  refine SL.nil ?_
  refine SK.code ?_
  refine SC.seq ?_
  refine SC.seq ?_
  refine SC.region ?_
  refine SL.op (OpT.plain rfl (OpOk.fieldAddrOwn fld_38_2 (Typ.tmp rfl))) rfl rfl ?_
  refine SL.op (OpT.plain rfl (OpOk.loadOwn ty_3 Sess.l_next (k := 1) rfl rfl (Typ.tmp rfl))) rfl rfl ?_
  refine SL.op (OpT.plain rfl (OpOk.fieldAddrOwn fld_38_1 (Typ.tmp rfl))) rfl rfl ?_
  refine SL.op (OpT.plain rfl (OpOk.loadOwn ty_22 Sess.l_lines (k := 1) rfl rfl (Typ.tmp rfl))) rfl rfl ?_
  refine SL.op (OpT.plain rfl (OpOk.lenList Tryz.underlying22 (Typ.tmp rfl))) rfl rfl ?_
  refine SL.op (OpT.plain rfl (OpOk.geq (Typ.tmp rfl) (Typ.tmp rfl))) rfl rfl ?_
  refine SL.nil ?_
  refine SK.code ?_
  refine SC.cond rfl (fun _ _ h => V_bool h) (fun h3 => ?_) (fun h3 => ?_)
  · skip
    try simp only [decide_eq_true_eq, decide_eq_false_iff_not, Bool.and_eq_true, Bool.or_eq_true, Bool.not_eq_true', Bool.not_eq_false', Bool.and_eq_false_iff, Bool.or_eq_false_iff, Bool.not_not, Bool.not_true, Bool.not_false, ne_eq, Classical.not_not, Decidable.not_not] at h3
    refine SC.region ?_
    refine SL.op (OpT.plain rfl (OpOk.fieldAddrOwn fld_38_3 (Typ.tmp rfl))) rfl rfl ?_
    refine SL.opW (OpW.storeOwn ty_3 Sess.l_phase (i := 1) rfl rfl (Typ.tmp rfl) Typ.cint) ?_
    refine SL.nil ?_
    refine SK.code ?_
    refine SC.seq ?_
    refine SC.region ?_
    refine SL.op (OpT.plain rfl (OpOk.loadOwn ty_38 (Lens.id _) (k := 1) rfl rfl (Typ.tmp rfl))) rfl rfl ?_
    refine SL.opW (OpW.storeOwn ty_38 (Lens.id _) (i := 0) rfl rfl (Typ.tmp rfl) (Typ.tmp rfl)) ?_
    refine SL.nil ?_
    refine SK.code ?_
    refine SC.ret ?_
    exact SR.one rfl (ResT.own ty_38 rfl (k := 0) rfl (by first | ((unfold restS; rw [if_pos (by assumption)]; rfl)) | ((unfold restS; rw [if_neg (by assumption)]; rfl)) | rfl | (simp_all []; done) | (simp_all []; rfl) | (simp_all []; omega)))
  · skip
    try simp only [decide_eq_true_eq, decide_eq_false_iff_not, Bool.and_eq_true, Bool.or_eq_true, Bool.not_eq_true', Bool.not_eq_false', Bool.and_eq_false_iff, Bool.or_eq_false_iff, Bool.not_not, Bool.not_true, Bool.not_false, ne_eq, Classical.not_not, Decidable.not_not] at h3
    refine SC.skip ?_
    refine SK.code ?_
    refine SC.seq ?_
    refine SC.region ?_
    refine SL.op (OpT.plain rfl (OpOk.loadOwn ty_38 (Lens.id _) (k := 1) rfl rfl (Typ.tmp rfl))) rfl rfl ?_
    refine SL.opW (OpW.storeOwn ty_38 (Lens.id _) (i := 0) rfl rfl (Typ.tmp rfl) (Typ.tmp rfl)) ?_
    refine SL.nil ?_
    refine SK.code ?_
    refine SC.ret ?_
    exact SR.one rfl (ResT.own ty_38 rfl (k := 0) rfl (by first | ((unfold restS; rw [if_pos (by assumption)]; rfl)) | ((unfold restS; rw [if_neg (by assumption)]; rfl)) | rfl | (simp_all []; done) | (simp_all []; rfl) | (simp_all []; omega)))

/-! innkeep/sess.New -/
theorem s_sess_New (x : Script) : FnSpec Tryz.prog glob 12 [V x] (V (newS x)) := by
  refine FnSpec.enter Tryz.func12 rfl rfl rfl fun m0 w0 => ?_
  refine SC.seq ?_
  refine SC.region ?_
  refine SL.op (OpT.plain rfl (OpOk.boxRef (Typ.tmp rfl))) rfl rfl ?_
  refine SL.allocOwn tyz_38 rfl fun b1 => ?_
  refine SL.nil ?_
  refine SK.code ?_
  refine SC.seq ?_
  refine SC.region ?_
  refine SL.op (OpT.plain rfl (OpOk.fieldAddrRef fld_24_0 (Typ.tmp rfl))) rfl rfl ?_
  refine SL.op (OpT.plain rfl (OpOk.loadRef ty_3 (Typ.tmp rfl))) rfl rfl ?_
  refine SL.op (OpT.plain rfl (OpOk.fieldAddrRef fld_24_1 (Typ.tmp rfl))) rfl rfl ?_
  refine SL.op (OpT.plain rfl (OpOk.loadRef ty_22 (Typ.tmp rfl))) rfl rfl ?_
  refine SL.op (OpT.plain rfl (OpOk.build tys_38 (Parts.cons Sess.l_player rfl (Typ.tmp rfl) (Parts.cons Sess.l_lines rfl (Typ.tmp rfl) Parts.nil)))) rfl rfl ?_
  refine SL.op (OpT.plain rfl (OpOk.call Tryz.call31 Typ.fn (Typs.cons (Typ.tmp rfl) Typs.nil) (s_sess_rests _))) rfl rfl ?_
  refine SL.opW (OpW.storeOwn ty_38 (Lens.id _) (i := 0) rfl rfl (Typ.tmp rfl) (Typ.tmp rfl)) ?_
  refine SL.nil ?_
  refine SK.code ?_
  refine SC.ret ?_
  exact SR.one rfl (ResT.own ty_38 rfl (k := 0) rfl (by first | rfl | (simp_all []; done) | (simp_all []; rfl) | (simp_all []; omega)))

/-! innkeep/sess.Close -/
theorem s_sess_Close (s : Sess) (hn : s.next ≤ 1000000000000 ∧ -1000000000000 ≤ s.next) : FnSpec Tryz.prog glob 17 [V s] (V (closeS s)) := by
  refine FnSpec.enter Tryz.func17 rfl rfl rfl fun m0 w0 => ?_
  refine SC.seq ?_
  refine SC.region ?_
  refine SL.boxOwn (Typ.tmp rfl) rfl fun b1 => ?_
  refine SL.allocOwn tyz_38 rfl fun b2 => ?_
  refine SL.nil ?_
  refine SK.code ?_
  refine SC.seq ?_
  refine SC.region ?_
  refine SL.op (OpT.plain rfl (OpOk.fieldAddrOwn fld_38_2 (Typ.tmp rfl))) rfl rfl ?_
  refine SL.op (OpT.plain rfl (OpOk.loadOwn ty_3 Sess.l_next (k := 0) rfl rfl (Typ.tmp rfl))) rfl rfl ?_
  refine SL.op (OpT.plain rfl (OpOk.add (Typ.tmp rfl) Typ.cint (by unfold in64; first | omega | (simp at *; omega)))) rfl rfl ?_
  refine SL.op (OpT.plain rfl (OpOk.fieldAddrOwn fld_38_2 (Typ.tmp rfl))) rfl rfl ?_
  refine SL.opW (OpW.storeOwn ty_3 Sess.l_next (i := 0) rfl rfl (Typ.tmp rfl) (Typ.tmp rfl)) ?_
  refine SL.nil ?_
  refine SK.code ?_
  refine SC.seq ?_
  refine SC.region ?_
  refine SL.op (OpT.plain rfl (OpOk.loadOwn ty_38 (Lens.id _) (k := 0) rfl rfl (Typ.tmp rfl))) rfl rfl ?_
  refine SL.op (OpT.plain rfl (OpOk.call Tryz.call31 Typ.fn (Typs.cons (Typ.tmp rfl) Typs.nil) (s_sess_rests _))) rfl rfl ?_
  refine SL.opW (OpW.storeOwn ty_38 (Lens.id _) (i := 1) rfl rfl (Typ.tmp rfl) (Typ.tmp rfl)) ?_
  refine SL.nil ?_
  refine SK.code ?_
  refine SC.ret ?_
  exact SR.one rfl (ResT.own ty_38 rfl (k := 1) rfl (by first | rfl | (simp_all []; done) | (simp_all []; rfl) | (simp_all []; omega)))

/-! innkeep/sess.Anew -/
theorem s_sess_Anew (s : Sess) : FnSpec Tryz.prog glob 19 [V s] (V (anewS s)) := by
  refine FnSpec.enter Tryz.func19 rfl rfl rfl fun m0 w0 => ?_
  refine SC.seq ?_
  refine SC.region ?_
  refine SL.op (OpT.plain rfl (OpOk.boxRef (Typ.tmp rfl))) rfl rfl ?_
  refine SL.allocOwn tyz_38 rfl fun b1 => ?_
  refine SL.nil ?_
  refine SK.code ?_
  refine SC.seq ?_
  refine SC.region ?_
  refine SL.op (OpT.plain rfl (OpOk.fieldAddrRef fld_38_0 (Typ.tmp rfl))) rfl rfl ?_
  refine SL.op (OpT.plain rfl (OpOk.loadRef ty_3 (Typ.tmp rfl))) rfl rfl ?_
  refine SL.op (OpT.plain rfl (OpOk.fieldAddrRef fld_38_1 (Typ.tmp rfl))) rfl rfl ?_
  refine SL.op (OpT.plain rfl (OpOk.loadRef ty_22 (Typ.tmp rfl))) rfl rfl ?_
  refine SL.op (OpT.plain rfl (OpOk.fieldAddrRef fld_38_2 (Typ.tmp rfl))) rfl rfl ?_
  refine SL.op (OpT.plain rfl (OpOk.loadRef ty_3 (Typ.tmp rfl))) rfl rfl ?_
  refine SL.op (OpT.plain rfl (OpOk.fieldAddrRef fld_38_5 (Typ.tmp rfl))) rfl rfl ?_
  refine SL.op (OpT.plain rfl (OpOk.loadRef ty_29 (Typ.tmp rfl))) rfl rfl ?_
  refine SL.op (OpT.plain rfl (OpOk.fieldAddrRef fld_38_11 (Typ.tmp rfl))) rfl rfl ?_
  refine SL.op (OpT.plain rfl (OpOk.loadRef ty_3 (Typ.tmp rfl))) rfl rfl ?_
  refine SL.op (OpT.plain rfl (OpOk.build tys_38 (Parts.cons Sess.l_player rfl (Typ.tmp rfl) (Parts.cons Sess.l_lines rfl (Typ.tmp rfl) (Parts.cons Sess.l_next rfl (Typ.tmp rfl) (Parts.cons Sess.l_phase rfl Typ.cint (Parts.cons Sess.l_cmd rfl (Typ.tmp rfl) (Parts.cons Sess.l_tries rfl (Typ.tmp rfl) Parts.nil)))))))) rfl rfl ?_
  refine SL.opW (OpW.storeOwn ty_38 (Lens.id _) (i := 0) rfl rfl (Typ.tmp rfl) (Typ.tmp rfl)) ?_
  refine SL.nil ?_
  refine SK.code ?_
  refine SC.ret ?_
  exact SR.one rfl (ResT.own ty_38 rfl (k := 0) rfl (by first | rfl | (simp_all []; done) | (simp_all []; rfl) | (simp_all []; omega)))

/-! innkeep/sess.Open -/
theorem s_sess_Open (s : Sess) (h0 : 0 ≤ s.next) (h1 : s.next < s.lines.length) (h2 : (nth s.lines s.next).length ≤ 100000) : FnSpec Tryz.prog glob 13 [V s] (V (openS s)) := by
  refine FnSpec.enter Tryz.func13 rfl rfl rfl fun m0 w0 => ?_
  refine SC.seq ?_
  refine SC.region ?_
  refine SL.boxOwn (Typ.tmp rfl) rfl fun b1 => ?_
  refine SL.allocOwn tyz_38 rfl fun b2 => ?_
  refine SL.nil ?_
  refine SK.code ?_
  refine SC.seq ?_
  refine SC.region ?_
  refine SL.op (OpT.plain rfl (OpOk.fieldAddrOwn fld_38_1 (Typ.tmp rfl))) rfl rfl ?_
  refine SL.op (OpT.plain rfl (OpOk.loadOwn ty_22 Sess.l_lines (k := 0) rfl rfl (Typ.tmp rfl))) rfl rfl ?_
  refine SL.op (OpT.plain rfl (OpOk.fieldAddrOwn fld_38_2 (Typ.tmp rfl))) rfl rfl ?_
  refine SL.op (OpT.plain rfl (OpOk.loadOwn ty_3 Sess.l_next (k := 0) rfl rfl (Typ.tmp rfl))) rfl rfl ?_
  refine SL.op (OpT.plain rfl (OpOk.indexAddr Tryz.underlying22 ty_9 (Typ.tmp rfl) (Typ.tmp rfl) (by first | omega | (simp only [decide_eq_true_eq, decide_eq_false_iff_not] at *; omega) | (simp at *; omega)) (by first | omega | (simp only [decide_eq_true_eq, decide_eq_false_iff_not] at *; omega) | (simp at *; omega)))) rfl rfl ?_
  refine SL.op (OpT.plain rfl (OpOk.loadRef ty_9 (Typ.tmp rfl))) rfl rfl ?_
  refine SL.op (OpT.plain rfl (OpOk.call Tryz.call25 Typ.fn (Typs.cons (Typ.tmp rfl) Typs.nil) (s_line_Get _ h2))) rfl rfl ?_
  refine SL.op (OpT.plain rfl (OpOk.move (Typ.tmp rfl))) rfl rfl ?_
  refine SL.op (OpT.plain rfl (OpOk.extract (Typ.tmp rfl) rfl)) rfl rfl ?_
  refine SL.op (OpT.plain rfl (OpOk.extract (Typ.tmp rfl) rfl)) rfl rfl ?_
  refine SL.allocOwn tyz_29 rfl fun b3 => ?_
  refine SL.opW (OpW.storeOwn ty_29 (Lens.id _) (i := 2) rfl rfl (Typ.tmp rfl) (Typ.tmp rfl)) ?_
  refine SL.op (OpT.plain rfl (OpOk.assign (Typ.tmp rfl))) rfl rfl ?_
  refine SL.nil ?_
  refine SK.code ?_
  refine SC.seq ?_
  refine SC.region ?_
  refine SL.op (OpT.plain rfl (OpOk.loadOwn ty_29 (Lens.id _) (k := 2) rfl rfl (Typ.tmp rfl))) rfl rfl ?_
  refine SL.op (OpT.plain rfl (OpOk.fieldAddrOwn fld_38_5 (Typ.tmp rfl))) rfl rfl ?_
  refine SL.opW (OpW.storeOwn ty_29 Sess.l_cmd (i := 0) rfl rfl (Typ.tmp rfl) (Typ.tmp rfl)) ?_
  refine SL.nil ?_
  refine SK.code ?_
  refine SC.seq ?_
  refine SC.block ?_
  refine SC.seq ?_
  refine SC.region ?_
  refine SL.op (OpT.plain rfl (OpOk.move (Typ.tmp rfl))) rfl rfl ?_
  refine SL.op (OpT.plain rfl (OpOk.neq (Typ.tmp rfl) Typ.cint)) rfl rfl ?_
  refine SL.op (OpT.plain rfl (OpOk.assign (Typ.tmp rfl))) rfl rfl ?_
  refine SL.nil ?_
  refine SK.code ?_
  refine SC.cond rfl (fun _ _ h => V_bool h) (fun h4 => ?_) (fun h4 => ?_)
  · skip
    try simp only [decide_eq_true_eq, decide_eq_false_iff_not, Bool.and_eq_true, Bool.or_eq_true, Bool.not_eq_true', Bool.not_eq_false', Bool.and_eq_false_iff, Bool.or_eq_false_iff, Bool.not_not, Bool.not_true, Bool.not_false, ne_eq, Classical.not_not, Decidable.not_not] at h4
    refine SC.region ?_
    refine SL.op (OpT.plain rfl (OpOk.move (Typ.tmp rfl))) rfl rfl ?_
    refine SL.op (OpT.plain rfl (OpOk.build tys_35 (Parts.cons Reply.l_err rfl (Typ.tmp rfl) Parts.nil))) rfl rfl ?_
    refine SL.op (OpT.plain rfl (OpOk.fieldAddrOwn fld_38_3 (Typ.tmp rfl))) rfl rfl ?_
    refine SL.opW (OpW.storeOwn ty_3 Sess.l_phase (i := 0) rfl rfl (Typ.tmp rfl) Typ.cint) ?_
    refine SL.op (OpT.plain rfl (OpOk.fieldAddrOwn fld_38_9 (Typ.tmp rfl))) rfl rfl ?_
    refine SL.opW (OpW.storeOwn ty_35 Sess.l_reply (i := 0) rfl rfl (Typ.tmp rfl) (Typ.tmp rfl)) ?_
    refine SL.nil ?_
    refine SK.blk ?_
    refine SK.code ?_
    refine SC.seq ?_
    refine SC.region ?_
    refine SL.op (OpT.plain rfl (OpOk.loadOwn ty_38 (Lens.id _) (k := 0) rfl rfl (Typ.tmp rfl))) rfl rfl ?_
    refine SL.opW (OpW.storeOwn ty_38 (Lens.id _) (i := 1) rfl rfl (Typ.tmp rfl) (Typ.tmp rfl)) ?_
    refine SL.nil ?_
    refine SK.code ?_
    refine SC.ret ?_
    exact SR.one rfl (ResT.own ty_38 rfl (k := 1) rfl (by first | ((unfold openS; rw [if_pos (by assumption)]; rfl)) | ((unfold openS; rw [if_neg (by simp_all), if_pos (by assumption)]; rfl)) | ((unfold openS; rw [if_neg (by simp_all), if_neg (by simp_all)]; rfl)) | rfl | (simp_all []; done) | (simp_all []; rfl) | (simp_all []; omega)))
  · skip
    try simp only [decide_eq_true_eq, decide_eq_false_iff_not, Bool.and_eq_true, Bool.or_eq_true, Bool.not_eq_true', Bool.not_eq_false', Bool.and_eq_false_iff, Bool.or_eq_false_iff, Bool.not_not, Bool.not_true, Bool.not_false, ne_eq, Classical.not_not, Decidable.not_not] at h4
    refine SC.seq ?_
    refine SC.region ?_
    refine SL.op (OpT.plain rfl (OpOk.fieldAddrOwn fld_29_0 (Typ.tmp rfl))) rfl rfl ?_
    refine SL.op (OpT.plain rfl (OpOk.loadOwn ty_3 Cmd.l_kind (k := 2) rfl rfl (Typ.tmp rfl))) rfl rfl ?_
    refine SL.op (OpT.plain rfl (OpOk.eql (Typ.tmp rfl) Typ.cint)) rfl rfl ?_
    refine SL.op (OpT.plain rfl (OpOk.move (Typ.tmp rfl))) rfl rfl ?_
    refine SL.op (OpT.guard rfl rfl rfl (fun _ _ h => V_bool h) (fun hg => OpOk.fieldAddrOwn fld_29_0 (Typ.tmp rfl))) rfl rfl ?_
    refine SL.op (OpT.guard rfl rfl rfl (fun _ _ h => V_bool h) (fun hg => OpOk.loadOwn ty_3 Cmd.l_kind (k := 2) rfl rfl (Typ.cond hg rfl))) rfl rfl ?_
    refine SL.op (OpT.guard rfl rfl rfl (fun _ _ h => V_bool h) (fun hg => OpOk.eql (Typ.cond hg rfl) Typ.cint)) rfl rfl ?_
    refine SL.op (OpT.plain rfl (OpOk.pickOr (Typ.tmp rfl) (fun hb => Typ.cond hb rfl))) rfl rfl ?_
    refine SL.op (OpT.plain rfl (OpOk.assign (Typ.tmp rfl))) rfl rfl ?_
    refine SL.nil ?_
    refine SK.code ?_
    refine SC.cond rfl (fun _ _ h => V_bool h) (fun h5 => ?_) (fun h5 => ?_)
    · skip
      try simp only [decide_eq_true_eq, decide_eq_false_iff_not, Bool.and_eq_true, Bool.or_eq_true, Bool.not_eq_true', Bool.not_eq_false', Bool.and_eq_false_iff, Bool.or_eq_false_iff, Bool.not_not, Bool.not_true, Bool.not_false, ne_eq, Classical.not_not, Decidable.not_not] at h5
      refine SC.region ?_
      refine SL.op (OpT.plain rfl (OpOk.fieldAddrOwn fld_38_3 (Typ.tmp rfl))) rfl rfl ?_
      refine SL.opW (OpW.storeOwn ty_3 Sess.l_phase (i := 0) rfl rfl (Typ.tmp rfl) Typ.cint) ?_
      refine SL.nil ?_
      refine SK.blk ?_
      refine SK.code ?_
      refine SC.seq ?_
      refine SC.region ?_
      refine SL.op (OpT.plain rfl (OpOk.loadOwn ty_38 (Lens.id _) (k := 0) rfl rfl (Typ.tmp rfl))) rfl rfl ?_
      refine SL.opW (OpW.storeOwn ty_38 (Lens.id _) (i := 1) rfl rfl (Typ.tmp rfl) (Typ.tmp rfl)) ?_
      refine SL.nil ?_
      refine SK.code ?_
      refine SC.ret ?_
      exact SR.one rfl (ResT.own ty_38 rfl (k := 1) rfl (by first | ((unfold openS; rw [if_pos (by assumption)]; rfl)) | ((unfold openS; rw [if_neg (by simp_all), if_pos (by assumption)]; rfl)) | ((unfold openS; rw [if_neg (by simp_all), if_neg (by simp_all)]; rfl)) | rfl | (simp_all []; done) | (simp_all []; rfl) | (simp_all []; omega)))
    · skip
      try simp only [decide_eq_true_eq, decide_eq_false_iff_not, Bool.and_eq_true, Bool.or_eq_true, Bool.not_eq_true', Bool.not_eq_false', Bool.and_eq_false_iff, Bool.or_eq_false_iff, Bool.not_not, Bool.not_true, Bool.not_false, ne_eq, Classical.not_not, Decidable.not_not] at h5
      refine SC.region ?_
      refine SL.op (OpT.plain rfl (OpOk.fieldAddrOwn fld_38_3 (Typ.tmp rfl))) rfl rfl ?_
      refine SL.opW (OpW.storeOwn ty_3 Sess.l_phase (i := 0) rfl rfl (Typ.tmp rfl) Typ.cint) ?_
      refine SL.nil ?_
      refine SK.blk ?_
      refine SK.code ?_
      refine SC.seq ?_
      refine SC.region ?_
      refine SL.op (OpT.plain rfl (OpOk.loadOwn ty_38 (Lens.id _) (k := 0) rfl rfl (Typ.tmp rfl))) rfl rfl ?_
      refine SL.opW (OpW.storeOwn ty_38 (Lens.id _) (i := 1) rfl rfl (Typ.tmp rfl) (Typ.tmp rfl)) ?_
      refine SL.nil ?_
      refine SK.code ?_
      refine SC.ret ?_
      exact SR.one rfl (ResT.own ty_38 rfl (k := 1) rfl (by first | ((unfold openS; rw [if_pos (by assumption)]; rfl)) | ((unfold openS; rw [if_neg (by simp_all), if_pos (by assumption)]; rfl)) | ((unfold openS; rw [if_neg (by simp_all), if_neg (by simp_all)]; rfl)) | rfl | (simp_all []; done) | (simp_all []; rfl) | (simp_all []; omega)))
end Go.Proofs.YtgnblhmejecgfaaGreatDoor
