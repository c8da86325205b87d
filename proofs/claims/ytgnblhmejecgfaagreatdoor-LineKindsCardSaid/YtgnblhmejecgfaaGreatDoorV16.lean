/- Layer 4: its laws. -/
import Derived.Test.YtgnblhmejecgfaaGreatDoorY
import Derived.Test.YtgnblhmejecgfaaGreatDoorV6
set_option linter.all false

namespace Go.Proofs.YtgnblhmejecgfaaGreatDoor
open Go Go.RowKit Go.Inn
set_option linter.unusedSimpArgs false
set_option linter.unusedVariables false
set_option maxRecDepth 100000
theorem aw1 : putR ({ kind := 8, who := 2, gives := [1, 2], pay := 5 } : Cmd) = ([116, 114, 97, 100, 101, 32, 50, 32, 103, 105, 118, 101, 32, 49, 32, 50, 32, 99, 111, 105, 110, 115, 32, 53, 32, 102, 111, 114, 32, 99, 111, 105, 110, 115, 32, 48], 0) := by decide +kernel
theorem aw2 : getC [32, 116, 114, 97, 100, 101, 32, 50, 32, 32, 103, 105, 118, 101, 32, 49, 32, 50, 32, 99, 111, 105, 110, 115, 32, 53, 32, 102, 111, 114, 32, 99, 111, 105, 110, 115, 32, 48, 32] = (({ kind := 8, who := 2, gives := [1, 2], pay := 5 } : Cmd), 0) := by decide +kernel
theorem aw3 : getC [116, 114, 97, 100, 101, 32, 50, 32, 103, 105, 118, 101, 32, 49, 32, 50, 32, 99, 111, 105, 110, 115, 32, 53, 32, 102, 111, 114, 32, 99, 111, 105, 110, 115] = ({}, 2) := by decide +kernel
theorem aw4 : putR {} = ([], 2) := by decide +kernel
theorem aw5 : getC [109, 111, 118, 101, 32, 119, 101, 115, 116] = ({ kind := 1, dir := 3 }, 0) := by decide +kernel
theorem aw6 : getC [109, 111, 118, 101, 32, 119, 101, 115, 116, 32, 119, 101, 115, 116] = ({}, 2) := by decide +kernel

/-! innkeep/innkeeplaw04.awake -/
theorem s_innkeeplaw04_awake  : FnSpec Tryz.prog glob 21 [] (V true) := by
  refine FnSpec.enter Tryz.func21 rfl rfl rfl fun m0 w0 => ?_
  refine SC.seq ?_
  refine SC.region ?_
  refine SL.op (OpT.plain rfl (OpOk.assign Typ.cbool)) rfl rfl ?_
  refine SL.nil ?_
  refine SK.code ?_
  refine SC.seq ?_
  refine SC.region ?_
  refine SL.op (OpT.plain rfl (OpOk.buildSlice lit_27_2 (parts := [(0, Operand.const (Value.int IntKind.i64 (1))), (1, Operand.const (Value.int IntKind.i64 (2)))]) rfl (TypL.cons Typ.cint (TypL.cons Typ.cint TypL.nil)))) rfl rfl ?_
  refine SL.op (OpT.plain rfl (OpOk.build tys_29 (Parts.cons Cmd.l_kind rfl Typ.cint (Parts.cons Cmd.l_who rfl Typ.cint (Parts.cons Cmd.l_gives rfl (Typ.tmp rfl) (Parts.cons Cmd.l_pay rfl Typ.cint Parts.nil)))))) rfl rfl ?_
  refine SL.allocOwn tyz_29 rfl fun b1 => ?_
  refine SL.opW (OpW.storeOwn ty_29 (Lens.id _) (i := 0) rfl rfl (Typ.tmp rfl) (Typ.tmp rfl)) ?_
  refine SL.nil ?_
  refine SK.code ?_
  refine SC.seq ?_
  refine SC.region ?_
  refine SL.op (OpT.plain rfl (OpOk.loadOwn ty_29 (Lens.id _) (k := 0) rfl rfl (Typ.tmp rfl))) rfl rfl ?_
  refine SL.op (OpT.plain rfl (OpOk.call Tryz.call23 Typ.fn (Typs.cons (Typ.tmp rfl) Typs.nil) (FnSpec.eqv2 aw1 (s_line_Put _)))) rfl rfl ?_
  refine SL.op (OpT.plain rfl (OpOk.move (Typ.tmp rfl))) rfl rfl ?_
  refine SL.op (OpT.plain rfl (OpOk.extract (Typ.tmp rfl) rfl)) rfl rfl ?_
  refine SL.op (OpT.plain rfl (OpOk.extract (Typ.tmp rfl) rfl)) rfl rfl ?_
  refine SL.op (OpT.plain rfl (OpOk.assign (Typ.tmp rfl))) rfl rfl ?_
  refine SL.op (OpT.plain rfl (OpOk.assign (Typ.tmp rfl))) rfl rfl ?_
  refine SL.nil ?_
  refine SK.code ?_
  refine SC.seq ?_
  refine SC.region ?_
  refine SL.op (OpT.plain rfl (OpOk.call Tryz.call25 Typ.fn (Typs.cons (Typ.cstr (l := [32, 116, 114, 97, 100, 101, 32, 50, 32, 32, 103, 105, 118, 101, 32, 49, 32, 50, 32, 99, 111, 105, 110, 115, 32, 53, 32, 102, 111, 114, 32, 99, 111, 105, 110, 115, 32, 48, 32])) Typs.nil) (FnSpec.eqv2 aw2 (s_line_Get _ (by decide))))) rfl rfl ?_
  refine SL.op (OpT.plain rfl (OpOk.move (Typ.tmp rfl))) rfl rfl ?_
  refine SL.op (OpT.plain rfl (OpOk.extract (Typ.tmp rfl) rfl)) rfl rfl ?_
  refine SL.op (OpT.plain rfl (OpOk.extract (Typ.tmp rfl) rfl)) rfl rfl ?_
  refine SL.allocOwn tyz_29 rfl fun b2 => ?_
  refine SL.opW (OpW.storeOwn ty_29 (Lens.id _) (i := 1) rfl rfl (Typ.tmp rfl) (Typ.tmp rfl)) ?_
  refine SL.op (OpT.plain rfl (OpOk.assign (Typ.tmp rfl))) rfl rfl ?_
  refine SL.nil ?_
  refine SK.code ?_
  refine SC.seq ?_
  refine SC.region ?_
  refine SL.op (OpT.plain rfl (OpOk.call Tryz.call25 Typ.fn (Typs.cons (Typ.cstr (l := [116, 114, 97, 100, 101, 32, 50, 32, 103, 105, 118, 101, 32, 49, 32, 50, 32, 99, 111, 105, 110, 115, 32, 53, 32, 102, 111, 114, 32, 99, 111, 105, 110, 115])) Typs.nil) (FnSpec.eqv2 aw3 (s_line_Get _ (by decide))))) rfl rfl ?_
  refine SL.op (OpT.plain rfl (OpOk.move (Typ.tmp rfl))) rfl rfl ?_
  refine SL.op (OpT.plain rfl (OpOk.extract (Typ.tmp rfl) rfl)) rfl rfl ?_
  refine SL.op (OpT.plain rfl (OpOk.extract (Typ.tmp rfl) rfl)) rfl rfl ?_
  refine SL.allocOwn tyz_29 rfl fun b3 => ?_
  refine SL.opW (OpW.storeOwn ty_29 (Lens.id _) (i := 2) rfl rfl (Typ.tmp rfl) (Typ.tmp rfl)) ?_
  refine SL.op (OpT.plain rfl (OpOk.assign (Typ.tmp rfl))) rfl rfl ?_
  refine SL.nil ?_
  refine SK.code ?_
  refine SC.seq ?_
  refine SC.region ?_
  refine SL.op (OpT.plain rfl (OpOk.build tys_29 Parts.nil)) rfl rfl ?_
  refine SL.op (OpT.plain rfl (OpOk.call Tryz.call23 Typ.fn (Typs.cons (Typ.tmp rfl) Typs.nil) (FnSpec.eqv2 aw4 (s_line_Put _)))) rfl rfl ?_
  refine SL.op (OpT.plain rfl (OpOk.move (Typ.tmp rfl))) rfl rfl ?_
  refine SL.op (OpT.plain rfl (OpOk.extract (Typ.tmp rfl) rfl)) rfl rfl ?_
  refine SL.op (OpT.plain rfl (OpOk.extract (Typ.tmp rfl) rfl)) rfl rfl ?_
  refine SL.op (OpT.plain rfl (OpOk.assign (Typ.tmp rfl))) rfl rfl ?_
  refine SL.op (OpT.plain rfl (OpOk.assign (Typ.tmp rfl))) rfl rfl ?_
  refine SL.nil ?_
  refine SK.code ?_
  refine SC.seq ?_
  refine SC.region ?_
  refine SL.op (OpT.plain rfl (OpOk.call Tryz.call25 Typ.fn (Typs.cons (Typ.cstr (l := [109, 111, 118, 101, 32, 119, 101, 115, 116])) Typs.nil) (FnSpec.eqv2 aw5 (s_line_Get _ (by decide))))) rfl rfl ?_
  refine SL.op (OpT.plain rfl (OpOk.move (Typ.tmp rfl))) rfl rfl ?_
  refine SL.op (OpT.plain rfl (OpOk.extract (Typ.tmp rfl) rfl)) rfl rfl ?_
  refine SL.op (OpT.plain rfl (OpOk.extract (Typ.tmp rfl) rfl)) rfl rfl ?_
  refine SL.allocOwn tyz_29 rfl fun b4 => ?_
  refine SL.opW (OpW.storeOwn ty_29 (Lens.id _) (i := 3) rfl rfl (Typ.tmp rfl) (Typ.tmp rfl)) ?_
  refine SL.op (OpT.plain rfl (OpOk.assign (Typ.tmp rfl))) rfl rfl ?_
  refine SL.nil ?_
  refine SK.code ?_
  refine SC.seq ?_
  conv => arg 4; simp only [List.set_cons_zero, List.set_cons_succ, List.cons_append, List.nil_append]
  refine SC.region ?_
  refine SL.op (OpT.plain rfl (OpOk.call Tryz.call25 Typ.fn (Typs.cons (Typ.cstr (l := [109, 111, 118, 101, 32, 119, 101, 115, 116, 32, 119, 101, 115, 116])) Typs.nil) (FnSpec.eqv2 aw6 (s_line_Get _ (by decide))))) rfl rfl ?_
  refine SL.op (OpT.plain rfl (OpOk.move (Typ.tmp rfl))) rfl rfl ?_
  refine SL.op (OpT.plain rfl (OpOk.extract (Typ.tmp rfl) rfl)) rfl rfl ?_
  refine SL.op (OpT.plain rfl (OpOk.extract (Typ.tmp rfl) rfl)) rfl rfl ?_
  refine SL.allocOwn tyz_29 rfl fun b5 => ?_
  refine SL.opW (OpW.storeOwn ty_29 (Lens.id _) (i := 4) rfl rfl (Typ.tmp rfl) (Typ.tmp rfl)) ?_
  refine SL.op (OpT.plain rfl (OpOk.assign (Typ.tmp rfl))) rfl rfl ?_
  refine SL.nil ?_
  refine SK.code ?_
  refine SC.seq ?_
  conv => arg 4; simp only [List.set_cons_zero, List.set_cons_succ, List.cons_append, List.nil_append]
  refine SC.region ?_
  refine SL.op (OpT.plain rfl (OpOk.move (Typ.tmp rfl))) rfl rfl ?_
  refine SL.op (OpT.plain rfl (OpOk.eqlS (Typ.tmp rfl) (Typ.cstr (l := [116, 114, 97, 100, 101, 32, 50, 32, 103, 105, 118, 101, 32, 49, 32, 50, 32, 99, 111, 105, 110, 115, 32, 53, 32, 102, 111, 114, 32, 99, 111, 105, 110, 115, 32, 48])))) rfl rfl ?_
  refine SL.op (OpT.plain rfl (OpOk.move (Typ.tmp rfl))) rfl rfl ?_
  refine SL.op (OpT.guard rfl rfl rfl (fun _ _ h => V_bool h) (fun hg => OpOk.move (Typ.tmp rfl))) rfl rfl ?_
  refine SL.op (OpT.guard rfl rfl rfl (fun _ _ h => V_bool h) (fun hg => OpOk.eql (Typ.cond hg rfl) Typ.cint)) rfl rfl ?_
  refine SL.op (OpT.plain rfl (OpOk.pickAnd (Typ.tmp rfl) (fun hb => Typ.cond hb rfl))) rfl rfl ?_
  refine SL.op (OpT.plain rfl (OpOk.move (Typ.tmp rfl))) rfl rfl ?_
  refine SL.op (OpT.guard rfl rfl rfl (fun _ _ h => V_bool h) (fun hg => OpOk.move (Typ.tmp rfl))) rfl rfl ?_
  refine SL.op (OpT.guard rfl rfl rfl (fun _ _ h => V_bool h) (fun hg => OpOk.eql (Typ.cond hg rfl) Typ.cint)) rfl rfl ?_
  refine SL.op (OpT.plain rfl (OpOk.pickAnd (Typ.tmp rfl) (fun hb => Typ.cond hb rfl))) rfl rfl ?_
  refine SL.op (OpT.plain rfl (OpOk.move (Typ.tmp rfl))) rfl rfl ?_
  refine SL.op (OpT.guard rfl rfl rfl (fun _ _ h => V_bool h) (fun hg => OpOk.loadOwn ty_29 (Lens.id _) (k := 0) rfl rfl (Typ.tmp rfl))) rfl rfl ?_
  refine SL.op (OpT.guard rfl rfl rfl (fun _ _ h => V_bool h) (fun hg => OpOk.loadOwn ty_29 (Lens.id _) (k := 1) rfl rfl (Typ.tmp rfl))) rfl rfl ?_
  refine SL.op (OpT.guard rfl rfl rfl (fun _ _ h => V_bool h) (fun hg => OpOk.call Tryz.call15 Typ.fn (Typs.cons (Typ.cond hg rfl) (Typs.cons (Typ.cond hg rfl) Typs.nil)) (s_innkeepref03_Same _ _))) rfl rfl ?_
  refine SL.op (OpT.plain rfl (OpOk.pickAnd (Typ.tmp rfl) (fun hb => Typ.cond hb rfl))) rfl rfl ?_
  refine SL.op (OpT.plain rfl (OpOk.move (Typ.tmp rfl))) rfl rfl ?_
  refine SL.op (OpT.guard rfl rfl rfl (fun _ _ h => V_bool h) (fun hg => OpOk.move (Typ.tmp rfl))) rfl rfl ?_
  refine SL.op (OpT.guard rfl rfl rfl (fun _ _ h => V_bool h) (fun hg => OpOk.eql (Typ.cond hg rfl) Typ.cint)) rfl rfl ?_
  refine SL.op (OpT.plain rfl (OpOk.pickAnd (Typ.tmp rfl) (fun hb => Typ.cond hb rfl))) rfl rfl ?_
  refine SL.op (OpT.plain rfl (OpOk.move (Typ.tmp rfl))) rfl rfl ?_
  refine SL.op (OpT.guard rfl rfl rfl (fun _ _ h => V_bool h) (fun hg => OpOk.move (Typ.tmp rfl))) rfl rfl ?_
  refine SL.op (OpT.guard rfl rfl rfl (fun _ _ h => V_bool h) (fun hg => OpOk.eql (Typ.cond hg rfl) Typ.cint)) rfl rfl ?_
  refine SL.op (OpT.plain rfl (OpOk.pickAnd (Typ.tmp rfl) (fun hb => Typ.cond hb rfl))) rfl rfl ?_
  refine SL.op (OpT.plain rfl (OpOk.move (Typ.tmp rfl))) rfl rfl ?_
  refine SL.op (OpT.guard rfl rfl rfl (fun _ _ h => V_bool h) (fun hg => OpOk.move (Typ.tmp rfl))) rfl rfl ?_
  refine SL.op (OpT.guard rfl rfl rfl (fun _ _ h => V_bool h) (fun hg => OpOk.eql (Typ.cond hg rfl) Typ.cint)) rfl rfl ?_
  refine SL.op (OpT.plain rfl (OpOk.pickAnd (Typ.tmp rfl) (fun hb => Typ.cond hb rfl))) rfl rfl ?_
  refine SL.op (OpT.plain rfl (OpOk.move (Typ.tmp rfl))) rfl rfl ?_
  refine SL.op (OpT.guard rfl rfl rfl (fun _ _ h => V_bool h) (fun hg => OpOk.fieldAddrOwn fld_29_1 (Typ.tmp rfl))) rfl rfl ?_
  refine SL.op (OpT.guard rfl rfl rfl (fun _ _ h => V_bool h) (fun hg => OpOk.loadOwn ty_3 Cmd.l_dir (k := 3) rfl rfl (Typ.cond hg rfl))) rfl rfl ?_
  refine SL.op (OpT.guard rfl rfl rfl (fun _ _ h => V_bool h) (fun hg => OpOk.eql (Typ.cond hg rfl) Typ.cint)) rfl rfl ?_
  refine SL.op (OpT.plain rfl (OpOk.pickAnd (Typ.tmp rfl) (fun hb => Typ.cond hb rfl))) rfl rfl ?_
  refine SL.op (OpT.plain rfl (OpOk.move (Typ.tmp rfl))) rfl rfl ?_
  refine SL.op (OpT.guard rfl rfl rfl (fun _ _ h => V_bool h) (fun hg => OpOk.move (Typ.tmp rfl))) rfl rfl ?_
  refine SL.op (OpT.guard rfl rfl rfl (fun _ _ h => V_bool h) (fun hg => OpOk.eql (Typ.cond hg rfl) Typ.cint)) rfl rfl ?_
  refine SL.op (OpT.plain rfl (OpOk.pickAnd (Typ.tmp rfl) (fun hb => Typ.cond hb rfl))) rfl rfl ?_
  refine SL.op (OpT.plain rfl (OpOk.assign (Typ.tmp rfl))) rfl rfl ?_
  refine SL.nil ?_
  refine SK.code ?_
  refine SC.ret ?_
  exact SR.one rfl (ResT.eq rfl (by first | ((decide +kernel)) | rfl | (simp_all []; done) | (simp_all []; rfl) | (simp_all []; omega)))

/-! innkeep/innkeeplaw04.LinePuts -/
theorem s_innkeeplaw04_LinePuts (c : Cmd) : FnSpec Tryz.prog glob 6 [V c] (V true) := by
  refine FnSpec.enter Tryz.func6 rfl rfl rfl fun m0 w0 => ?_
  refine SC.seq ?_
  refine SC.region ?_
  refine SL.op (OpT.plain rfl (OpOk.boxRef (Typ.tmp rfl))) rfl rfl ?_
  refine SL.op (OpT.plain rfl (OpOk.assign Typ.cbool)) rfl rfl ?_
  refine SL.nil ?_
  refine SK.code ?_
  refine SC.seq ?_
  refine SC.seq ?_
  refine SC.region ?_
  refine SL.op (OpT.plain rfl (OpOk.call Tryz.call21 Typ.fn Typs.nil (s_innkeeplaw04_awake))) rfl rfl ?_
  refine SL.op (OpT.plain rfl (OpOk.not (Typ.tmp rfl))) rfl rfl ?_
  refine SL.op (OpT.plain rfl (OpOk.move (Typ.tmp rfl))) rfl rfl ?_
  refine SL.op (OpT.guard rfl rfl rfl (fun _ _ h => V_bool h) (fun hg => OpOk.loadRef ty_29 (Typ.tmp rfl))) rfl rfl ?_
  refine SL.op (OpT.guard rfl rfl rfl (fun _ _ h => V_bool h) (fun hg => OpOk.call Tryz.call22 Typ.fn (Typs.cons (Typ.cond hg rfl) Typs.nil) (s_innkeepref03_Few _))) rfl rfl ?_
  refine SL.op (OpT.guard rfl rfl rfl (fun _ _ h => V_bool h) (fun hg => OpOk.not (Typ.cond hg rfl))) rfl rfl ?_
  refine SL.op (OpT.plain rfl (OpOk.pickOr (Typ.tmp rfl) (fun hb => Typ.cond hb rfl))) rfl rfl ?_
  refine SL.nil ?_
  refine SK.code ?_
  refine SC.cond rfl (fun _ _ h => V_bool h) (fun h1 => ?_) (fun h1 => ?_)
  · skip
    try simp only [decide_eq_true_eq, decide_eq_false_iff_not, Bool.and_eq_true, Bool.or_eq_true, Bool.not_eq_true', Bool.not_eq_false', Bool.and_eq_false_iff, Bool.or_eq_false_iff, Bool.not_not, Bool.not_true, Bool.not_false, ne_eq, Classical.not_not, Decidable.not_not] at h1
    refine SC.seq ?_
    refine SC.region ?_
    refine SL.op (OpT.plain rfl (OpOk.call Tryz.call21 Typ.fn Typs.nil (s_innkeeplaw04_awake))) rfl rfl ?_
    refine SL.op (OpT.plain rfl (OpOk.assign (Typ.tmp rfl))) rfl rfl ?_
    refine SL.nil ?_
    refine SK.code ?_
    refine SC.ret ?_
    exact SR.one rfl (ResT.eq rfl (by first | rfl | (simp_all []; done) | (simp_all []; rfl) | (simp_all []; omega)))
  · skip
    try simp only [decide_eq_true_eq, decide_eq_false_iff_not, Bool.and_eq_true, Bool.or_eq_true, Bool.not_eq_true', Bool.not_eq_false', Bool.and_eq_false_iff, Bool.or_eq_false_iff, Bool.not_not, Bool.not_true, Bool.not_false, ne_eq, Classical.not_not, Decidable.not_not] at h1
    refine SC.skip ?_
    refine SK.code ?_
    refine SC.seq ?_
    refine SC.region ?_
    refine SL.op (OpT.plain rfl (OpOk.loadRef ty_29 (Typ.tmp rfl))) rfl rfl ?_
    refine SL.op (OpT.plain rfl (OpOk.call Tryz.call23 Typ.fn (Typs.cons (Typ.tmp rfl) Typs.nil) (s_line_Put _))) rfl rfl ?_
    refine SL.op (OpT.plain rfl (OpOk.move (Typ.tmp rfl))) rfl rfl ?_
    refine SL.op (OpT.plain rfl (OpOk.extract (Typ.tmp rfl) rfl)) rfl rfl ?_
    refine SL.op (OpT.plain rfl (OpOk.extract (Typ.tmp rfl) rfl)) rfl rfl ?_
    refine SL.op (OpT.plain rfl (OpOk.assign (Typ.tmp rfl))) rfl rfl ?_
    refine SL.op (OpT.plain rfl (OpOk.assign (Typ.tmp rfl))) rfl rfl ?_
    refine SL.nil ?_
    refine SK.code ?_
    refine SC.seq ?_
    refine SC.region ?_
    refine SL.op (OpT.plain rfl (OpOk.loadRef ty_29 (Typ.tmp rfl))) rfl rfl ?_
    refine SL.op (OpT.plain rfl (OpOk.call Tryz.call24 Typ.fn (Typs.cons (Typ.tmp rfl) Typs.nil) (s_innkeepref04_Put _))) rfl rfl ?_
    refine SL.op (OpT.plain rfl (OpOk.move (Typ.tmp rfl))) rfl rfl ?_
    refine SL.op (OpT.plain rfl (OpOk.extract (Typ.tmp rfl) rfl)) rfl rfl ?_
    refine SL.op (OpT.plain rfl (OpOk.extract (Typ.tmp rfl) rfl)) rfl rfl ?_
    refine SL.op (OpT.plain rfl (OpOk.assign (Typ.tmp rfl))) rfl rfl ?_
    refine SL.op (OpT.plain rfl (OpOk.assign (Typ.tmp rfl))) rfl rfl ?_
    refine SL.nil ?_
    refine SK.code ?_
    refine SC.seq ?_
    refine SC.region ?_
    refine SL.op (OpT.plain rfl (OpOk.move (Typ.tmp rfl))) rfl rfl ?_
    refine SL.op (OpT.plain rfl (OpOk.move (Typ.tmp rfl))) rfl rfl ?_
    refine SL.op (OpT.plain rfl (OpOk.eqlS (Typ.tmp rfl) (Typ.tmp rfl))) rfl rfl ?_
    refine SL.op (OpT.plain rfl (OpOk.move (Typ.tmp rfl))) rfl rfl ?_
    refine SL.op (OpT.guard rfl rfl rfl (fun _ _ h => V_bool h) (fun hg => OpOk.move (Typ.tmp rfl))) rfl rfl ?_
    refine SL.op (OpT.guard rfl rfl rfl (fun _ _ h => V_bool h) (fun hg => OpOk.move (Typ.tmp rfl))) rfl rfl ?_
    refine SL.op (OpT.guard rfl rfl rfl (fun _ _ h => V_bool h) (fun hg => OpOk.eql (Typ.cond hg rfl) (Typ.cond hg rfl))) rfl rfl ?_
    refine SL.op (OpT.plain rfl (OpOk.pickAnd (Typ.tmp rfl) (fun hb => Typ.cond hb rfl))) rfl rfl ?_
    refine SL.op (OpT.plain rfl (OpOk.assign (Typ.tmp rfl))) rfl rfl ?_
    refine SL.nil ?_
    refine SK.code ?_
    refine SC.ret ?_
    exact SR.one rfl (ResT.eq rfl (by first | rfl | (simp_all []; done) | (simp_all []; rfl) | (simp_all []; omega)))

/-! innkeep/innkeeplaw04.LineGets -/
theorem s_innkeeplaw04_LineGets (s : Str) : FnSpec Tryz.prog glob 7 [V s] (V true) := by
  refine FnSpec.enter Tryz.func7 rfl rfl rfl fun m0 w0 => ?_
  refine SC.learnStr (t := 0) rfl fun hp0 => ?_
  refine SC.seq ?_
  refine SC.region ?_
  refine SL.op (OpT.plain rfl (OpOk.assign Typ.cbool)) rfl rfl ?_
  refine SL.nil ?_
  refine SK.code ?_
  refine SC.seq ?_
  refine SC.seq ?_
  refine SC.region ?_
  refine SL.op (OpT.plain rfl (OpOk.call Tryz.call21 Typ.fn Typs.nil (s_innkeeplaw04_awake))) rfl rfl ?_
  refine SL.op (OpT.plain rfl (OpOk.not (Typ.tmp rfl))) rfl rfl ?_
  refine SL.op (OpT.plain rfl (OpOk.move (Typ.tmp rfl))) rfl rfl ?_
  refine SL.op (OpT.guard rfl rfl rfl (fun _ _ h => V_bool h) (fun hg => OpOk.move (Typ.tmp rfl))) rfl rfl ?_
  refine SL.op (OpT.guard rfl rfl rfl (fun _ _ h => V_bool h) (fun hg => OpOk.lenStr Tryz.underlying9 (Typ.cond hg rfl))) rfl rfl ?_
  refine SL.op (OpT.guard rfl rfl rfl (fun _ _ h => V_bool h) (fun hg => OpOk.gtr (Typ.cond hg rfl) Typ.cint)) rfl rfl ?_
  refine SL.op (OpT.plain rfl (OpOk.pickOr (Typ.tmp rfl) (fun hb => Typ.cond hb rfl))) rfl rfl ?_
  refine SL.nil ?_
  refine SK.code ?_
  refine SC.cond rfl (fun _ _ h => V_bool h) (fun h1 => ?_) (fun h1 => ?_)
  · skip
    try simp only [decide_eq_true_eq, decide_eq_false_iff_not, Bool.and_eq_true, Bool.or_eq_true, Bool.not_eq_true', Bool.not_eq_false', Bool.and_eq_false_iff, Bool.or_eq_false_iff, Bool.not_not, Bool.not_true, Bool.not_false, ne_eq, Classical.not_not, Decidable.not_not] at h1
    refine SC.seq ?_
    refine SC.region ?_
    refine SL.op (OpT.plain rfl (OpOk.call Tryz.call21 Typ.fn Typs.nil (s_innkeeplaw04_awake))) rfl rfl ?_
    refine SL.op (OpT.plain rfl (OpOk.assign (Typ.tmp rfl))) rfl rfl ?_
    refine SL.nil ?_
    refine SK.code ?_
    refine SC.ret ?_
    exact SR.one rfl (ResT.eq rfl (by first | rfl | (simp_all []; done) | (simp_all []; rfl) | (simp_all []; omega)))
  · skip
    try simp only [decide_eq_true_eq, decide_eq_false_iff_not, Bool.and_eq_true, Bool.or_eq_true, Bool.not_eq_true', Bool.not_eq_false', Bool.and_eq_false_iff, Bool.or_eq_false_iff, Bool.not_not, Bool.not_true, Bool.not_false, ne_eq, Classical.not_not, Decidable.not_not] at h1
    refine SC.skip ?_
    refine SK.code ?_
    refine SC.seq ?_
    refine SC.region ?_
    refine SL.op (OpT.plain rfl (OpOk.move (Typ.tmp rfl))) rfl rfl ?_
    refine SL.op (OpT.plain rfl (OpOk.call Tryz.call25 Typ.fn (Typs.cons (Typ.tmp rfl) Typs.nil) (s_line_Get _ (by omega)))) rfl rfl ?_
    refine SL.op (OpT.plain rfl (OpOk.move (Typ.tmp rfl))) rfl rfl ?_
    refine SL.op (OpT.plain rfl (OpOk.extract (Typ.tmp rfl) rfl)) rfl rfl ?_
    refine SL.op (OpT.plain rfl (OpOk.extract (Typ.tmp rfl) rfl)) rfl rfl ?_
    refine SL.allocOwn tyz_29 rfl fun b2 => ?_
    refine SL.opW (OpW.storeOwn ty_29 (Lens.id _) (i := 0) rfl rfl (Typ.tmp rfl) (Typ.tmp rfl)) ?_
    refine SL.op (OpT.plain rfl (OpOk.assign (Typ.tmp rfl))) rfl rfl ?_
    refine SL.nil ?_
    refine SK.code ?_
    refine SC.seq ?_
    refine SC.region ?_
    refine SL.op (OpT.plain rfl (OpOk.move (Typ.tmp rfl))) rfl rfl ?_
    refine SL.op (OpT.plain rfl (OpOk.call Tryz.call14 Typ.fn (Typs.cons (Typ.tmp rfl) Typs.nil) (s_ref04_Get_C _ (by omega)))) rfl rfl ?_
    refine SL.op (OpT.plain rfl (OpOk.move (Typ.tmp rfl))) rfl rfl ?_
    refine SL.op (OpT.plain rfl (OpOk.extract (Typ.tmp rfl) rfl)) rfl rfl ?_
    refine SL.op (OpT.plain rfl (OpOk.extract (Typ.tmp rfl) rfl)) rfl rfl ?_
    refine SL.allocOwn tyz_29 rfl fun b3 => ?_
    refine SL.opW (OpW.storeOwn ty_29 (Lens.id _) (i := 1) rfl rfl (Typ.tmp rfl) (Typ.tmp rfl)) ?_
    refine SL.op (OpT.plain rfl (OpOk.assign (Typ.tmp rfl))) rfl rfl ?_
    refine SL.nil ?_
    refine SK.code ?_
    refine SC.seq ?_
    refine SC.region ?_
    refine SL.op (OpT.plain rfl (OpOk.loadOwn ty_29 (Lens.id _) (k := 0) rfl rfl (Typ.tmp rfl))) rfl rfl ?_
    refine SL.op (OpT.plain rfl (OpOk.loadOwn ty_29 (Lens.id _) (k := 1) rfl rfl (Typ.tmp rfl))) rfl rfl ?_
    refine SL.op (OpT.plain rfl (OpOk.call Tryz.call15 Typ.fn (Typs.cons (Typ.tmp rfl) (Typs.cons (Typ.tmp rfl) Typs.nil)) (s_innkeepref03_Same _ _))) rfl rfl ?_
    refine SL.op (OpT.plain rfl (OpOk.move (Typ.tmp rfl))) rfl rfl ?_
    refine SL.op (OpT.guard rfl rfl rfl (fun _ _ h => V_bool h) (fun hg => OpOk.move (Typ.tmp rfl))) rfl rfl ?_
    refine SL.op (OpT.guard rfl rfl rfl (fun _ _ h => V_bool h) (fun hg => OpOk.move (Typ.tmp rfl))) rfl rfl ?_
    refine SL.op (OpT.guard rfl rfl rfl (fun _ _ h => V_bool h) (fun hg => OpOk.eql (Typ.cond hg rfl) (Typ.cond hg rfl))) rfl rfl ?_
    refine SL.op (OpT.plain rfl (OpOk.pickAnd (Typ.tmp rfl) (fun hb => Typ.cond hb rfl))) rfl rfl ?_
    refine SL.op (OpT.plain rfl (OpOk.assign (Typ.tmp rfl))) rfl rfl ?_
    refine SL.nil ?_
    refine SK.code ?_
    refine SC.ret ?_
    exact SR.one rfl (ResT.eq rfl (by first | rfl | (simp_all []; done) | (simp_all []; rfl) | (simp_all []; omega)))
end Go.Proofs.YtgnblhmejecgfaaGreatDoor
