/- Words, numbers, names, and the library's small helpers: what each computes. -/
import Derived.Test.YtgcaeaajpainmaaDoorV2
set_option linter.all false

namespace Go.Proofs.YtgcaeaajpainmaaDoor
open Go Go.RowKit Go.Inn
set_option linter.unusedSimpArgs false
set_option linter.unusedVariables false
set_option maxRecDepth 100000
/-! innkeep/innkeepref02.Word -/
theorem s_innkeepref02_Word (n : Int) : FnSpec Tryd.prog glob 12 [V n] (V (wordR n)) := by
  refine FnSpec.enter Tryd.func12 rfl rfl rfl fun m0 w0 => ?_
  have e1 := fun h : ¬ n < 10 => Int.tdiv_eq_ediv_of_nonneg (a := n) (b := 10) (by omega)
  have e2 := fun h : ¬ n < 10 => Int.tmod_eq_emod_of_nonneg (a := n) (b := 10) (by omega)
  refine SC.learnInt (t := 0) rfl fun hp0 => ?_
  refine SC.seq ?_
  refine SC.region ?_
  refine SL.op (OpT.plain rfl (OpOk.assign (Typ.cstr (l := [])))) rfl rfl ?_
  refine SL.nil ?_
  refine SK.code ?_
  refine SC.seq ?_
  refine SC.seq ?_
  refine SC.region ?_
  refine SL.op (OpT.plain rfl (OpOk.move (Typ.tmp rfl))) rfl rfl ?_
  refine SL.op (OpT.plain rfl (OpOk.lss (Typ.tmp rfl) Typ.cint)) rfl rfl ?_
  refine SL.nil ?_
  refine SK.code ?_
  refine SC.cond rfl (fun _ _ h => V_bool h) (fun h1 => ?_) (fun h1 => ?_)
  · skip
    try simp only [decide_eq_true_eq, decide_eq_false_iff_not, Bool.and_eq_true, Bool.or_eq_true, Bool.not_eq_true', Bool.not_eq_false', Bool.and_eq_false_iff, Bool.or_eq_false_iff, Bool.not_not, Bool.not_true, Bool.not_false, ne_eq, Classical.not_not, Decidable.not_not] at h1
    refine SC.seq ?_
    refine SC.region ?_
    refine SL.op (OpT.plain rfl (OpOk.move (Typ.tmp rfl))) rfl rfl ?_
    refine SL.op (OpT.plain rfl (OpOk.add Typ.cint (Typ.tmp rfl) (by first | (rw [e1]; unfold in64; omega) | (rw [e2]; unfold in64; omega) | (unfold in64; omega)))) rfl rfl ?_
    refine SL.op (OpT.plain rfl (OpOk.convI8 ⟨_, Tryd.underlying3⟩ Tryd.underlying5 (Typ.tmp rfl))) rfl rfl ?_
    refine SL.op (OpT.plain rfl (OpOk.buildSlice lit_54_1 (parts := [(0, Operand.tmp 7)]) rfl (TypL.cons (Typ.tmp rfl) TypL.nil))) rfl rfl ?_
    refine SL.op (OpT.plain rfl (OpOk.convBytes Tryd.underlying54 Tryd.underlying5 Tryd.underlying9 (Typ.tmp rfl))) rfl rfl ?_
    refine SL.op (OpT.plain rfl (OpOk.assign (Typ.tmp rfl))) rfl rfl ?_
    refine SL.nil ?_
    refine SK.code ?_
    refine SC.ret ?_
    exact SR.one rfl (ResT.eq rfl (by first | ((rw [wordR_small (n := n) (by assumption)])) | ((rw [wordR_big (n := n) (by assumption)])) | rfl | (simp_all []; done) | (simp_all []; rfl) | (simp_all []; omega)))
  · skip
    try simp only [decide_eq_true_eq, decide_eq_false_iff_not, Bool.and_eq_true, Bool.or_eq_true, Bool.not_eq_true', Bool.not_eq_false', Bool.and_eq_false_iff, Bool.or_eq_false_iff, Bool.not_not, Bool.not_true, Bool.not_false, ne_eq, Classical.not_not, Decidable.not_not] at h1
    replace e1 := e1 (by assumption)
    replace e2 := e2 (by assumption)
    have hw : (wordR (n.tdiv 10)).length ≤ 20 := wordR_len20 (by rw [e1]; omega)
    refine SC.skip ?_
    refine SK.code ?_
    refine SC.seq ?_
    refine DR.start ?_
    refine DR.op (fun _ => (OpT.plain rfl (OpOk.move (Typ.tmp rfl)))) rfl rfl ?_
    refine DR.op (fun _ => (OpT.plain rfl (OpOk.quo (Typ.tmp rfl) Typ.cint (by decide) (by first | (rw [e1]; unfold in64; omega) | (rw [e2]; unfold in64; omega) | (unfold in64; omega))))) rfl rfl ?_
    refine DR.op (fun _ => (OpT.plain rfl (OpOk.call Tryd.call12 Typ.fn (Typs.cons (Typ.tmp rfl) Typs.nil) (s_innkeepref02_Word _)))) rfl rfl ?_
    refine DR.op (fun _ => (OpT.plain rfl (OpOk.move (Typ.tmp rfl)))) rfl rfl ?_
    refine DR.op (fun _ => (OpT.plain rfl (OpOk.rem (Typ.tmp rfl) Typ.cint (by decide) (by first | (rw [e1]; unfold in64; omega) | (rw [e2]; unfold in64; omega) | (unfold in64; omega))))) rfl rfl ?_
    refine DR.op (fun _ => (OpT.plain rfl (OpOk.add Typ.cint (Typ.tmp rfl) (by first | (rw [e1]; unfold in64; omega) | (rw [e2]; unfold in64; omega) | (unfold in64; omega))))) rfl rfl ?_
    refine DR.op (fun _ => (OpT.plain rfl (OpOk.convI8 ⟨_, Tryd.underlying3⟩ Tryd.underlying5 (Typ.tmp rfl)))) rfl rfl ?_
    refine DR.op (fun _ => (OpT.plain rfl (OpOk.buildSlice lit_54_1 (parts := [(0, Operand.tmp 16)]) rfl (TypL.cons (Typ.tmp rfl) TypL.nil)))) rfl rfl ?_
    refine DR.op (fun _ => (OpT.plain rfl (OpOk.convBytes Tryd.underlying54 Tryd.underlying5 Tryd.underlying9 (Typ.tmp rfl)))) rfl rfl ?_
    refine DR.op (fun _ => (OpT.plain rfl (OpOk.addStr (Typ.tmp rfl) (Typ.tmp rfl) (by unfold maxLen; simp; omega)))) rfl rfl ?_
    refine DR.tail rfl (by decide +kernel) (show dstBelow _ 20 = true by decide +kernel) rfl ?_
    refine SL.op (OpT.plain rfl (OpOk.assign (Typ.tmp rfl))) rfl rfl ?_
    refine SL.nil ?_
    refine SK.code ?_
    refine SC.ret ?_
    exact SR.one rfl (ResT.eq rfl (by first | ((rw [wordR_small (n := n) (by assumption)])) | ((rw [wordR_big (n := n) (by assumption)])) | rfl | (simp_all []; done) | (simp_all []; rfl) | (simp_all []; omega)))
termination_by n.toNat
decreasing_by (have h' : ¬ n < 10 := (by first | assumption | exact of_decide_eq_false (by assumption)); have := Int.tdiv_eq_ediv_of_nonneg (a := n) (b := 10) (by omega); omega)

/-! innkeep/token.Word -/
theorem s_token_Word (n : Int) : FnSpec Tryd.prog glob 14 [V n] (V (wordT n)) := by
  refine FnSpec.enter Tryd.func14 rfl rfl rfl fun m0 w0 => ?_
  refine SC.learnInt (t := 0) rfl fun hp0 => ?_
  refine SC.seq ?_
  refine SC.region ?_
  refine SL.op (OpT.plain rfl (OpOk.assign (Typ.cstr (l := [])))) rfl rfl ?_
  refine SL.nil ?_
  refine SK.code ?_
  refine SC.seq ?_
  refine SC.region ?_
  refine SL.op (OpT.plain rfl (OpOk.move (Typ.tmp rfl))) rfl rfl ?_
  refine SL.op (OpT.plain rfl (OpOk.call Tryd.call28 Typ.fn (Typs.cons (Typ.tmp rfl) Typs.nil) (s_Itoa _))) rfl rfl ?_
  refine SL.op (OpT.plain rfl (OpOk.assign (Typ.tmp rfl))) rfl rfl ?_
  refine SL.nil ?_
  refine SK.code ?_
  refine SC.ret ?_
  exact SR.one rfl (ResT.eq rfl (by first | rfl | (simp_all []; done) | (simp_all []; rfl) | (simp_all []; omega)))

/-! innkeep/cmd.name -/
theorem s_cmd_name (l : List Str) (n : Int) : FnSpec Tryd.prog glob 29 [V l, V n] (V (nameIn l n)) := by
  refine FnSpec.enter Tryd.func29 rfl rfl rfl fun m0 w0 => ?_
  refine SC.learnList (t := 0) rfl fun hp0 => ?_
  refine SC.learnInt (t := 1) rfl fun hp1 => ?_
  refine SC.seq ?_
  refine SC.region ?_
  refine SL.op (OpT.plain rfl (OpOk.assign (Typ.cstr (l := [])))) rfl rfl ?_
  refine SL.nil ?_
  refine SK.code ?_
  refine SC.seq ?_
  refine SC.seq ?_
  refine SC.region ?_
  refine SL.op (OpT.plain rfl (OpOk.move (Typ.tmp rfl))) rfl rfl ?_
  refine SL.op (OpT.plain rfl (OpOk.lss (Typ.tmp rfl) Typ.cint)) rfl rfl ?_
  refine SL.op (OpT.plain rfl (OpOk.move (Typ.tmp rfl))) rfl rfl ?_
  refine SL.op (OpT.guard rfl rfl rfl (fun _ _ h => V_bool h) (fun hg => OpOk.move (Typ.tmp rfl))) rfl rfl ?_
  refine SL.op (OpT.guard rfl rfl rfl (fun _ _ h => V_bool h) (fun hg => OpOk.move (Typ.tmp rfl))) rfl rfl ?_
  refine SL.op (OpT.guard rfl rfl rfl (fun _ _ h => V_bool h) (fun hg => OpOk.lenList Tryd.underlying34 (Typ.cond hg rfl))) rfl rfl ?_
  refine SL.op (OpT.guard rfl rfl rfl (fun _ _ h => V_bool h) (fun hg => OpOk.geq (Typ.cond hg rfl) (Typ.cond hg rfl))) rfl rfl ?_
  refine SL.op (OpT.plain rfl (OpOk.pickOr (Typ.tmp rfl) (fun hb => Typ.cond hb rfl))) rfl rfl ?_
  refine SL.nil ?_
  refine SK.code ?_
  refine SC.cond rfl (fun _ _ h => V_bool h) (fun h1 => ?_) (fun h1 => ?_)
  · skip
    try simp only [decide_eq_true_eq, decide_eq_false_iff_not, Bool.and_eq_true, Bool.or_eq_true, Bool.not_eq_true', Bool.not_eq_false', Bool.and_eq_false_iff, Bool.or_eq_false_iff, Bool.not_not, Bool.not_true, Bool.not_false, ne_eq, Classical.not_not, Decidable.not_not] at h1
    refine SC.seq ?_
    refine SC.region ?_
    refine SL.op (OpT.plain rfl (OpOk.assign (Typ.cstr (l := [])))) rfl rfl ?_
    refine SL.nil ?_
    refine SK.code ?_
    refine SC.ret ?_
    exact SR.one rfl (ResT.eq rfl (by first | ((unfold nameIn; rw [if_pos (by assumption)])) | ((unfold nameIn; rw [if_neg (by omega)])) | rfl | (simp_all []; done) | (simp_all []; rfl) | (simp_all []; omega)))
  · skip
    try simp only [decide_eq_true_eq, decide_eq_false_iff_not, Bool.and_eq_true, Bool.or_eq_true, Bool.not_eq_true', Bool.not_eq_false', Bool.and_eq_false_iff, Bool.or_eq_false_iff, Bool.not_not, Bool.not_true, Bool.not_false, ne_eq, Classical.not_not, Decidable.not_not] at h1
    refine SC.skip ?_
    refine SK.code ?_
    refine SC.seq ?_
    refine SC.region ?_
    refine SL.op (OpT.plain rfl (OpOk.move (Typ.tmp rfl))) rfl rfl ?_
    refine SL.op (OpT.plain rfl (OpOk.move (Typ.tmp rfl))) rfl rfl ?_
    refine SL.op (OpT.plain rfl (OpOk.indexAddr Tryd.underlying34 ty_9 (Typ.tmp rfl) (Typ.tmp rfl) (by first | omega | (simp only [decide_eq_true_eq, decide_eq_false_iff_not] at *; omega) | (simp at *; omega)) (by first | omega | (simp only [decide_eq_true_eq, decide_eq_false_iff_not] at *; omega) | (simp at *; omega)))) rfl rfl ?_
    refine SL.op (OpT.plain rfl (OpOk.loadRef ty_9 (Typ.tmp rfl))) rfl rfl ?_
    refine SL.op (OpT.plain rfl (OpOk.assign (Typ.tmp rfl))) rfl rfl ?_
    refine SL.nil ?_
    refine SK.code ?_
    refine SC.ret ?_
    exact SR.one rfl (ResT.eq rfl (by first | ((unfold nameIn; rw [if_pos (by assumption)])) | ((unfold nameIn; rw [if_neg (by omega)])) | rfl | (simp_all []; done) | (simp_all []; rfl) | (simp_all []; omega)))

/-! innkeep/cmd.number -/
theorem s_cmd_number (l : List Str) (s : Str) : FnSpec Tryd.prog glob 33 [V l, V s] (.tup [V (numberIn l s).1, V (numberIn l s).2]) := by
  refine FnSpec.enter Tryd.func33 rfl rfl rfl fun m0 w0 => ?_
  refine SC.learnList (t := 0) rfl fun hp0 => ?_
  refine SC.learnStr (t := 1) rfl fun hp1 => ?_
  refine SC.seq ?_
  refine SC.region ?_
  refine SL.op (OpT.plain rfl (OpOk.assign Typ.cint)) rfl rfl ?_
  refine SL.op (OpT.plain rfl (OpOk.assign Typ.cbool)) rfl rfl ?_
  refine SL.nil ?_
  refine SK.code ?_
  refine SC.seq ?_
  refine SC.region ?_
  refine SL.op (OpT.plain rfl (OpOk.move (Typ.tmp rfl))) rfl rfl ?_
  refine SL.op (OpT.plain rfl (OpOk.move (Typ.tmp rfl))) rfl rfl ?_
  refine SL.op (OpT.plain rfl (OpOk.call Tryd.call54 Typ.fn (Typs.cons (Typ.tmp rfl) (Typs.cons (Typ.tmp rfl) Typs.nil)) (s_Index _ _))) rfl rfl ?_
  refine SL.op (OpT.plain rfl (OpOk.assign (Typ.tmp rfl))) rfl rfl ?_
  refine SL.nil ?_
  refine SK.code ?_
  refine SC.seq ?_
  refine SC.seq ?_
  refine SC.region ?_
  refine SL.op (OpT.plain rfl (OpOk.move (Typ.tmp rfl))) rfl rfl ?_
  refine SL.op (OpT.plain rfl (OpOk.eqlS (Typ.tmp rfl) (Typ.cstr (l := [])))) rfl rfl ?_
  refine SL.op (OpT.plain rfl (OpOk.move (Typ.tmp rfl))) rfl rfl ?_
  refine SL.op (OpT.guard rfl rfl rfl (fun _ _ h => V_bool h) (fun hg => OpOk.move (Typ.tmp rfl))) rfl rfl ?_
  refine SL.op (OpT.guard rfl rfl rfl (fun _ _ h => V_bool h) (fun hg => OpOk.lss (Typ.cond hg rfl) Typ.cint)) rfl rfl ?_
  refine SL.op (OpT.plain rfl (OpOk.pickOr (Typ.tmp rfl) (fun hb => Typ.cond hb rfl))) rfl rfl ?_
  refine SL.nil ?_
  refine SK.code ?_
  refine SC.cond rfl (fun _ _ h => V_bool h) (fun h1 => ?_) (fun h1 => ?_)
  · skip
    try simp only [decide_eq_true_eq, decide_eq_false_iff_not, Bool.and_eq_true, Bool.or_eq_true, Bool.not_eq_true', Bool.not_eq_false', Bool.and_eq_false_iff, Bool.or_eq_false_iff, Bool.not_not, Bool.not_true, Bool.not_false, ne_eq, Classical.not_not, Decidable.not_not] at h1
    refine SC.seq ?_
    refine SC.region ?_
    refine SL.op (OpT.plain rfl (OpOk.assign Typ.cint)) rfl rfl ?_
    refine SL.op (OpT.plain rfl (OpOk.assign Typ.cbool)) rfl rfl ?_
    refine SL.nil ?_
    refine SK.code ?_
    refine SC.ret ?_
    exact SR.two rfl (ResT.eq rfl (by first | ((unfold numberIn; rw [if_pos (by assumption)])) | ((unfold numberIn; rw [if_neg (by rintro (h | h) <;> simp_all)])) | rfl | (simp_all []; done) | (simp_all []; rfl) | (simp_all []; omega))) (ResT.eq rfl (by first | ((unfold numberIn; rw [if_pos (by assumption)])) | ((unfold numberIn; rw [if_neg (by rintro (h | h) <;> simp_all)])) | rfl | (simp_all []; done) | (simp_all []; rfl) | (simp_all []; omega)))
  · skip
    try simp only [decide_eq_true_eq, decide_eq_false_iff_not, Bool.and_eq_true, Bool.or_eq_true, Bool.not_eq_true', Bool.not_eq_false', Bool.and_eq_false_iff, Bool.or_eq_false_iff, Bool.not_not, Bool.not_true, Bool.not_false, ne_eq, Classical.not_not, Decidable.not_not] at h1
    refine SC.skip ?_
    refine SK.code ?_
    refine SC.seq ?_
    refine SC.region ?_
    refine SL.op (OpT.plain rfl (OpOk.move (Typ.tmp rfl))) rfl rfl ?_
    refine SL.op (OpT.plain rfl (OpOk.assign (Typ.tmp rfl))) rfl rfl ?_
    refine SL.op (OpT.plain rfl (OpOk.assign Typ.cbool)) rfl rfl ?_
    refine SL.nil ?_
    refine SK.code ?_
    refine SC.ret ?_
    exact SR.two rfl (ResT.eq rfl (by first | ((unfold numberIn; rw [if_pos (by assumption)])) | ((unfold numberIn; rw [if_neg (by rintro (h | h) <;> simp_all)])) | rfl | (simp_all []; done) | (simp_all []; rfl) | (simp_all []; omega))) (ResT.eq rfl (by first | ((unfold numberIn; rw [if_pos (by assumption)])) | ((unfold numberIn; rw [if_neg (by rintro (h | h) <;> simp_all)])) | rfl | (simp_all []; done) | (simp_all []; rfl) | (simp_all []; omega)))

/-! innkeep/cmd.Name -/
theorem s_cmd_Name (n : Int) : FnSpec Tryd.prog glob 19 [V n] (V (nameK n)) := by
  refine FnSpec.enter Tryd.func19 rfl rfl rfl fun m0 w0 => ?_
  refine SC.learnInt (t := 0) rfl fun hp0 => ?_
  refine SC.seq ?_
  refine SC.region ?_
  refine SL.op (OpT.plain rfl (OpOk.assign (Typ.cstr (l := [])))) rfl rfl ?_
  refine SL.nil ?_
  refine SK.code ?_
  refine SC.seq ?_
  refine SC.region ?_
  refine SL.op (OpT.plain rfl (OpOk.cutArr Tryd.underlying63 ty_9 (by decide) typ_kinds)) rfl rfl ?_
  refine SL.op (OpT.plain rfl (OpOk.move (Typ.tmp rfl))) rfl rfl ?_
  refine SL.op (OpT.plain rfl (OpOk.call Tryd.call29 Typ.fn (Typs.cons (Typ.tmp rfl) (Typs.cons (Typ.tmp rfl) Typs.nil)) (s_cmd_name _ _))) rfl rfl ?_
  refine SL.op (OpT.plain rfl (OpOk.assign (Typ.tmp rfl))) rfl rfl ?_
  refine SL.nil ?_
  refine SK.code ?_
  refine SC.ret ?_
  exact SR.one rfl (ResT.eq rfl (by first | rfl | (simp_all []; done) | (simp_all []; rfl) | (simp_all []; omega)))

/-! innkeep/cmd.Way -/
theorem s_cmd_Way (n : Int) : FnSpec Tryd.prog glob 15 [V n] (V (wayD n)) := by
  refine FnSpec.enter Tryd.func15 rfl rfl rfl fun m0 w0 => ?_
  refine SC.learnInt (t := 0) rfl fun hp0 => ?_
  refine SC.seq ?_
  refine SC.region ?_
  refine SL.op (OpT.plain rfl (OpOk.assign (Typ.cstr (l := [])))) rfl rfl ?_
  refine SL.nil ?_
  refine SK.code ?_
  refine SC.seq ?_
  refine SC.region ?_
  refine SL.op (OpT.plain rfl (OpOk.cutArr Tryd.underlying59 ty_9 (by decide) typ_ways)) rfl rfl ?_
  refine SL.op (OpT.plain rfl (OpOk.move (Typ.tmp rfl))) rfl rfl ?_
  refine SL.op (OpT.plain rfl (OpOk.call Tryd.call29 Typ.fn (Typs.cons (Typ.tmp rfl) (Typs.cons (Typ.tmp rfl) Typs.nil)) (s_cmd_name _ _))) rfl rfl ?_
  refine SL.op (OpT.plain rfl (OpOk.assign (Typ.tmp rfl))) rfl rfl ?_
  refine SL.nil ?_
  refine SK.code ?_
  refine SC.ret ?_
  exact SR.one rfl (ResT.eq rfl (by first | rfl | (simp_all []; done) | (simp_all []; rfl) | (simp_all []; omega)))

/-! innkeep/cmd.Kind -/
theorem s_cmd_Kind (s : Str) : FnSpec Tryd.prog glob 21 [V s] (.tup [V (kindOf s).1, V (kindOf s).2]) := by
  refine FnSpec.enter Tryd.func21 rfl rfl rfl fun m0 w0 => ?_
  refine SC.learnStr (t := 0) rfl fun hp0 => ?_
  refine SC.seq ?_
  refine SC.region ?_
  refine SL.op (OpT.plain rfl (OpOk.assign Typ.cint)) rfl rfl ?_
  refine SL.op (OpT.plain rfl (OpOk.assign Typ.cbool)) rfl rfl ?_
  refine SL.nil ?_
  refine SK.code ?_
  refine SC.seq ?_
  refine SC.region ?_
  refine SL.op (OpT.plain rfl (OpOk.cutArr Tryd.underlying63 ty_9 (by decide) typ_kinds)) rfl rfl ?_
  refine SL.op (OpT.plain rfl (OpOk.move (Typ.tmp rfl))) rfl rfl ?_
  refine SL.op (OpT.plain rfl (OpOk.call Tryd.call33 Typ.fn (Typs.cons (Typ.tmp rfl) (Typs.cons (Typ.tmp rfl) Typs.nil)) (s_cmd_number _ _))) rfl rfl ?_
  refine SL.op (OpT.plain rfl (OpOk.extract (Typ.tmp rfl) rfl)) rfl rfl ?_
  refine SL.op (OpT.plain rfl (OpOk.extract (Typ.tmp rfl) rfl)) rfl rfl ?_
  refine SL.op (OpT.plain rfl (OpOk.assign (Typ.tmp rfl))) rfl rfl ?_
  refine SL.op (OpT.plain rfl (OpOk.assign (Typ.tmp rfl))) rfl rfl ?_
  refine SL.nil ?_
  refine SK.code ?_
  refine SC.ret ?_
  exact SR.two rfl (ResT.tmp rfl) (ResT.tmp rfl)

/-! innkeep/cmd.Dir -/
theorem s_cmd_Dir (s : Str) : FnSpec Tryd.prog glob 55 [V s] (.tup [V (dirOf s).1, V (dirOf s).2]) := by
  refine FnSpec.enter Tryd.func55 rfl rfl rfl fun m0 w0 => ?_
  refine SC.learnStr (t := 0) rfl fun hp0 => ?_
  refine SC.seq ?_
  refine SC.region ?_
  refine SL.op (OpT.plain rfl (OpOk.assign Typ.cint)) rfl rfl ?_
  refine SL.op (OpT.plain rfl (OpOk.assign Typ.cbool)) rfl rfl ?_
  refine SL.nil ?_
  refine SK.code ?_
  refine SC.seq ?_
  refine SC.region ?_
  refine SL.op (OpT.plain rfl (OpOk.cutArr Tryd.underlying59 ty_9 (by decide) typ_ways)) rfl rfl ?_
  refine SL.op (OpT.plain rfl (OpOk.move (Typ.tmp rfl))) rfl rfl ?_
  refine SL.op (OpT.plain rfl (OpOk.call Tryd.call33 Typ.fn (Typs.cons (Typ.tmp rfl) (Typs.cons (Typ.tmp rfl) Typs.nil)) (s_cmd_number _ _))) rfl rfl ?_
  refine SL.op (OpT.plain rfl (OpOk.extract (Typ.tmp rfl) rfl)) rfl rfl ?_
  refine SL.op (OpT.plain rfl (OpOk.extract (Typ.tmp rfl) rfl)) rfl rfl ?_
  refine SL.op (OpT.plain rfl (OpOk.assign (Typ.tmp rfl))) rfl rfl ?_
  refine SL.op (OpT.plain rfl (OpOk.assign (Typ.tmp rfl))) rfl rfl ?_
  refine SL.nil ?_
  refine SK.code ?_
  refine SC.ret ?_
  exact SR.two rfl (ResT.tmp rfl) (ResT.tmp rfl)

/-! innkeep/token.Join -/
theorem s_token_Join (l : List Str) (hl : (join l).length ≤ 140737488355327) : FnSpec Tryd.prog glob 18 [V l] (V (join l)) := by
  refine FnSpec.enter Tryd.func18 rfl rfl rfl fun m0 w0 => ?_
  refine SC.learnList (t := 0) rfl fun hp0 => ?_
  refine SC.seq ?_
  refine SC.region ?_
  refine SL.op (OpT.plain rfl (OpOk.assign (Typ.cstr (l := [])))) rfl rfl ?_
  refine SL.nil ?_
  refine SK.code ?_
  refine SC.seq ?_
  refine SC.region ?_
  refine SL.op (OpT.plain rfl (OpOk.move (Typ.tmp rfl))) rfl rfl ?_
  refine SL.op (OpT.plain rfl (OpOk.call Tryd.call31 Typ.fn (Typs.cons (Typ.tmp rfl) (Typs.cons (Typ.cstr (l := [32])) Typs.nil)) (s_Join _ hl))) rfl rfl ?_
  refine SL.op (OpT.plain rfl (OpOk.assign (Typ.tmp rfl))) rfl rfl ?_
  refine SL.nil ?_
  refine SK.code ?_
  refine SC.ret ?_
  exact SR.one rfl (ResT.eq rfl (by first | rfl | (simp_all []; done) | (simp_all []; rfl) | (simp_all []; omega)))

/-! innkeep/token.Number -/
theorem s_token_Number (w : Str) (hw : w.length ≤ 281474976710656) : FnSpec Tryd.prog glob 57 [V w] (.tup [V (numT w).1, V (numT w).2]) := by
  refine FnSpec.enter Tryd.func57 rfl rfl rfl fun m0 w0 => ?_
  refine SC.learnStr (t := 0) rfl fun hp0 => ?_
  refine SC.seq ?_
  refine SC.region ?_
  refine SL.op (OpT.plain rfl (OpOk.assign Typ.cint)) rfl rfl ?_
  refine SL.op (OpT.plain rfl (OpOk.assign Typ.cbool)) rfl rfl ?_
  refine SL.nil ?_
  refine SK.code ?_
  refine SC.seq ?_
  refine SC.region ?_
  refine SL.op (OpT.plain rfl (OpOk.move (Typ.tmp rfl))) rfl rfl ?_
  refine SL.op (OpT.plain rfl (OpOk.call Tryd.call67 Typ.fn (Typs.cons (Typ.tmp rfl) Typs.nil) (s_Atoi _ hw))) rfl rfl ?_
  refine SL.op (OpT.plain rfl (OpOk.move (Typ.tmp rfl))) rfl rfl ?_
  refine SL.op (OpT.plain rfl (OpOk.extract (Typ.tmp rfl) rfl)) rfl rfl ?_
  refine SL.op (OpT.plain rfl (OpOk.extract (Typ.tmp rfl) rfl)) rfl rfl ?_
  refine SL.op (OpT.plain rfl (OpOk.assign (Typ.tmp rfl))) rfl rfl ?_
  refine SL.op (OpT.plain rfl (OpOk.assign (Typ.tmp rfl))) rfl rfl ?_
  refine SL.nil ?_
  refine SK.code ?_
  refine SC.seq ?_
  refine SC.seq ?_
  refine SC.region ?_
  refine SL.op (OpT.plain rfl (OpOk.move (Typ.tmp rfl))) rfl rfl ?_
  refine SL.op (OpT.plain rfl (OpOk.neqErr Tryd.underlying82 (Typ.tmp rfl))) rfl rfl ?_
  refine SL.op (OpT.plain rfl (OpOk.move (Typ.tmp rfl))) rfl rfl ?_
  refine SL.op (OpT.guard rfl rfl rfl (fun _ _ h => V_bool h) (fun hg => OpOk.move (Typ.tmp rfl))) rfl rfl ?_
  refine SL.op (OpT.guard rfl rfl rfl (fun _ _ h => V_bool h) (fun hg => OpOk.lss (Typ.cond hg rfl) Typ.cint)) rfl rfl ?_
  refine SL.op (OpT.plain rfl (OpOk.pickOr (Typ.tmp rfl) (fun hb => Typ.cond hb rfl))) rfl rfl ?_
  refine SL.op (OpT.plain rfl (OpOk.move (Typ.tmp rfl))) rfl rfl ?_
  refine SL.op (OpT.guard rfl rfl rfl (fun _ _ h => V_bool h) (fun hg => OpOk.move (Typ.tmp rfl))) rfl rfl ?_
  refine SL.op (OpT.guard rfl rfl rfl (fun _ _ h => V_bool h) (fun hg => OpOk.gtr (Typ.cond hg rfl) Typ.cint)) rfl rfl ?_
  refine SL.op (OpT.plain rfl (OpOk.pickOr (Typ.tmp rfl) (fun hb => Typ.cond hb rfl))) rfl rfl ?_
  refine SL.op (OpT.plain rfl (OpOk.move (Typ.tmp rfl))) rfl rfl ?_
  refine SL.op (OpT.guard rfl rfl rfl (fun _ _ h => V_bool h) (fun hg => OpOk.move (Typ.tmp rfl))) rfl rfl ?_
  refine SL.op (OpT.guard rfl rfl rfl (fun _ _ h => V_bool h) (fun hg => OpOk.call Tryd.call14 Typ.fn (Typs.cons (Typ.cond hg rfl) Typs.nil) (s_token_Word _))) rfl rfl ?_
  refine SL.op (OpT.guard rfl rfl rfl (fun _ _ h => V_bool h) (fun hg => OpOk.move (Typ.tmp rfl))) rfl rfl ?_
  refine SL.op (OpT.guard rfl rfl rfl (fun _ _ h => V_bool h) (fun hg => OpOk.neqS (Typ.cond hg rfl) (Typ.cond hg rfl))) rfl rfl ?_
  refine SL.op (OpT.plain rfl (OpOk.pickOr (Typ.tmp rfl) (fun hb => Typ.cond hb rfl))) rfl rfl ?_
  refine SL.nil ?_
  refine SK.code ?_
  refine SC.cond rfl (fun _ _ h => V_bool h) (fun h1 => ?_) (fun h1 => ?_)
  · skip
    try simp only [decide_eq_true_eq, decide_eq_false_iff_not, Bool.and_eq_true, Bool.or_eq_true, Bool.not_eq_true', Bool.not_eq_false', Bool.and_eq_false_iff, Bool.or_eq_false_iff, Bool.not_not, Bool.not_true, Bool.not_false, ne_eq, Classical.not_not, Decidable.not_not] at h1
    refine SC.seq ?_
    refine SC.region ?_
    refine SL.op (OpT.plain rfl (OpOk.assign Typ.cint)) rfl rfl ?_
    refine SL.op (OpT.plain rfl (OpOk.assign Typ.cbool)) rfl rfl ?_
    refine SL.nil ?_
    refine SK.code ?_
    refine SC.ret ?_
    exact SR.two rfl (ResT.eq rfl (by first | (rw [numT_ok (by assumption)]) | (rw [numT_no (by assumption)]) | rfl | (simp_all []; done) | (simp_all []; rfl) | (simp_all []; omega))) (ResT.eq rfl (by first | (rw [numT_ok (by assumption)]) | (rw [numT_no (by assumption)]) | rfl | (simp_all []; done) | (simp_all []; rfl) | (simp_all []; omega)))
  · skip
    try simp only [decide_eq_true_eq, decide_eq_false_iff_not, Bool.and_eq_true, Bool.or_eq_true, Bool.not_eq_true', Bool.not_eq_false', Bool.and_eq_false_iff, Bool.or_eq_false_iff, Bool.not_not, Bool.not_true, Bool.not_false, ne_eq, Classical.not_not, Decidable.not_not] at h1
    refine SC.skip ?_
    refine SK.code ?_
    refine SC.seq ?_
    refine SC.region ?_
    refine SL.op (OpT.plain rfl (OpOk.move (Typ.tmp rfl))) rfl rfl ?_
    refine SL.op (OpT.plain rfl (OpOk.assign (Typ.tmp rfl))) rfl rfl ?_
    refine SL.op (OpT.plain rfl (OpOk.assign Typ.cbool)) rfl rfl ?_
    refine SL.nil ?_
    refine SK.code ?_
    refine SC.ret ?_
    exact SR.two rfl (ResT.eq rfl (by first | (rw [numT_ok (by assumption)]) | (rw [numT_no (by assumption)]) | rfl | (simp_all []; done) | (simp_all []; rfl) | (simp_all []; omega))) (ResT.eq rfl (by first | (rw [numT_ok (by assumption)]) | (rw [numT_no (by assumption)]) | rfl | (simp_all []; done) | (simp_all []; rfl) | (simp_all []; omega)))
end Go.Proofs.YtgcaeaajpainmaaDoor
