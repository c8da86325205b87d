/- Layer 4: the parts of a line, and the table of forms. -/
import Derived.Test.YtgnblhmejecgfaaGreatDoorV3
import Derived.Test.YtgnblhmejecgfaaGreatDoorC
set_option linter.all false

namespace Go.Proofs.YtgnblhmejecgfaaGreatDoor
open Go Go.RowKit Go.Inn
set_option linter.unusedSimpArgs false
set_option linter.unusedVariables false
set_option maxRecDepth 100000
/-! innkeep/line.item -/
theorem s_line_item (b : Nat) : FnSpec Tryz.prog glob 93 [VP.ptr b 0] (VP.ptr b (0 + 2)) := by
  refine FnSpec.enter Tryz.func93 rfl rfl rfl fun m0 w0 => ?_
  refine SC.seq ?_
  refine SC.region ?_
  refine SL.op (OpT.plain rfl (OpOk.assign (Typ.con (p := .any) fun _ => trivial))) rfl rfl ?_
  refine SL.nil ?_
  refine SK.code ?_
  refine SC.seq ?_
  refine SC.region ?_
  refine SL.op (OpT.plain rfl (OpOk.move (Typ.tmp rfl))) rfl rfl ?_
  refine SL.op (OpT.plain rfl (OpOk.nilCheck (Typ.tmp rfl))) rfl rfl ?_
  refine SL.op (OpT.plain rfl (OpOk.fieldAddrOwn fld_29_2 (Typ.tmp rfl))) rfl rfl ?_
  refine SL.op (OpT.plain rfl (OpOk.assign (Typ.tmp rfl))) rfl rfl ?_
  refine SL.nil ?_
  refine SK.code ?_
  refine SC.ret ?_
  exact SR.one rfl (ResT.tmp rfl)

/-! innkeep/line.box -/
theorem s_line_box (b : Nat) : FnSpec Tryz.prog glob 95 [VP.ptr b 0] (VP.ptr b (0 + 3)) := by
  refine FnSpec.enter Tryz.func95 rfl rfl rfl fun m0 w0 => ?_
  refine SC.seq ?_
  refine SC.region ?_
  refine SL.op (OpT.plain rfl (OpOk.assign (Typ.con (p := .any) fun _ => trivial))) rfl rfl ?_
  refine SL.nil ?_
  refine SK.code ?_
  refine SC.seq ?_
  refine SC.region ?_
  refine SL.op (OpT.plain rfl (OpOk.move (Typ.tmp rfl))) rfl rfl ?_
  refine SL.op (OpT.plain rfl (OpOk.nilCheck (Typ.tmp rfl))) rfl rfl ?_
  refine SL.op (OpT.plain rfl (OpOk.fieldAddrOwn fld_29_3 (Typ.tmp rfl))) rfl rfl ?_
  refine SL.op (OpT.plain rfl (OpOk.assign (Typ.tmp rfl))) rfl rfl ?_
  refine SL.nil ?_
  refine SK.code ?_
  refine SC.ret ?_
  exact SR.one rfl (ResT.tmp rfl)

/-! innkeep/line.who -/
theorem s_line_who (b : Nat) : FnSpec Tryz.prog glob 92 [VP.ptr b 0] (VP.ptr b (0 + 4)) := by
  refine FnSpec.enter Tryz.func92 rfl rfl rfl fun m0 w0 => ?_
  refine SC.seq ?_
  refine SC.region ?_
  refine SL.op (OpT.plain rfl (OpOk.assign (Typ.con (p := .any) fun _ => trivial))) rfl rfl ?_
  refine SL.nil ?_
  refine SK.code ?_
  refine SC.seq ?_
  refine SC.region ?_
  refine SL.op (OpT.plain rfl (OpOk.move (Typ.tmp rfl))) rfl rfl ?_
  refine SL.op (OpT.plain rfl (OpOk.nilCheck (Typ.tmp rfl))) rfl rfl ?_
  refine SL.op (OpT.plain rfl (OpOk.fieldAddrOwn fld_29_4 (Typ.tmp rfl))) rfl rfl ?_
  refine SL.op (OpT.plain rfl (OpOk.assign (Typ.tmp rfl))) rfl rfl ?_
  refine SL.nil ?_
  refine SK.code ?_
  refine SC.ret ?_
  exact SR.one rfl (ResT.tmp rfl)

/-! innkeep/line.pay -/
theorem s_line_pay (b : Nat) : FnSpec Tryz.prog glob 98 [VP.ptr b 0] (VP.ptr b (0 + 6)) := by
  refine FnSpec.enter Tryz.func98 rfl rfl rfl fun m0 w0 => ?_
  refine SC.seq ?_
  refine SC.region ?_
  refine SL.op (OpT.plain rfl (OpOk.assign (Typ.con (p := .any) fun _ => trivial))) rfl rfl ?_
  refine SL.nil ?_
  refine SK.code ?_
  refine SC.seq ?_
  refine SC.region ?_
  refine SL.op (OpT.plain rfl (OpOk.move (Typ.tmp rfl))) rfl rfl ?_
  refine SL.op (OpT.plain rfl (OpOk.nilCheck (Typ.tmp rfl))) rfl rfl ?_
  refine SL.op (OpT.plain rfl (OpOk.fieldAddrOwn fld_29_6 (Typ.tmp rfl))) rfl rfl ?_
  refine SL.op (OpT.plain rfl (OpOk.assign (Typ.tmp rfl))) rfl rfl ?_
  refine SL.nil ?_
  refine SK.code ?_
  refine SC.ret ?_
  exact SR.one rfl (ResT.tmp rfl)

/-! innkeep/line.fee -/
theorem s_line_fee (b : Nat) : FnSpec Tryz.prog glob 100 [VP.ptr b 0] (VP.ptr b (0 + 8)) := by
  refine FnSpec.enter Tryz.func100 rfl rfl rfl fun m0 w0 => ?_
  refine SC.seq ?_
  refine SC.region ?_
  refine SL.op (OpT.plain rfl (OpOk.assign (Typ.con (p := .any) fun _ => trivial))) rfl rfl ?_
  refine SL.nil ?_
  refine SK.code ?_
  refine SC.seq ?_
  refine SC.region ?_
  refine SL.op (OpT.plain rfl (OpOk.move (Typ.tmp rfl))) rfl rfl ?_
  refine SL.op (OpT.plain rfl (OpOk.nilCheck (Typ.tmp rfl))) rfl rfl ?_
  refine SL.op (OpT.plain rfl (OpOk.fieldAddrOwn fld_29_8 (Typ.tmp rfl))) rfl rfl ?_
  refine SL.op (OpT.plain rfl (OpOk.assign (Typ.tmp rfl))) rfl rfl ?_
  refine SL.nil ?_
  refine SK.code ?_
  refine SC.ret ?_
  exact SR.one rfl (ResT.tmp rfl)

/-! innkeep/line.gives -/
theorem s_line_gives (b : Nat) : FnSpec Tryz.prog glob 97 [VP.ptr b 0] (VP.ptr b (0 + 5)) := by
  refine FnSpec.enter Tryz.func97 rfl rfl rfl fun m0 w0 => ?_
  refine SC.seq ?_
  refine SC.region ?_
  refine SL.op (OpT.plain rfl (OpOk.assign (Typ.con (p := .any) fun _ => trivial))) rfl rfl ?_
  refine SL.nil ?_
  refine SK.code ?_
  refine SC.seq ?_
  refine SC.region ?_
  refine SL.op (OpT.plain rfl (OpOk.move (Typ.tmp rfl))) rfl rfl ?_
  refine SL.op (OpT.plain rfl (OpOk.nilCheck (Typ.tmp rfl))) rfl rfl ?_
  refine SL.op (OpT.plain rfl (OpOk.fieldAddrOwn fld_29_5 (Typ.tmp rfl))) rfl rfl ?_
  refine SL.op (OpT.plain rfl (OpOk.assign (Typ.tmp rfl))) rfl rfl ?_
  refine SL.nil ?_
  refine SK.code ?_
  refine SC.ret ?_
  exact SR.one rfl (ResT.tmp rfl)

/-! innkeep/line.wants -/
theorem s_line_wants (b : Nat) : FnSpec Tryz.prog glob 99 [VP.ptr b 0] (VP.ptr b (0 + 7)) := by
  refine FnSpec.enter Tryz.func99 rfl rfl rfl fun m0 w0 => ?_
  refine SC.seq ?_
  refine SC.region ?_
  refine SL.op (OpT.plain rfl (OpOk.assign (Typ.con (p := .any) fun _ => trivial))) rfl rfl ?_
  refine SL.nil ?_
  refine SK.code ?_
  refine SC.seq ?_
  refine SC.region ?_
  refine SL.op (OpT.plain rfl (OpOk.move (Typ.tmp rfl))) rfl rfl ?_
  refine SL.op (OpT.plain rfl (OpOk.nilCheck (Typ.tmp rfl))) rfl rfl ?_
  refine SL.op (OpT.plain rfl (OpOk.fieldAddrOwn fld_29_7 (Typ.tmp rfl))) rfl rfl ?_
  refine SL.op (OpT.plain rfl (OpOk.assign (Typ.tmp rfl))) rfl rfl ?_
  refine SL.nil ?_
  refine SK.code ?_
  refine SC.ret ?_
  exact SR.one rfl (ResT.tmp rfl)

theorem spec_intF (f : IntF) (b : Nat) : CalleeF Tryz.prog glob (V f.fn) [VP.ptr b 0] (VP.ptr b f.off) := by
  cases f
  · exact CalleeF.fn0 Tryz.call93 (s_line_item b)
  · exact CalleeF.fn0 Tryz.call95 (s_line_box b)
  · exact CalleeF.fn0 Tryz.call92 (s_line_who b)
  · exact CalleeF.fn0 Tryz.call98 (s_line_pay b)
  · exact CalleeF.fn0 Tryz.call100 (s_line_fee b)
theorem spec_rowF (f : RowF) (b : Nat) : CalleeF Tryz.prog glob (V f.fn) [VP.ptr b 0] (VP.ptr b f.off) := by
  cases f
  · exact CalleeF.fn0 Tryz.call97 (s_line_gives b)
  · exact CalleeF.fn0 Tryz.call99 (s_line_wants b)

/-! innkeep/line.number -/
theorem s_line_number (f : IntF) : FnSpec Tryz.prog glob 91 [V f.fn] (V (Part.num f)) := by
  refine FnSpec.enter Tryz.func91 rfl rfl rfl fun m0 w0 => ?_
  refine SC.seq ?_
  refine SC.region ?_
  refine SL.op (OpT.plain rfl (OpOk.boxRef (Typ.tmp rfl))) rfl rfl ?_
  refine SL.op (OpT.plain rfl (OpOk.assign (Typ.con (p := .any) fun _ => trivial))) rfl rfl ?_
  refine SL.nil ?_
  refine SK.code ?_
  refine SC.seq ?_
  refine SC.region ?_
  refine SL.op (OpT.plain rfl (OpOk.makeFunc (Typs.cons (Typ.tmp rfl) Typs.nil))) rfl rfl ?_
  refine SL.op (OpT.plain rfl (OpOk.assign (Typ.tmp rfl))) rfl rfl ?_
  refine SL.nil ?_
  refine SK.code ?_
  refine SC.ret ?_
  exact SR.one rfl (ResT.weak (fun _ _ h => part_num h) (ResT.tmp rfl))

/-! innkeep/line.word -/
theorem s_line_word (w : Str) : FnSpec Tryz.prog glob 94 [V w] (V (Part.word w)) := by
  refine FnSpec.enter Tryz.func94 rfl rfl rfl fun m0 w0 => ?_
  refine SC.learnStr (t := 0) rfl fun hp0 => ?_
  refine SC.seq ?_
  refine SC.region ?_
  refine SL.op (OpT.plain rfl (OpOk.boxRef (Typ.tmp rfl))) rfl rfl ?_
  refine SL.op (OpT.plain rfl (OpOk.assign (Typ.con (p := .any) fun _ => trivial))) rfl rfl ?_
  refine SL.nil ?_
  refine SK.code ?_
  refine SC.seq ?_
  refine SC.region ?_
  refine SL.op (OpT.plain rfl (OpOk.makeFunc (Typs.cons (Typ.tmp rfl) Typs.nil))) rfl rfl ?_
  refine SL.op (OpT.plain rfl (OpOk.assign (Typ.tmp rfl))) rfl rfl ?_
  refine SL.nil ?_
  refine SK.code ?_
  refine SC.ret ?_
  exact SR.one rfl (ResT.weak (fun _ _ h => part_word h) (ResT.tmp rfl))

/-! innkeep/line.row -/
theorem s_line_row (f : RowF) : FnSpec Tryz.prog glob 96 [V f.fn] (V (Part.row f)) := by
  refine FnSpec.enter Tryz.func96 rfl rfl rfl fun m0 w0 => ?_
  refine SC.seq ?_
  refine SC.region ?_
  refine SL.op (OpT.plain rfl (OpOk.boxRef (Typ.tmp rfl))) rfl rfl ?_
  refine SL.op (OpT.plain rfl (OpOk.assign (Typ.con (p := .any) fun _ => trivial))) rfl rfl ?_
  refine SL.nil ?_
  refine SK.code ?_
  refine SC.seq ?_
  refine SC.region ?_
  refine SL.op (OpT.plain rfl (OpOk.makeFunc (Typs.cons (Typ.tmp rfl) Typs.nil))) rfl rfl ?_
  refine SL.op (OpT.plain rfl (OpOk.assign (Typ.tmp rfl))) rfl rfl ?_
  refine SL.nil ?_
  refine SK.code ?_
  refine SC.ret ?_
  exact SR.one rfl (ResT.weak (fun _ _ h => part_row h) (ResT.tmp rfl))

/-! innkeep/line.way -/
theorem s_line_way (b : Nat) (c : Cmd) (v1 v2 : Value) (l : List Str)  : FnSpecD Tryz.prog glob 90 (cmdOwn 29 3 b c v1 v2) [VP.ptr b 0, V l] (cmdPost 29 3 b (partRun .way c l).1) (.tup [V (partRun .way c l).2.1, V (partRun .way c l).2.2]) := by
  refine FnSpecD.enter Tryz.func90 rfl rfl rfl fun m0 w0 bs => ?_
  refine SC.learnList (t := 1) rfl fun hp1 => ?_
  refine SC.seq ?_
  refine SC.region ?_
  refine SL.op (OpT.plain rfl (OpOk.assign (Typ.cnil (α := Str)))) rfl rfl ?_
  refine SL.op (OpT.plain rfl (OpOk.assign Typ.cbool)) rfl rfl ?_
  refine SL.nil ?_
  refine SK.code ?_
  refine SC.seq ?_
  refine SC.seq ?_
  refine SC.region ?_
  refine SL.op (OpT.plain rfl (OpOk.move (Typ.tmp rfl))) rfl rfl ?_
  refine SL.op (OpT.plain rfl (OpOk.lenList Tryz.underlying22 (Typ.tmp rfl))) rfl rfl ?_
  refine SL.op (OpT.plain rfl (OpOk.eql (Typ.tmp rfl) Typ.cint)) rfl rfl ?_
  refine SL.nil ?_
  refine SK.code ?_
  refine SC.cond rfl (fun _ _ h => V_bool h) (fun h1 => ?_) (fun h1 => ?_)
  · skip
    try simp only [decide_eq_true_eq, decide_eq_false_iff_not, Bool.and_eq_true, Bool.or_eq_true, Bool.not_eq_true', Bool.not_eq_false', Bool.and_eq_false_iff, Bool.or_eq_false_iff, Bool.not_not, Bool.not_true, Bool.not_false, ne_eq, Classical.not_not, Decidable.not_not] at h1
    refine SC.seq ?_
    refine SC.region ?_
    refine SL.op (OpT.plain rfl (OpOk.assign (Typ.cnil (α := Str)))) rfl rfl ?_
    refine SL.op (OpT.plain rfl (OpOk.assign Typ.cbool)) rfl rfl ?_
    refine SL.nil ?_
    refine SK.code ?_
    refine SC.ret ?_
    exact SR.twoD rfl (by first | exact post_eq post_same (by rw [run_way_nil (by assumption)]) | exact post_eq (post_dir _) (by rw [run_way (by assumption)])) (ResT.eq rfl (by first | (rw [run_way_nil (by assumption)]) | (rw [run_way (by assumption)]; try rfl))) (ResT.eq rfl (by first | (rw [run_way_nil (by assumption)]) | (rw [run_way (by assumption)]; try rfl)))
  · skip
    try simp only [decide_eq_true_eq, decide_eq_false_iff_not, Bool.and_eq_true, Bool.or_eq_true, Bool.not_eq_true', Bool.not_eq_false', Bool.and_eq_false_iff, Bool.or_eq_false_iff, Bool.not_not, Bool.not_true, Bool.not_false, ne_eq, Classical.not_not, Decidable.not_not] at h1
    refine SC.skip ?_
    refine SK.code ?_
    refine SC.seq ?_
    refine SC.region ?_
    refine SL.op (OpT.plain rfl (OpOk.move (Typ.tmp rfl))) rfl rfl ?_
    refine SL.op (OpT.plain rfl (OpOk.indexAddr Tryz.underlying22 ty_9 (Typ.tmp rfl) Typ.cint (by first | omega | (simp only [decide_eq_true_eq, decide_eq_false_iff_not] at *; omega) | (simp at *; omega)) (by first | omega | (simp only [decide_eq_true_eq, decide_eq_false_iff_not] at *; omega) | (simp at *; omega)))) rfl rfl ?_
    refine SL.op (OpT.plain rfl (OpOk.loadRef ty_9 (Typ.tmp rfl))) rfl rfl ?_
    refine SL.op (OpT.plain rfl (OpOk.call Tryz.call115 Typ.fn (Typs.cons (Typ.tmp rfl) Typs.nil) (s_cmd_Dir _))) rfl rfl ?_
    refine SL.op (OpT.plain rfl (OpOk.move (Typ.tmp rfl))) rfl rfl ?_
    refine SL.op (OpT.plain rfl (OpOk.extract (Typ.tmp rfl) rfl)) rfl rfl ?_
    refine SL.op (OpT.plain rfl (OpOk.extract (Typ.tmp rfl) rfl)) rfl rfl ?_
    refine SL.op (OpT.plain rfl (OpOk.assign (Typ.tmp rfl))) rfl rfl ?_
    refine SL.op (OpT.plain rfl (OpOk.assign (Typ.tmp rfl))) rfl rfl ?_
    refine SL.nil ?_
    refine SK.code ?_
    refine SC.seq ?_
    refine SC.region ?_
    refine SL.op (OpT.plain rfl (OpOk.move (Typ.tmp rfl))) rfl rfl ?_
    refine SL.op (OpT.plain rfl (OpOk.move (Typ.tmp rfl))) rfl rfl ?_
    refine SL.op (OpT.plain rfl (OpOk.nilCheck (Typ.tmp rfl))) rfl rfl ?_
    refine SL.op (OpT.plain rfl (OpOk.fieldAddrOwn fldR_29_1 (Typ.tmp rfl))) rfl rfl ?_
    refine SL.opW (OpW.storeOwn ty_3 CmdR.l_dir (i := 0) rfl rfl (Typ.tmp rfl) (Typ.tmp rfl)) ?_
    refine SL.nil ?_
    refine SK.code ?_
    refine SC.seq ?_
    refine SC.region ?_
    refine SL.op (OpT.plain rfl (OpOk.move (Typ.tmp rfl))) rfl rfl ?_
    refine SL.op (OpT.plain rfl (OpOk.cutList Tryz.underlying22 ty_9 (Typ.tmp rfl) (Lo.s Typ.cint) Lo.z (by first | omega | (simp only [decide_eq_true_eq, decide_eq_false_iff_not] at *; omega) | (simp at *; omega)) (by first | omega | (simp only [decide_eq_true_eq, decide_eq_false_iff_not] at *; omega) | (simp at *; omega)) (by first | omega | (simp only [decide_eq_true_eq, decide_eq_false_iff_not] at *; omega) | (simp at *; omega)))) rfl rfl ?_
    refine SL.op (OpT.plain rfl (OpOk.move (Typ.tmp rfl))) rfl rfl ?_
    refine SL.op (OpT.plain rfl (OpOk.assign (Typ.tmp rfl))) rfl rfl ?_
    refine SL.op (OpT.plain rfl (OpOk.assign (Typ.tmp rfl))) rfl rfl ?_
    refine SL.nil ?_
    refine SK.code ?_
    refine SC.ret ?_
    exact SR.twoD rfl (by first | exact post_eq post_same (by rw [run_way_nil (by assumption)]) | exact post_eq (post_dir _) (by rw [run_way (by assumption)])) (ResT.eq rfl (by first | (rw [run_way_nil (by assumption)]) | (rw [run_way (by assumption)]; try rfl))) (ResT.eq rfl (by first | (rw [run_way_nil (by assumption)]) | (rw [run_way (by assumption)]; try rfl)))

/-! innkeep/line.number$1 -/
theorem s_line_number_1 (b : Nat) (c : Cmd) (v1 v2 : Value) (l : List Str) (f : IntF) (hl : ∀ x, x ∈ l → x.length ≤ 281474976710656) : FnSpecD Tryz.prog glob 116 (cmdOwn 29 3 b c v1 v2) [VP.ptr b 0, V l, VP.ref f.fn] (cmdPost 29 3 b (partRun (.num f) c l).1) (.tup [V (partRun (.num f) c l).2.1, V (partRun (.num f) c l).2.2]) := by
  refine FnSpecD.enter Tryz.func116 rfl rfl rfl fun m0 w0 bs => ?_
  refine SC.learnList (t := 1) rfl fun hp1 => ?_
  refine SC.seq ?_
  refine SC.region ?_
  refine SL.op (OpT.plain rfl (OpOk.assign (Typ.cnil (α := Str)))) rfl rfl ?_
  refine SL.op (OpT.plain rfl (OpOk.assign Typ.cbool)) rfl rfl ?_
  refine SL.nil ?_
  refine SK.code ?_
  refine SC.seq ?_
  refine SC.seq ?_
  refine SC.region ?_
  refine SL.op (OpT.plain rfl (OpOk.move (Typ.tmp rfl))) rfl rfl ?_
  refine SL.op (OpT.plain rfl (OpOk.lenList Tryz.underlying22 (Typ.tmp rfl))) rfl rfl ?_
  refine SL.op (OpT.plain rfl (OpOk.eql (Typ.tmp rfl) Typ.cint)) rfl rfl ?_
  refine SL.nil ?_
  refine SK.code ?_
  refine SC.cond rfl (fun _ _ h => V_bool h) (fun h1 => ?_) (fun h1 => ?_)
  · skip
    try simp only [decide_eq_true_eq, decide_eq_false_iff_not, Bool.and_eq_true, Bool.or_eq_true, Bool.not_eq_true', Bool.not_eq_false', Bool.and_eq_false_iff, Bool.or_eq_false_iff, Bool.not_not, Bool.not_true, Bool.not_false, ne_eq, Classical.not_not, Decidable.not_not] at h1
    refine SC.seq ?_
    refine SC.region ?_
    refine SL.op (OpT.plain rfl (OpOk.assign (Typ.cnil (α := Str)))) rfl rfl ?_
    refine SL.op (OpT.plain rfl (OpOk.assign Typ.cbool)) rfl rfl ?_
    refine SL.nil ?_
    refine SK.code ?_
    refine SC.ret ?_
    exact SR.twoD rfl (by first | exact post_eq post_same (by rw [run_num_nil (by assumption)]) | exact post_eq (post_int f _) (by rw [run_num (by assumption)])) (ResT.eq rfl (by first | (rw [run_num_nil (by assumption)]) | (rw [run_num (by assumption)]; try rfl))) (ResT.eq rfl (by first | (rw [run_num_nil (by assumption)]) | (rw [run_num (by assumption)]; try rfl)))
  · skip
    try simp only [decide_eq_true_eq, decide_eq_false_iff_not, Bool.and_eq_true, Bool.or_eq_true, Bool.not_eq_true', Bool.not_eq_false', Bool.and_eq_false_iff, Bool.or_eq_false_iff, Bool.not_not, Bool.not_true, Bool.not_false, ne_eq, Classical.not_not, Decidable.not_not] at h1
    refine SC.skip ?_
    refine SK.code ?_
    refine SC.seq ?_
    refine SC.region ?_
    refine SL.op (OpT.plain rfl (OpOk.move (Typ.tmp rfl))) rfl rfl ?_
    refine SL.op (OpT.plain rfl (OpOk.indexAddr Tryz.underlying22 ty_9 (Typ.tmp rfl) Typ.cint (by first | omega | (simp only [decide_eq_true_eq, decide_eq_false_iff_not] at *; omega) | (simp at *; omega)) (by first | omega | (simp only [decide_eq_true_eq, decide_eq_false_iff_not] at *; omega) | (simp at *; omega)))) rfl rfl ?_
    refine SL.op (OpT.plain rfl (OpOk.loadRef ty_9 (Typ.tmp rfl))) rfl rfl ?_
    refine SL.op (OpT.plain rfl (OpOk.call Tryz.call117 Typ.fn (Typs.cons (Typ.tmp rfl) Typs.nil) (s_token_Number _ (hl _ (nth_mem (by omega) (by omega)))))) rfl rfl ?_
    refine SL.op (OpT.plain rfl (OpOk.move (Typ.tmp rfl))) rfl rfl ?_
    refine SL.op (OpT.plain rfl (OpOk.extract (Typ.tmp rfl) rfl)) rfl rfl ?_
    refine SL.op (OpT.plain rfl (OpOk.extract (Typ.tmp rfl) rfl)) rfl rfl ?_
    refine SL.op (OpT.plain rfl (OpOk.assign (Typ.tmp rfl))) rfl rfl ?_
    refine SL.op (OpT.plain rfl (OpOk.assign (Typ.tmp rfl))) rfl rfl ?_
    refine SL.nil ?_
    refine SK.code ?_
    refine SC.seq ?_
    refine SC.region ?_
    refine SL.op (OpT.plain rfl (OpOk.loadRef ty_139 (Typ.tmp rfl))) rfl rfl ?_
    refine SL.op (OpT.plain rfl (OpOk.move (Typ.tmp rfl))) rfl rfl ?_
    refine SL.op (OpT.plain rfl (OpOk.callV (spec_intF f b) (Typ.tmp rfl) (Typs.cons (Typ.tmp rfl) Typs.nil))) rfl rfl ?_
    refine SL.op (OpT.plain rfl (OpOk.move (Typ.tmp rfl))) rfl rfl ?_
    refine SL.op (OpT.plain rfl (OpOk.nilCheck (Typ.tmp rfl))) rfl rfl ?_
    refine SL.opW (OpW.storeOwn ty_3 (IntF.L f) (i := 0) rfl rfl (Typ.tmp rfl) (Typ.tmp rfl)) ?_
    refine SL.nil ?_
    refine SK.code ?_
    refine SC.seq ?_
    refine SC.region ?_
    refine SL.op (OpT.plain rfl (OpOk.move (Typ.tmp rfl))) rfl rfl ?_
    refine SL.op (OpT.plain rfl (OpOk.cutList Tryz.underlying22 ty_9 (Typ.tmp rfl) (Lo.s Typ.cint) Lo.z (by first | omega | (simp only [decide_eq_true_eq, decide_eq_false_iff_not] at *; omega) | (simp at *; omega)) (by first | omega | (simp only [decide_eq_true_eq, decide_eq_false_iff_not] at *; omega) | (simp at *; omega)) (by first | omega | (simp only [decide_eq_true_eq, decide_eq_false_iff_not] at *; omega) | (simp at *; omega)))) rfl rfl ?_
    refine SL.op (OpT.plain rfl (OpOk.move (Typ.tmp rfl))) rfl rfl ?_
    refine SL.op (OpT.plain rfl (OpOk.assign (Typ.tmp rfl))) rfl rfl ?_
    refine SL.op (OpT.plain rfl (OpOk.assign (Typ.tmp rfl))) rfl rfl ?_
    refine SL.nil ?_
    refine SK.code ?_
    refine SC.ret ?_
    exact SR.twoD rfl (by first | exact post_eq post_same (by rw [run_num_nil (by assumption)]) | exact post_eq (post_int f _) (by rw [run_num (by assumption)])) (ResT.eq rfl (by first | (rw [run_num_nil (by assumption)]) | (rw [run_num (by assumption)]; try rfl))) (ResT.eq rfl (by first | (rw [run_num_nil (by assumption)]) | (rw [run_num (by assumption)]; try rfl)))

/-! innkeep/line.word$1 -/
theorem s_line_word_1 (b : Nat) (c : Cmd) (v1 v2 : Value) (l : List Str) (w : Str) : FnSpecD Tryz.prog glob 118 (cmdOwn 29 3 b c v1 v2) [VP.ptr b 0, V l, VP.ref w] (cmdPost 29 3 b (partRun (.word w) c l).1) (.tup [V (partRun (.word w) c l).2.1, V (partRun (.word w) c l).2.2]) := by
  refine FnSpecD.enter Tryz.func118 rfl rfl rfl fun m0 w0 bs => ?_
  refine SC.learnList (t := 1) rfl fun hp1 => ?_
  refine SC.seq ?_
  refine SC.region ?_
  refine SL.op (OpT.plain rfl (OpOk.assign (Typ.cnil (α := Str)))) rfl rfl ?_
  refine SL.op (OpT.plain rfl (OpOk.assign Typ.cbool)) rfl rfl ?_
  refine SL.nil ?_
  refine SK.code ?_
  refine SC.seq ?_
  refine SC.seq ?_
  refine DR.start ?_
  refine DR.op (fun _ => (OpT.plain rfl (OpOk.move (Typ.tmp rfl)))) rfl rfl ?_
  refine DR.op (fun _ => (OpT.plain rfl (OpOk.lenList Tryz.underlying22 (Typ.tmp rfl)))) rfl rfl ?_
  refine DR.op (fun _ => (OpT.plain rfl (OpOk.eql (Typ.tmp rfl) Typ.cint))) rfl rfl ?_
  refine DR.op (fun _ => (OpT.plain rfl (OpOk.move (Typ.tmp rfl)))) rfl rfl ?_
  refine DR.op (fun _ => (OpT.guard rfl rfl rfl (fun _ _ h => V_bool h) (fun hg => OpOk.move (Typ.tmp rfl)))) rfl rfl ?_
  refine DR.op (fun _ => (OpT.guard rfl rfl rfl (fun _ _ h => V_bool h) (fun hg => OpOk.indexAddr Tryz.underlying22 ty_9 (Typ.cond hg rfl) Typ.cint (by first | omega | (simp only [decide_eq_true_eq, decide_eq_false_iff_not] at *; omega) | (simp at *; omega)) (by first | omega | (simp only [decide_eq_true_eq, decide_eq_false_iff_not] at *; omega) | (simp at *; omega))))) rfl rfl ?_
  refine DR.op (fun _ => (OpT.guard rfl rfl rfl (fun _ _ h => V_bool h) (fun hg => OpOk.loadRef ty_9 (Typ.cond hg rfl)))) rfl rfl ?_
  refine DR.op (fun _ => (OpT.guard rfl rfl rfl (fun _ _ h => V_bool h) (fun hg => OpOk.loadRef ty_9 (Typ.tmp rfl)))) rfl rfl ?_
  refine DR.op (fun _ => (OpT.guard rfl rfl rfl (fun _ _ h => V_bool h) (fun hg => OpOk.neqS (Typ.cond hg rfl) (Typ.cond hg rfl)))) rfl rfl ?_
  refine DR.op (fun _ => (OpT.plain rfl (OpOk.pickOr (Typ.tmp rfl) (fun hb => Typ.cond hb rfl)))) rfl rfl ?_
  refine DR.tail rfl (by decide +kernel) (show dstBelow _ 19 = true by decide +kernel) rfl ?_
  refine SL.nil ?_
  refine SK.code ?_
  refine SC.cond rfl (fun _ _ h => V_bool h) (fun h1 => ?_) (fun h1 => ?_)
  · skip
    try simp only [decide_eq_true_eq, decide_eq_false_iff_not, Bool.and_eq_true, Bool.or_eq_true, Bool.not_eq_true', Bool.not_eq_false', Bool.and_eq_false_iff, Bool.or_eq_false_iff, Bool.not_not, Bool.not_true, Bool.not_false, ne_eq, Classical.not_not, Decidable.not_not] at h1
    refine SC.seq ?_
    refine SC.region ?_
    refine SL.op (OpT.plain rfl (OpOk.assign (Typ.cnil (α := Str)))) rfl rfl ?_
    refine SL.op (OpT.plain rfl (OpOk.assign Typ.cbool)) rfl rfl ?_
    refine SL.nil ?_
    refine SK.code ?_
    refine SC.ret ?_
    exact SR.twoD rfl (by first | exact post_eq post_same (by rw [run_word_no (by assumption)]) | exact post_eq post_same (by rw [run_word (by assumption)])) (ResT.eq rfl (by first | (rw [run_word_no (by assumption)]) | (rw [run_word (by assumption)]; try rfl))) (ResT.eq rfl (by first | (rw [run_word_no (by assumption)]) | (rw [run_word (by assumption)]; try rfl)))
  · skip
    try simp only [decide_eq_true_eq, decide_eq_false_iff_not, Bool.and_eq_true, Bool.or_eq_true, Bool.not_eq_true', Bool.not_eq_false', Bool.and_eq_false_iff, Bool.or_eq_false_iff, Bool.not_not, Bool.not_true, Bool.not_false, ne_eq, Classical.not_not, Decidable.not_not] at h1
    refine SC.skip ?_
    refine SK.code ?_
    refine SC.seq ?_
    refine SC.region ?_
    refine SL.op (OpT.plain rfl (OpOk.move (Typ.tmp rfl))) rfl rfl ?_
    refine SL.op (OpT.plain rfl (OpOk.cutList Tryz.underlying22 ty_9 (Typ.tmp rfl) (Lo.s Typ.cint) Lo.z (by first | omega | (simp only [decide_eq_true_eq, decide_eq_false_iff_not] at *; omega) | (simp at *; omega)) (by first | omega | (simp only [decide_eq_true_eq, decide_eq_false_iff_not] at *; omega) | (simp at *; omega)) (by first | omega | (simp only [decide_eq_true_eq, decide_eq_false_iff_not] at *; omega) | (simp at *; omega)))) rfl rfl ?_
    refine SL.op (OpT.plain rfl (OpOk.assign (Typ.tmp rfl))) rfl rfl ?_
    refine SL.op (OpT.plain rfl (OpOk.assign Typ.cbool)) rfl rfl ?_
    refine SL.nil ?_
    refine SK.code ?_
    refine SC.ret ?_
    exact SR.twoD rfl (by first | exact post_eq post_same (by rw [run_word_no (by assumption)]) | exact post_eq post_same (by rw [run_word (by assumption)])) (ResT.eq rfl (by first | (rw [run_word_no (by assumption)]) | (rw [run_word (by assumption)]; try rfl))) (ResT.eq rfl (by first | (rw [run_word_no (by assumption)]) | (rw [run_word (by assumption)]; try rfl)))

/-! innkeep/line.forms -/
theorem s_line_forms  : FnSpec Tryz.prog glob 57 [] (VP.map formsL) := by
  refine FnSpec.enter Tryz.func57 rfl rfl rfl fun m0 w0 => ?_
  refine SC.seq ?_
  refine SC.region ?_
  refine SL.op (OpT.plain rfl (OpOk.assign (Typ.con (p := .any) fun _ => trivial))) rfl rfl ?_
  refine SL.nil ?_
  refine SK.code ?_
  refine SC.seq ?_
  refine SC.region ?_
  refine SL.makeMap (List Part) rfl fun b1 => ?_
  refine SL.op (OpT.plain rfl (OpOk.buildSlice lit_90_1 (parts := [(0, Operand.func 90)]) rfl (TypL.cons Typ.way TypL.nil))) rfl rfl ?_
  refine SL.insert Tryz.underlying91 Tryz.underlying3 (i := 0) rfl (Typ.tmp rfl) Typ.cint (Typ.tmp rfl) (by first | rfl | decide | simp [mget]) ?_
  refine SL.op (OpT.plain rfl (OpOk.call Tryz.call91 Typ.fn (Typs.cons Typ.fn0 Typs.nil) (s_line_number IntF.who))) rfl rfl ?_
  refine SL.op (OpT.plain rfl (OpOk.buildSlice lit_90_2 (parts := [(0, Operand.tmp 3), (1, Operand.func 90)]) rfl (TypL.cons (Typ.tmp rfl) (TypL.cons Typ.way TypL.nil)))) rfl rfl ?_
  refine SL.insert Tryz.underlying91 Tryz.underlying3 (i := 0) rfl (Typ.tmp rfl) Typ.cint (Typ.tmp rfl) (by first | rfl | decide | simp [mget]) ?_
  refine SL.op (OpT.plain rfl (OpOk.call Tryz.call91 Typ.fn (Typs.cons Typ.fn0 Typs.nil) (s_line_number IntF.item))) rfl rfl ?_
  refine SL.op (OpT.plain rfl (OpOk.buildSlice lit_90_1 (parts := [(0, Operand.tmp 5)]) rfl (TypL.cons (Typ.tmp rfl) TypL.nil))) rfl rfl ?_
  refine SL.insert Tryz.underlying91 Tryz.underlying3 (i := 0) rfl (Typ.tmp rfl) Typ.cint (Typ.tmp rfl) (by first | rfl | decide | simp [mget]) ?_
  refine SL.op (OpT.plain rfl (OpOk.call Tryz.call91 Typ.fn (Typs.cons Typ.fn0 Typs.nil) (s_line_number IntF.item))) rfl rfl ?_
  refine SL.op (OpT.plain rfl (OpOk.buildSlice lit_90_1 (parts := [(0, Operand.tmp 7)]) rfl (TypL.cons (Typ.tmp rfl) TypL.nil))) rfl rfl ?_
  refine SL.insert Tryz.underlying91 Tryz.underlying3 (i := 0) rfl (Typ.tmp rfl) Typ.cint (Typ.tmp rfl) (by first | rfl | decide | simp [mget]) ?_
  refine SL.op (OpT.plain rfl (OpOk.call Tryz.call91 Typ.fn (Typs.cons Typ.fn0 Typs.nil) (s_line_number IntF.item))) rfl rfl ?_
  refine SL.op (OpT.plain rfl (OpOk.call Tryz.call94 Typ.fn (Typs.cons (Typ.cstr (l := [105, 110])) Typs.nil) (s_line_word _))) rfl rfl ?_
  refine SL.op (OpT.plain rfl (OpOk.call Tryz.call91 Typ.fn (Typs.cons Typ.fn0 Typs.nil) (s_line_number IntF.box))) rfl rfl ?_
  refine SL.op (OpT.plain rfl (OpOk.buildSlice lit_90_3 (parts := [(0, Operand.tmp 9), (1, Operand.tmp 10), (2, Operand.tmp 11)]) rfl (TypL.cons (Typ.tmp rfl) (TypL.cons (Typ.tmp rfl) (TypL.cons (Typ.tmp rfl) TypL.nil))))) rfl rfl ?_
  refine SL.insert Tryz.underlying91 Tryz.underlying3 (i := 0) rfl (Typ.tmp rfl) Typ.cint (Typ.tmp rfl) (by first | rfl | decide | simp [mget]) ?_
  refine SL.op (OpT.plain rfl (OpOk.call Tryz.call91 Typ.fn (Typs.cons Typ.fn0 Typs.nil) (s_line_number IntF.item))) rfl rfl ?_
  refine SL.op (OpT.plain rfl (OpOk.call Tryz.call94 Typ.fn (Typs.cons (Typ.cstr (l := [102, 114, 111, 109])) Typs.nil) (s_line_word _))) rfl rfl ?_
  refine SL.op (OpT.plain rfl (OpOk.call Tryz.call91 Typ.fn (Typs.cons Typ.fn0 Typs.nil) (s_line_number IntF.box))) rfl rfl ?_
  refine SL.op (OpT.plain rfl (OpOk.buildSlice lit_90_3 (parts := [(0, Operand.tmp 13), (1, Operand.tmp 14), (2, Operand.tmp 15)]) rfl (TypL.cons (Typ.tmp rfl) (TypL.cons (Typ.tmp rfl) (TypL.cons (Typ.tmp rfl) TypL.nil))))) rfl rfl ?_
  refine SL.insert Tryz.underlying91 Tryz.underlying3 (i := 0) rfl (Typ.tmp rfl) Typ.cint (Typ.tmp rfl) (by first | rfl | decide | simp [mget]) ?_
  refine SL.op (OpT.plain rfl (OpOk.call Tryz.call91 Typ.fn (Typs.cons Typ.fn0 Typs.nil) (s_line_number IntF.item))) rfl rfl ?_
  refine SL.op (OpT.plain rfl (OpOk.call Tryz.call94 Typ.fn (Typs.cons (Typ.cstr (l := [116, 111])) Typs.nil) (s_line_word _))) rfl rfl ?_
  refine SL.op (OpT.plain rfl (OpOk.call Tryz.call91 Typ.fn (Typs.cons Typ.fn0 Typs.nil) (s_line_number IntF.who))) rfl rfl ?_
  refine SL.op (OpT.plain rfl (OpOk.buildSlice lit_90_3 (parts := [(0, Operand.tmp 17), (1, Operand.tmp 18), (2, Operand.tmp 19)]) rfl (TypL.cons (Typ.tmp rfl) (TypL.cons (Typ.tmp rfl) (TypL.cons (Typ.tmp rfl) TypL.nil))))) rfl rfl ?_
  refine SL.insert Tryz.underlying91 Tryz.underlying3 (i := 0) rfl (Typ.tmp rfl) Typ.cint (Typ.tmp rfl) (by first | rfl | decide | simp [mget]) ?_
  refine SL.op (OpT.plain rfl (OpOk.call Tryz.call91 Typ.fn (Typs.cons Typ.fn0 Typs.nil) (s_line_number IntF.who))) rfl rfl ?_
  refine SL.op (OpT.plain rfl (OpOk.call Tryz.call94 Typ.fn (Typs.cons (Typ.cstr (l := [103, 105, 118, 101])) Typs.nil) (s_line_word _))) rfl rfl ?_
  refine SL.op (OpT.plain rfl (OpOk.call Tryz.call96 Typ.fn (Typs.cons Typ.fn0 Typs.nil) (s_line_row RowF.gives))) rfl rfl ?_
  refine SL.op (OpT.plain rfl (OpOk.call Tryz.call94 Typ.fn (Typs.cons (Typ.cstr (l := [99, 111, 105, 110, 115])) Typs.nil) (s_line_word _))) rfl rfl ?_
  refine SL.op (OpT.plain rfl (OpOk.call Tryz.call91 Typ.fn (Typs.cons Typ.fn0 Typs.nil) (s_line_number IntF.pay))) rfl rfl ?_
  refine SL.op (OpT.plain rfl (OpOk.call Tryz.call94 Typ.fn (Typs.cons (Typ.cstr (l := [102, 111, 114])) Typs.nil) (s_line_word _))) rfl rfl ?_
  refine SL.op (OpT.plain rfl (OpOk.call Tryz.call96 Typ.fn (Typs.cons Typ.fn0 Typs.nil) (s_line_row RowF.wants))) rfl rfl ?_
  refine SL.op (OpT.plain rfl (OpOk.call Tryz.call94 Typ.fn (Typs.cons (Typ.cstr (l := [99, 111, 105, 110, 115])) Typs.nil) (s_line_word _))) rfl rfl ?_
  refine SL.op (OpT.plain rfl (OpOk.call Tryz.call91 Typ.fn (Typs.cons Typ.fn0 Typs.nil) (s_line_number IntF.fee))) rfl rfl ?_
  refine SL.op (OpT.plain rfl (OpOk.buildSlice lit_90_9 (parts := [(0, Operand.tmp 21), (1, Operand.tmp 22), (2, Operand.tmp 23), (3, Operand.tmp 24), (4, Operand.tmp 25), (5, Operand.tmp 26), (6, Operand.tmp 27), (7, Operand.tmp 28), (8, Operand.tmp 29)]) rfl (TypL.cons (Typ.tmp rfl) (TypL.cons (Typ.tmp rfl) (TypL.cons (Typ.tmp rfl) (TypL.cons (Typ.tmp rfl) (TypL.cons (Typ.tmp rfl) (TypL.cons (Typ.tmp rfl) (TypL.cons (Typ.tmp rfl) (TypL.cons (Typ.tmp rfl) (TypL.cons (Typ.tmp rfl) TypL.nil))))))))))) rfl rfl ?_
  refine SL.insert Tryz.underlying91 Tryz.underlying3 (i := 0) rfl (Typ.tmp rfl) Typ.cint (Typ.tmp rfl) (by first | rfl | decide | simp [mget]) ?_
  refine SL.op (OpT.plain rfl (OpOk.buildSlice0 (Part) Tryz.underlying90 ty_94)) rfl rfl ?_
  refine SL.insert Tryz.underlying91 Tryz.underlying3 (i := 0) rfl (Typ.tmp rfl) Typ.cint (Typ.tmp rfl) (by first | rfl | decide | simp [mget]) ?_
  refine SL.op (OpT.plain rfl (OpOk.buildSlice0 (Part) Tryz.underlying90 ty_94)) rfl rfl ?_
  refine SL.insert Tryz.underlying91 Tryz.underlying3 (i := 0) rfl (Typ.tmp rfl) Typ.cint (Typ.tmp rfl) (by first | rfl | decide | simp [mget]) ?_
  refine SL.publishMap (t := 1) (i := 0) rfl rfl ?_
  refine SL.op (OpT.plain rfl (OpOk.move (Typ.tmp rfl))) rfl rfl ?_
  refine SL.op (OpT.plain rfl (OpOk.assign (Typ.tmp rfl))) rfl rfl ?_
  refine SL.nil ?_
  refine SK.code ?_
  refine SC.ret ?_
  exact SR.one rfl (ResT.tmp rfl)

/-! innkeep/line.row$1 -/
theorem s_row_1_gives (b : Nat) (c : Cmd) (v1 v2 : Value) (l : List Str) (hl : ∀ x, x ∈ l → x.length ≤ 281474976710656) (hc : c.gives.length + l.length ≤ 1000000) : FnSpecD Tryz.prog glob 119 (cmdOwn 29 3 b c v1 v2) [VP.ptr b 0, V l, VP.ref (RowF.fn RowF.gives)] (cmdPost 29 3 b (partRun (.row RowF.gives) c l).1) (.tup [V (partRun (.row RowF.gives) c l).2.1, V (partRun (.row RowF.gives) c l).2.2]) := by
  refine FnSpecD.enter Tryz.func119 rfl rfl rfl fun m0 w0 bs => ?_
  refine SC.learnList (t := 1) rfl fun hp1 => ?_
  refine SC.seq ?_
  refine SC.region ?_
  refine SL.op (OpT.plain rfl (OpOk.assign (Typ.cnil (α := Str)))) rfl rfl ?_
  refine SL.op (OpT.plain rfl (OpOk.assign Typ.cbool)) rfl rfl ?_
  refine SL.nil ?_
  refine SK.code ?_
  refine SC.seq ?_
  refine SC.block ?_
  refine SC.loopK (σ := List Str × List Int × Value) [0, 2, 5, 6] (fun s => [(1, V s.1)]) (fun s Δ => cmdOwn 29 3 b (c.s_gives (c.gives ++ s.2.1)) s.2.2 v2) (fun s => s.1.length) (fun s => NumsInv l s.1 s.2.1) ((l, [], v1)) (NumsInv.zero l) (by simp [cmdOwn, rawC, Cmd.s_gives]) (Subs.eq rfl (by first | rfl | omega | (simp; done) | (simp_all; done) | (simp_all; omega)) Subs.nil) (fun s hs => ?_)
  obtain ⟨ws, acc, v⟩ := s
  dsimp only at hs ⊢
  have q1 := hs.len
  refine SC.seq ?_
  refine SC.seq ?_
  refine SC.region ?_
  refine SL.op (OpT.plain rfl (OpOk.move (Typ.tmp rfl))) rfl rfl ?_
  refine SL.op (OpT.plain rfl (OpOk.lenList Tryz.underlying22 (Typ.tmp rfl))) rfl rfl ?_
  refine SL.op (OpT.plain rfl (OpOk.gtr (Typ.tmp rfl) Typ.cint)) rfl rfl ?_
  refine SL.nil ?_
  refine SK.code ?_
  refine SC.cond rfl (fun _ _ h => V_bool h) (fun h1 => ?_) (fun h1 => ?_)
  · skip
    try simp only [decide_eq_true_eq, decide_eq_false_iff_not, Bool.and_eq_true, Bool.or_eq_true, Bool.not_eq_true', Bool.not_eq_false', Bool.and_eq_false_iff, Bool.or_eq_false_iff, Bool.not_not, Bool.not_true, Bool.not_false, ne_eq, Classical.not_not, Decidable.not_not] at h1
    refine SC.skip ?_
    refine SK.code ?_
    refine SC.block ?_
    refine SC.seq ?_
    refine SC.region ?_
    refine SL.op (OpT.plain rfl (OpOk.move (Typ.tmp rfl))) rfl rfl ?_
    refine SL.op (OpT.plain rfl (OpOk.indexAddr Tryz.underlying22 ty_9 (Typ.tmp rfl) Typ.cint (by first | omega | (simp only [decide_eq_true_eq, decide_eq_false_iff_not] at *; omega) | (simp at *; omega)) (by first | omega | (simp only [decide_eq_true_eq, decide_eq_false_iff_not] at *; omega) | (simp at *; omega)))) rfl rfl ?_
    refine SL.op (OpT.plain rfl (OpOk.loadRef ty_9 (Typ.tmp rfl))) rfl rfl ?_
    refine SL.op (OpT.plain rfl (OpOk.call Tryz.call117 Typ.fn (Typs.cons (Typ.tmp rfl) Typs.nil) (s_token_Number _ (hl _ (hs.sub _ (nth_mem (by omega) (by omega))))))) rfl rfl ?_
    refine SL.op (OpT.plain rfl (OpOk.move (Typ.tmp rfl))) rfl rfl ?_
    refine SL.op (OpT.plain rfl (OpOk.extract (Typ.tmp rfl) rfl)) rfl rfl ?_
    refine SL.op (OpT.plain rfl (OpOk.extract (Typ.tmp rfl) rfl)) rfl rfl ?_
    refine SL.op (OpT.plain rfl (OpOk.assign (Typ.tmp rfl))) rfl rfl ?_
    refine SL.op (OpT.plain rfl (OpOk.assign (Typ.tmp rfl))) rfl rfl ?_
    refine SL.nil ?_
    refine SK.code ?_
    refine SC.seq ?_
    refine SC.seq ?_
    refine SC.region ?_
    refine SL.op (OpT.plain rfl (OpOk.move (Typ.tmp rfl))) rfl rfl ?_
    refine SL.op (OpT.plain rfl (OpOk.not (Typ.tmp rfl))) rfl rfl ?_
    refine SL.nil ?_
    refine SK.code ?_
    refine SC.cond rfl (fun _ _ h => V_bool h) (fun h2 => ?_) (fun h2 => ?_)
    · skip
      try simp only [decide_eq_true_eq, decide_eq_false_iff_not, Bool.and_eq_true, Bool.or_eq_true, Bool.not_eq_true', Bool.not_eq_false', Bool.and_eq_false_iff, Bool.or_eq_false_iff, Bool.not_not, Bool.not_true, Bool.not_false, ne_eq, Classical.not_not, Decidable.not_not] at h2
      refine SC.exit rfl ?_
      refine SK.code ?_
      refine SC.seq ?_
      refine SC.region ?_
      refine SL.op (OpT.plain rfl (OpOk.move (Typ.tmp rfl))) rfl rfl ?_
      refine SL.op (OpT.plain rfl (OpOk.assign (Typ.tmp rfl))) rfl rfl ?_
      refine SL.op (OpT.plain rfl (OpOk.assign Typ.cbool)) rfl rfl ?_
      refine SL.nil ?_
      refine SK.code ?_
      refine SC.ret ?_
      exact SR.twoD rfl (by exact post_eq ⟨_, _, rfl⟩ (by rw [run_row hs (by first | (left; simp_all; done) | (right; simp_all; done))]; rfl)) (ResT.eq rfl (by (rw [run_row hs (by first | (left; simp_all; done) | (right; simp_all; done))]))) (ResT.eq rfl (by (rw [run_row hs (by first | (left; simp_all; done) | (right; simp_all; done))])))
    · skip
      try simp only [decide_eq_true_eq, decide_eq_false_iff_not, Bool.and_eq_true, Bool.or_eq_true, Bool.not_eq_true', Bool.not_eq_false', Bool.and_eq_false_iff, Bool.or_eq_false_iff, Bool.not_not, Bool.not_true, Bool.not_false, ne_eq, Classical.not_not, Decidable.not_not] at h2
      refine SC.skip ?_
      refine SK.code ?_
      refine SC.seq ?_
      refine DR.start ?_
      refine DR.op (fun _ => (OpT.plain rfl (OpOk.loadRef ty_142 (Typ.tmp rfl)))) rfl rfl ?_
      refine DR.op (fun _ => (OpT.plain rfl (OpOk.move (Typ.tmp rfl)))) rfl rfl ?_
      refine DR.op (fun _ => (OpT.plain rfl (OpOk.callV (spec_rowF RowF.gives b) (Typ.tmp rfl) (Typs.cons (Typ.tmp rfl) Typs.nil)))) rfl rfl ?_
      refine DR.op (fun _ => (OpT.plain rfl (OpOk.loadRef ty_142 (Typ.tmp rfl)))) rfl rfl ?_
      refine DR.op (fun _ => (OpT.plain rfl (OpOk.move (Typ.tmp rfl)))) rfl rfl ?_
      refine DR.op (fun _ => (OpT.plain rfl (OpOk.callV (spec_rowF RowF.gives b) (Typ.tmp rfl) (Typs.cons (Typ.tmp rfl) Typs.nil)))) rfl rfl ?_
      refine DR.op (fun _ => (OpT.plain rfl (OpOk.nilCheck (Typ.tmp rfl)))) rfl rfl ?_
      refine DR.opR (OpT.plain rfl (OpOk.loadOwn tyr (RowF.L RowF.gives) (k := 0) rfl rfl (Typ.tmp rfl))) rfl rfl ?_
      refine DR.op (fun _ => (OpT.plain rfl (OpOk.move (Typ.tmp rfl)))) rfl rfl ?_
      refine DR.op (fun _ => (OpT.plain rfl (OpOk.buildSlice lit_27_1 (parts := [(0, Operand.tmp 29)]) rfl (TypL.cons (Typ.tmp rfl) TypL.nil)))) rfl rfl ?_
      refine DR.tail rfl (by decide +kernel) (show dstBelow _ 36 = true by decide +kernel) rfl ?_
      obtain ⟨by_, hby, htyi⟩ := tyi_27
      refine SL.append Tryz.underlying27 htyi (i := 1) rfl (Typ.raw rfl) (Typ.tmp rfl) (by simp) ?_ ?_ rfl fun v3 => ?_
      · exact (by refine Nat.le_trans (Nat.mul_le_mul (Nat.le_refl _) hby) ?_; first | omega | (simp; done) | (simp; omega) | (simp only [Cmd.s_kind, Cmd.s_dir, Cmd.s_item, Cmd.s_box, Cmd.s_who, Cmd.s_gives, Cmd.s_pay, Cmd.s_wants, Cmd.s_fee]; simp; omega) | (simp at *; omega))
      · exact (by unfold maxLen; first | omega | (simp; done) | (simp; omega) | (simp only [Cmd.s_kind, Cmd.s_dir, Cmd.s_item, Cmd.s_box, Cmd.s_who, Cmd.s_gives, Cmd.s_pay, Cmd.s_wants, Cmd.s_fee]; simp; omega) | (simp at *; omega))
      clear htyi hby
      refine SL.op (OpT.plain rfl (OpOk.nilCheck (Typ.tmp rfl))) rfl rfl ?_
      refine SL.learnRow (i := 1) rfl fun hone => ?_
      refine SL.opW (OpW.storeOwn tyr (RowF.L RowF.gives) (i := 0) rfl rfl (Typ.tmp rfl) (Typ.toRaw hone rfl)) ?_
      refine SL.nil ?_
      refine SK.code ?_
      refine SC.region ?_
      refine SL.op (OpT.plain rfl (OpOk.move (Typ.tmp rfl))) rfl rfl ?_
      refine SL.op (OpT.plain rfl (OpOk.cutList Tryz.underlying22 ty_9 (Typ.tmp rfl) (Lo.s Typ.cint) Lo.z (by first | omega | (simp only [decide_eq_true_eq, decide_eq_false_iff_not] at *; omega) | (simp at *; omega)) (by first | omega | (simp only [decide_eq_true_eq, decide_eq_false_iff_not] at *; omega) | (simp at *; omega)) (by first | omega | (simp only [decide_eq_true_eq, decide_eq_false_iff_not] at *; omega) | (simp at *; omega)))) rfl rfl ?_
      refine SL.op (OpT.plain rfl (OpOk.assign (Typ.tmp rfl))) rfl rfl ?_
      refine SL.nil ?_
      refine SK.blk ?_
      refine SK.roundK ((rest1 ws, acc ++ [(numT (nth ws 0)).1], v3)) (by rw [rest1_eq]; simp; omega) (hs.step (by assumption) (by assumption)) (by simp [cmdOwn, rawC, Cmd.s_gives, RowF.set, CmdR.s_gives]) rfl (Subs.eq rfl (by first | rfl | omega | (simp; done) | (simp_all; done) | (simp_all; omega)) Subs.nil)
  · skip
    try simp only [decide_eq_true_eq, decide_eq_false_iff_not, Bool.and_eq_true, Bool.or_eq_true, Bool.not_eq_true', Bool.not_eq_false', Bool.and_eq_false_iff, Bool.or_eq_false_iff, Bool.not_not, Bool.not_true, Bool.not_false, ne_eq, Classical.not_not, Decidable.not_not] at h1
    refine SC.exit rfl ?_
    refine SK.code ?_
    refine SC.seq ?_
    refine SC.region ?_
    refine SL.op (OpT.plain rfl (OpOk.move (Typ.tmp rfl))) rfl rfl ?_
    refine SL.op (OpT.plain rfl (OpOk.assign (Typ.tmp rfl))) rfl rfl ?_
    refine SL.op (OpT.plain rfl (OpOk.assign Typ.cbool)) rfl rfl ?_
    refine SL.nil ?_
    refine SK.code ?_
    refine SC.ret ?_
    exact SR.twoD rfl (by exact post_eq ⟨_, _, rfl⟩ (by rw [run_row hs (by first | (left; simp_all; done) | (right; simp_all; done))]; rfl)) (ResT.eq rfl (by (rw [run_row hs (by first | (left; simp_all; done) | (right; simp_all; done))]))) (ResT.eq rfl (by (rw [run_row hs (by first | (left; simp_all; done) | (right; simp_all; done))])))

/-! innkeep/line.row$1 -/
theorem s_row_1_wants (b : Nat) (c : Cmd) (v1 v2 : Value) (l : List Str) (hl : ∀ x, x ∈ l → x.length ≤ 281474976710656) (hc : c.wants.length + l.length ≤ 1000000) : FnSpecD Tryz.prog glob 119 (cmdOwn 29 3 b c v1 v2) [VP.ptr b 0, V l, VP.ref (RowF.fn RowF.wants)] (cmdPost 29 3 b (partRun (.row RowF.wants) c l).1) (.tup [V (partRun (.row RowF.wants) c l).2.1, V (partRun (.row RowF.wants) c l).2.2]) := by
  refine FnSpecD.enter Tryz.func119 rfl rfl rfl fun m0 w0 bs => ?_
  refine SC.learnList (t := 1) rfl fun hp1 => ?_
  refine SC.seq ?_
  refine SC.region ?_
  refine SL.op (OpT.plain rfl (OpOk.assign (Typ.cnil (α := Str)))) rfl rfl ?_
  refine SL.op (OpT.plain rfl (OpOk.assign Typ.cbool)) rfl rfl ?_
  refine SL.nil ?_
  refine SK.code ?_
  refine SC.seq ?_
  refine SC.block ?_
  refine SC.loopK (σ := List Str × List Int × Value) [0, 2, 5, 6] (fun s => [(1, V s.1)]) (fun s Δ => cmdOwn 29 3 b (c.s_wants (c.wants ++ s.2.1)) v1 s.2.2) (fun s => s.1.length) (fun s => NumsInv l s.1 s.2.1) ((l, [], v2)) (NumsInv.zero l) (by simp [cmdOwn, rawC, Cmd.s_wants]) (Subs.eq rfl (by first | rfl | omega | (simp; done) | (simp_all; done) | (simp_all; omega)) Subs.nil) (fun s hs => ?_)
  obtain ⟨ws, acc, v⟩ := s
  dsimp only at hs ⊢
  have q1 := hs.len
  refine SC.seq ?_
  refine SC.seq ?_
  refine SC.region ?_
  refine SL.op (OpT.plain rfl (OpOk.move (Typ.tmp rfl))) rfl rfl ?_
  refine SL.op (OpT.plain rfl (OpOk.lenList Tryz.underlying22 (Typ.tmp rfl))) rfl rfl ?_
  refine SL.op (OpT.plain rfl (OpOk.gtr (Typ.tmp rfl) Typ.cint)) rfl rfl ?_
  refine SL.nil ?_
  refine SK.code ?_
  refine SC.cond rfl (fun _ _ h => V_bool h) (fun h1 => ?_) (fun h1 => ?_)
  · skip
    try simp only [decide_eq_true_eq, decide_eq_false_iff_not, Bool.and_eq_true, Bool.or_eq_true, Bool.not_eq_true', Bool.not_eq_false', Bool.and_eq_false_iff, Bool.or_eq_false_iff, Bool.not_not, Bool.not_true, Bool.not_false, ne_eq, Classical.not_not, Decidable.not_not] at h1
    refine SC.skip ?_
    refine SK.code ?_
    refine SC.block ?_
    refine SC.seq ?_
    refine SC.region ?_
    refine SL.op (OpT.plain rfl (OpOk.move (Typ.tmp rfl))) rfl rfl ?_
    refine SL.op (OpT.plain rfl (OpOk.indexAddr Tryz.underlying22 ty_9 (Typ.tmp rfl) Typ.cint (by first | omega | (simp only [decide_eq_true_eq, decide_eq_false_iff_not] at *; omega) | (simp at *; omega)) (by first | omega | (simp only [decide_eq_true_eq, decide_eq_false_iff_not] at *; omega) | (simp at *; omega)))) rfl rfl ?_
    refine SL.op (OpT.plain rfl (OpOk.loadRef ty_9 (Typ.tmp rfl))) rfl rfl ?_
    refine SL.op (OpT.plain rfl (OpOk.call Tryz.call117 Typ.fn (Typs.cons (Typ.tmp rfl) Typs.nil) (s_token_Number _ (hl _ (hs.sub _ (nth_mem (by omega) (by omega))))))) rfl rfl ?_
    refine SL.op (OpT.plain rfl (OpOk.move (Typ.tmp rfl))) rfl rfl ?_
    refine SL.op (OpT.plain rfl (OpOk.extract (Typ.tmp rfl) rfl)) rfl rfl ?_
    refine SL.op (OpT.plain rfl (OpOk.extract (Typ.tmp rfl) rfl)) rfl rfl ?_
    refine SL.op (OpT.plain rfl (OpOk.assign (Typ.tmp rfl))) rfl rfl ?_
    refine SL.op (OpT.plain rfl (OpOk.assign (Typ.tmp rfl))) rfl rfl ?_
    refine SL.nil ?_
    refine SK.code ?_
    refine SC.seq ?_
    refine SC.seq ?_
    refine SC.region ?_
    refine SL.op (OpT.plain rfl (OpOk.move (Typ.tmp rfl))) rfl rfl ?_
    refine SL.op (OpT.plain rfl (OpOk.not (Typ.tmp rfl))) rfl rfl ?_
    refine SL.nil ?_
    refine SK.code ?_
    refine SC.cond rfl (fun _ _ h => V_bool h) (fun h2 => ?_) (fun h2 => ?_)
    · skip
      try simp only [decide_eq_true_eq, decide_eq_false_iff_not, Bool.and_eq_true, Bool.or_eq_true, Bool.not_eq_true', Bool.not_eq_false', Bool.and_eq_false_iff, Bool.or_eq_false_iff, Bool.not_not, Bool.not_true, Bool.not_false, ne_eq, Classical.not_not, Decidable.not_not] at h2
      refine SC.exit rfl ?_
      refine SK.code ?_
      refine SC.seq ?_
      refine SC.region ?_
      refine SL.op (OpT.plain rfl (OpOk.move (Typ.tmp rfl))) rfl rfl ?_
      refine SL.op (OpT.plain rfl (OpOk.assign (Typ.tmp rfl))) rfl rfl ?_
      refine SL.op (OpT.plain rfl (OpOk.assign Typ.cbool)) rfl rfl ?_
      refine SL.nil ?_
      refine SK.code ?_
      refine SC.ret ?_
      exact SR.twoD rfl (by exact post_eq ⟨_, _, rfl⟩ (by rw [run_row hs (by first | (left; simp_all; done) | (right; simp_all; done))]; rfl)) (ResT.eq rfl (by (rw [run_row hs (by first | (left; simp_all; done) | (right; simp_all; done))]))) (ResT.eq rfl (by (rw [run_row hs (by first | (left; simp_all; done) | (right; simp_all; done))])))
    · skip
      try simp only [decide_eq_true_eq, decide_eq_false_iff_not, Bool.and_eq_true, Bool.or_eq_true, Bool.not_eq_true', Bool.not_eq_false', Bool.and_eq_false_iff, Bool.or_eq_false_iff, Bool.not_not, Bool.not_true, Bool.not_false, ne_eq, Classical.not_not, Decidable.not_not] at h2
      refine SC.skip ?_
      refine SK.code ?_
      refine SC.seq ?_
      refine DR.start ?_
      refine DR.op (fun _ => (OpT.plain rfl (OpOk.loadRef ty_142 (Typ.tmp rfl)))) rfl rfl ?_
      refine DR.op (fun _ => (OpT.plain rfl (OpOk.move (Typ.tmp rfl)))) rfl rfl ?_
      refine DR.op (fun _ => (OpT.plain rfl (OpOk.callV (spec_rowF RowF.wants b) (Typ.tmp rfl) (Typs.cons (Typ.tmp rfl) Typs.nil)))) rfl rfl ?_
      refine DR.op (fun _ => (OpT.plain rfl (OpOk.loadRef ty_142 (Typ.tmp rfl)))) rfl rfl ?_
      refine DR.op (fun _ => (OpT.plain rfl (OpOk.move (Typ.tmp rfl)))) rfl rfl ?_
      refine DR.op (fun _ => (OpT.plain rfl (OpOk.callV (spec_rowF RowF.wants b) (Typ.tmp rfl) (Typs.cons (Typ.tmp rfl) Typs.nil)))) rfl rfl ?_
      refine DR.op (fun _ => (OpT.plain rfl (OpOk.nilCheck (Typ.tmp rfl)))) rfl rfl ?_
      refine DR.opR (OpT.plain rfl (OpOk.loadOwn tyr (RowF.L RowF.wants) (k := 0) rfl rfl (Typ.tmp rfl))) rfl rfl ?_
      refine DR.op (fun _ => (OpT.plain rfl (OpOk.move (Typ.tmp rfl)))) rfl rfl ?_
      refine DR.op (fun _ => (OpT.plain rfl (OpOk.buildSlice lit_27_1 (parts := [(0, Operand.tmp 29)]) rfl (TypL.cons (Typ.tmp rfl) TypL.nil)))) rfl rfl ?_
      refine DR.tail rfl (by decide +kernel) (show dstBelow _ 36 = true by decide +kernel) rfl ?_
      obtain ⟨by_, hby, htyi⟩ := tyi_27
      refine SL.append Tryz.underlying27 htyi (i := 2) rfl (Typ.raw rfl) (Typ.tmp rfl) (by simp) ?_ ?_ rfl fun v3 => ?_
      · exact (by refine Nat.le_trans (Nat.mul_le_mul (Nat.le_refl _) hby) ?_; first | omega | (simp; done) | (simp; omega) | (simp only [Cmd.s_kind, Cmd.s_dir, Cmd.s_item, Cmd.s_box, Cmd.s_who, Cmd.s_gives, Cmd.s_pay, Cmd.s_wants, Cmd.s_fee]; simp; omega) | (simp at *; omega))
      · exact (by unfold maxLen; first | omega | (simp; done) | (simp; omega) | (simp only [Cmd.s_kind, Cmd.s_dir, Cmd.s_item, Cmd.s_box, Cmd.s_who, Cmd.s_gives, Cmd.s_pay, Cmd.s_wants, Cmd.s_fee]; simp; omega) | (simp at *; omega))
      clear htyi hby
      refine SL.op (OpT.plain rfl (OpOk.nilCheck (Typ.tmp rfl))) rfl rfl ?_
      refine SL.learnRow (i := 2) rfl fun hone => ?_
      refine SL.opW (OpW.storeOwn tyr (RowF.L RowF.wants) (i := 0) rfl rfl (Typ.tmp rfl) (Typ.toRaw hone rfl)) ?_
      refine SL.nil ?_
      refine SK.code ?_
      refine SC.region ?_
      refine SL.op (OpT.plain rfl (OpOk.move (Typ.tmp rfl))) rfl rfl ?_
      refine SL.op (OpT.plain rfl (OpOk.cutList Tryz.underlying22 ty_9 (Typ.tmp rfl) (Lo.s Typ.cint) Lo.z (by first | omega | (simp only [decide_eq_true_eq, decide_eq_false_iff_not] at *; omega) | (simp at *; omega)) (by first | omega | (simp only [decide_eq_true_eq, decide_eq_false_iff_not] at *; omega) | (simp at *; omega)) (by first | omega | (simp only [decide_eq_true_eq, decide_eq_false_iff_not] at *; omega) | (simp at *; omega)))) rfl rfl ?_
      refine SL.op (OpT.plain rfl (OpOk.assign (Typ.tmp rfl))) rfl rfl ?_
      refine SL.nil ?_
      refine SK.blk ?_
      refine SK.roundK ((rest1 ws, acc ++ [(numT (nth ws 0)).1], v3)) (by rw [rest1_eq]; simp; omega) (hs.step (by assumption) (by assumption)) (by simp [cmdOwn, rawC, Cmd.s_wants, RowF.set, CmdR.s_wants]) rfl (Subs.eq rfl (by first | rfl | omega | (simp; done) | (simp_all; done) | (simp_all; omega)) Subs.nil)
  · skip
    try simp only [decide_eq_true_eq, decide_eq_false_iff_not, Bool.and_eq_true, Bool.or_eq_true, Bool.not_eq_true', Bool.not_eq_false', Bool.and_eq_false_iff, Bool.or_eq_false_iff, Bool.not_not, Bool.not_true, Bool.not_false, ne_eq, Classical.not_not, Decidable.not_not] at h1
    refine SC.exit rfl ?_
    refine SK.code ?_
    refine SC.seq ?_
    refine SC.region ?_
    refine SL.op (OpT.plain rfl (OpOk.move (Typ.tmp rfl))) rfl rfl ?_
    refine SL.op (OpT.plain rfl (OpOk.assign (Typ.tmp rfl))) rfl rfl ?_
    refine SL.op (OpT.plain rfl (OpOk.assign Typ.cbool)) rfl rfl ?_
    refine SL.nil ?_
    refine SK.code ?_
    refine SC.ret ?_
    exact SR.twoD rfl (by exact post_eq ⟨_, _, rfl⟩ (by rw [run_row hs (by first | (left; simp_all; done) | (right; simp_all; done))]; rfl)) (ResT.eq rfl (by (rw [run_row hs (by first | (left; simp_all; done) | (right; simp_all; done))]))) (ResT.eq rfl (by (rw [run_row hs (by first | (left; simp_all; done) | (right; simp_all; done))])))

theorem spec_part (b : Nat) (c : Cmd) (v1 v2 : Value) (p : Part) (l : List Str) (hp : p ≠ .nil) (hl : ∀ x, x ∈ l → x.length ≤ 281474976710656) (h1 : c.gives.length + l.length ≤ 1000000) (h2 : c.wants.length + l.length ≤ 1000000) :
    CalleeD Tryz.prog glob (V p) (cmdOwn 29 3 b c v1 v2) [VP.ptr b 0, V l] (cmdPost 29 3 b (partRun p c l).1) (.tup [V (partRun p c l).2.1, V (partRun p c l).2.2]) := by
  intro m v hI hv
  have h := V_part hv
  cases p with
  | nil => exact absurd rfl hp
  | way => exact ⟨_, [], [], h, Tryz.call90, trivial, s_line_way b c v1 v2 l⟩
  | num f =>
    obtain ⟨bb, off, h, hat⟩ := h
    exact ⟨_, [_], [VP.ref f.fn], h, Tryz.call116, ⟨⟨bb, off, rfl, hat⟩, trivial⟩, s_line_number_1 b c v1 v2 l f hl⟩
  | word w =>
    obtain ⟨bb, off, h, hat⟩ := h
    exact ⟨_, [_], [VP.ref w], h, Tryz.call118, ⟨⟨bb, off, rfl, hat⟩, trivial⟩, s_line_word_1 b c v1 v2 l w⟩
  | row f =>
    obtain ⟨bb, off, h, hat⟩ := h
    cases f with
    | gives => exact ⟨_, [_], [VP.ref (RowF.fn RowF.gives)], h, Tryz.call119, ⟨⟨bb, off, rfl, hat⟩, trivial⟩, s_row_1_gives b c v1 v2 l hl h1⟩
    | wants => exact ⟨_, [_], [VP.ref (RowF.fn RowF.wants)], h, Tryz.call119, ⟨⟨bb, off, rfl, hat⟩, trivial⟩, s_row_1_wants b c v1 v2 l hl h2⟩
end Go.Proofs.YtgnblhmejecgfaaGreatDoor
