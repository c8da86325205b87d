/- Layer 3: whether a command may be. -/
import Derived.Test.YtgnblhmejecgfaaGreatDoorV4
set_option linter.all false

namespace Go.Proofs.YtgnblhmejecgfaaGreatDoor
open Go Go.RowKit Go.Inn
set_option linter.unusedSimpArgs false
set_option linter.unusedVariables false
set_option maxRecDepth 100000
theorem callee_clo {P : Program} {I : GI} {f : FuncId} {cps ps : List VP} {r : VP} (hc : ∀ (args : Array Value) (w : World), (callFunc f args).run P w = .ok (.enter f args) w) (h : FnSpec P I f (ps ++ cps) r) : CalleeF P I (.clo f cps) ps r :=
  fun m v _ ⟨cs, e, ha⟩ => ⟨f, cs, cps, e, hc, ha, h⟩

/-! slices.Equal[[]int,int] -/
theorem s_Equal_int (xs ys : List Int) : FnSpec Tryz.prog glob 64 [V xs, V ys] (V (decide (xs = ys))) := by
  refine FnSpec.enter Tryz.func64 rfl rfl rfl fun m0 w0 => ?_
  refine SC.learnList (t := 0) rfl fun hp0 => ?_
  refine SC.learnList (t := 1) rfl fun hp1 => ?_
  refine SC.seq ?_
  refine SC.region ?_
  refine SL.op (OpT.plain rfl (OpOk.assign Typ.cbool)) rfl rfl ?_
  refine SL.nil ?_
  refine SK.code ?_
  refine SC.seq ?_
  refine SC.seq ?_
  refine SC.region ?_
  refine SL.op (OpT.plain rfl (OpOk.move (Typ.tmp rfl))) rfl rfl ?_
  refine SL.op (OpT.plain rfl (OpOk.lenList Tryz.underlying27 (Typ.tmp rfl))) rfl rfl ?_
  refine SL.op (OpT.plain rfl (OpOk.move (Typ.tmp rfl))) rfl rfl ?_
  refine SL.op (OpT.plain rfl (OpOk.lenList Tryz.underlying27 (Typ.tmp rfl))) rfl rfl ?_
  refine SL.op (OpT.plain rfl (OpOk.neq (Typ.tmp rfl) (Typ.tmp rfl))) rfl rfl ?_
  refine SL.nil ?_
  refine SK.code ?_
  refine SC.cond rfl (fun _ _ h => V_bool h) (fun h1 => ?_) (fun h1 => ?_)
  · skip
    try simp only [decide_eq_true_eq, decide_eq_false_iff_not, Bool.and_eq_true, Bool.or_eq_true, Bool.not_eq_true', Bool.not_eq_false', Bool.and_eq_false_iff, Bool.or_eq_false_iff, Bool.not_not, Bool.not_true, Bool.not_false, ne_eq, Classical.not_not, Decidable.not_not] at h1
    refine SC.seq ?_
    refine SC.region ?_
    refine SL.op (OpT.plain rfl (OpOk.assign Typ.cbool)) rfl rfl ?_
    refine SL.nil ?_
    refine SK.code ?_
    refine SC.ret ?_
    exact SR.one rfl (ResT.eq rfl (by first | (exact (decide_eq_true (eq_done hs (by omega))).symm) | (exact (decide_eq_false (fun e => by subst e; simp_all)).symm) | rfl | (simp_all []; done) | (simp_all []; rfl) | (simp_all []; omega)))
  · skip
    try simp only [decide_eq_true_eq, decide_eq_false_iff_not, Bool.and_eq_true, Bool.or_eq_true, Bool.not_eq_true', Bool.not_eq_false', Bool.and_eq_false_iff, Bool.or_eq_false_iff, Bool.not_not, Bool.not_true, Bool.not_false, ne_eq, Classical.not_not, Decidable.not_not] at h1
    refine SC.skip ?_
    refine SK.code ?_
    refine SC.seq ?_
    refine SC.seq ?_
    refine SC.region ?_
    refine SL.op (OpT.plain rfl (OpOk.move (Typ.tmp rfl))) rfl rfl ?_
    refine SL.op (OpT.plain rfl (OpOk.lenList Tryz.underlying27 (Typ.tmp rfl))) rfl rfl ?_
    refine SL.op (OpT.plain rfl (OpOk.move Typ.cint)) rfl rfl ?_
    refine SL.nil ?_
    refine SK.code ?_
    refine SC.block ?_
    refine SC.loopK (σ := Nat) [0, 1, 12] (fun i => [(13, V (i : Int))]) (fun i Δ => Δ) (fun i => xs.length - i) (fun i => i ≤ xs.length ∧ xs.length = ys.length ∧ xs.take i = ys.take i) (0) ⟨by omega, by omega, by simp⟩ rfl (Subs.eq rfl (by first | rfl | omega | (simp; done) | (simp_all; done) | (simp_all; omega)) Subs.nil) (fun i hs => ?_)
    have h1 := hs.1
    have h2 := hs.2.1
    refine SC.seq ?_
    refine SC.region ?_
    refine SL.op (OpT.plain rfl (OpOk.lss (Typ.tmp rfl) (Typ.tmp rfl))) rfl rfl ?_
    refine SL.nil ?_
    refine SK.code ?_
    refine SC.seq ?_
    refine SC.cond rfl (fun _ _ h => V_bool h) (fun h2 => ?_) (fun h2 => ?_)
    · skip
      try simp only [decide_eq_true_eq, decide_eq_false_iff_not, Bool.and_eq_true, Bool.or_eq_true, Bool.not_eq_true', Bool.not_eq_false', Bool.and_eq_false_iff, Bool.or_eq_false_iff, Bool.not_not, Bool.not_true, Bool.not_false, ne_eq, Classical.not_not, Decidable.not_not] at h2
      refine SC.skip ?_
      refine SK.code ?_
      refine SC.seq ?_
      refine SC.block ?_
      refine SC.seq ?_
      refine SC.region ?_
      refine SL.op (OpT.plain rfl (OpOk.move (Typ.tmp rfl))) rfl rfl ?_
      refine SL.op (OpT.plain rfl (OpOk.assign (Typ.tmp rfl))) rfl rfl ?_
      refine SL.nil ?_
      refine SK.code ?_
      refine SC.seq ?_
      refine DR.start ?_
      refine DR.op (fun _ => (OpT.plain rfl (OpOk.move (Typ.tmp rfl)))) rfl rfl ?_
      refine DR.op (fun _ => (OpT.plain rfl (OpOk.move (Typ.tmp rfl)))) rfl rfl ?_
      refine DR.op (fun _ => (OpT.plain rfl (OpOk.indexAddr Tryz.underlying27 ty_3 (Typ.tmp rfl) (Typ.tmp rfl) (by first | omega | (simp only [decide_eq_true_eq, decide_eq_false_iff_not] at *; omega) | (simp at *; omega)) (by first | omega | (simp only [decide_eq_true_eq, decide_eq_false_iff_not] at *; omega) | (simp at *; omega))))) rfl rfl ?_
      refine DR.op (fun _ => (OpT.plain rfl (OpOk.loadRef ty_3 (Typ.tmp rfl)))) rfl rfl ?_
      refine DR.op (fun _ => (OpT.plain rfl (OpOk.move (Typ.tmp rfl)))) rfl rfl ?_
      refine DR.op (fun _ => (OpT.plain rfl (OpOk.move (Typ.tmp rfl)))) rfl rfl ?_
      refine DR.op (fun _ => (OpT.plain rfl (OpOk.indexAddr Tryz.underlying27 ty_3 (Typ.tmp rfl) (Typ.tmp rfl) (by first | omega | (simp only [decide_eq_true_eq, decide_eq_false_iff_not] at *; omega) | (simp at *; omega)) (by first | omega | (simp only [decide_eq_true_eq, decide_eq_false_iff_not] at *; omega) | (simp at *; omega))))) rfl rfl ?_
      refine DR.op (fun _ => (OpT.plain rfl (OpOk.loadRef ty_3 (Typ.tmp rfl)))) rfl rfl ?_
      refine DR.op (fun _ => (OpT.plain rfl (OpOk.neq (Typ.tmp rfl) (Typ.tmp rfl)))) rfl rfl ?_
      refine DR.tail rfl (by decide +kernel) (show dstBelow _ 26 = true by decide +kernel) rfl ?_
      refine SL.nil ?_
      refine SK.code ?_
      refine SC.cond rfl (fun _ _ h => V_bool h) (fun h3 => ?_) (fun h3 => ?_)
      · skip
        try simp only [decide_eq_true_eq, decide_eq_false_iff_not, Bool.and_eq_true, Bool.or_eq_true, Bool.not_eq_true', Bool.not_eq_false', Bool.and_eq_false_iff, Bool.or_eq_false_iff, Bool.not_not, Bool.not_true, Bool.not_false, ne_eq, Classical.not_not, Decidable.not_not] at h3
        refine SC.seq ?_
        refine SC.region ?_
        refine SL.op (OpT.plain rfl (OpOk.assign Typ.cbool)) rfl rfl ?_
        refine SL.nil ?_
        refine SK.code ?_
        refine SC.ret ?_
        exact SR.one rfl (ResT.eq rfl (by first | (exact (decide_eq_true (eq_done hs (by omega))).symm) | (exact (decide_eq_false (fun e => by subst e; simp_all)).symm) | rfl | (simp_all []; done) | (simp_all []; rfl) | (simp_all []; omega)))
      · skip
        try simp only [decide_eq_true_eq, decide_eq_false_iff_not, Bool.and_eq_true, Bool.or_eq_true, Bool.not_eq_true', Bool.not_eq_false', Bool.and_eq_false_iff, Bool.or_eq_false_iff, Bool.not_not, Bool.not_true, Bool.not_false, ne_eq, Classical.not_not, Decidable.not_not] at h3
        refine SC.skip ?_
        refine SK.blk ?_
        refine SK.code ?_
        refine SC.region ?_
        refine SL.op (OpT.plain rfl (OpOk.add (Typ.tmp rfl) Typ.cint (by unfold in64; first | omega | (simp at *; omega)))) rfl rfl ?_
        refine SL.op (OpT.plain rfl (OpOk.move (Typ.tmp rfl))) rfl rfl ?_
        refine SL.nil ?_
        refine SK.roundK (i + 1) (by first | omega | (simp only [decide_eq_true_eq, decide_eq_false_iff_not] at *; omega) | (simp at *; omega)) (eq_step hs (by assumption) (by simp_all)) rfl rfl (Subs.eq rfl (by first | rfl | omega | (simp; done) | (simp_all; done) | (simp_all; omega)) Subs.nil)
    · skip
      try simp only [decide_eq_true_eq, decide_eq_false_iff_not, Bool.and_eq_true, Bool.or_eq_true, Bool.not_eq_true', Bool.not_eq_false', Bool.and_eq_false_iff, Bool.or_eq_false_iff, Bool.not_not, Bool.not_true, Bool.not_false, ne_eq, Classical.not_not, Decidable.not_not] at h2
      refine SC.exit rfl ?_
      refine SK.code ?_
      refine SC.seq ?_
      refine SC.region ?_
      refine SL.op (OpT.plain rfl (OpOk.assign Typ.cbool)) rfl rfl ?_
      refine SL.nil ?_
      refine SK.code ?_
      refine SC.ret ?_
      exact SR.one rfl (ResT.eq rfl (by first | (exact (decide_eq_true (eq_done hs (by omega))).symm) | (exact (decide_eq_false (fun e => by subst e; simp_all)).symm) | rfl | (simp_all []; done) | (simp_all []; rfl) | (simp_all []; omega)))

/-! slices.IndexFunc[[]int,int] -/
theorem s_IndexFunc_int (p : Int → Bool) (xs : List Int) (f : FuncId) (cps : List VP) (hc : ∀ (args : Array Value) (w : World), (callFunc f args).run Tryz.prog w = .ok (.enter f args) w) (hf : ∀ x, FnSpec Tryz.prog glob f ([V x] ++ cps) (V (p x))) : FnSpec Tryz.prog glob 120 [V xs, .clo f cps] (V (idxF p xs)) := by
  refine FnSpec.enter Tryz.func120 rfl rfl rfl fun m0 w0 => ?_
  refine SC.learnList (t := 0) rfl fun hp0 => ?_
  refine SC.seq ?_
  refine SC.region ?_
  refine SL.op (OpT.plain rfl (OpOk.assign Typ.cint)) rfl rfl ?_
  refine SL.nil ?_
  refine SK.code ?_
  refine SC.seq ?_
  refine SC.seq ?_
  refine SC.region ?_
  refine SL.op (OpT.plain rfl (OpOk.move (Typ.tmp rfl))) rfl rfl ?_
  refine SL.op (OpT.plain rfl (OpOk.lenList Tryz.underlying27 (Typ.tmp rfl))) rfl rfl ?_
  refine SL.op (OpT.plain rfl (OpOk.move Typ.cint)) rfl rfl ?_
  refine SL.nil ?_
  refine SK.code ?_
  refine SC.block ?_
  refine SC.loopK (σ := Nat) [0, 1, 7] (fun i => [(8, V (i : Int))]) (fun i Δ => Δ) (fun i => xs.length - i) (fun i => IdxInv p xs i) (0) (IdxInv.zero p xs) rfl (Subs.eq rfl (by first | rfl | omega | (simp; done) | (simp_all; done) | (simp_all; omega)) Subs.nil) (fun i hs => ?_)
  have h1 := hs.le
  refine SC.seq ?_
  refine SC.region ?_
  refine SL.op (OpT.plain rfl (OpOk.lss (Typ.tmp rfl) (Typ.tmp rfl))) rfl rfl ?_
  refine SL.nil ?_
  refine SK.code ?_
  refine SC.seq ?_
  refine SC.cond rfl (fun _ _ h => V_bool h) (fun h1 => ?_) (fun h1 => ?_)
  · skip
    try simp only [decide_eq_true_eq, decide_eq_false_iff_not, Bool.and_eq_true, Bool.or_eq_true, Bool.not_eq_true', Bool.not_eq_false', Bool.and_eq_false_iff, Bool.or_eq_false_iff, Bool.not_not, Bool.not_true, Bool.not_false, ne_eq, Classical.not_not, Decidable.not_not] at h1
    refine SC.skip ?_
    refine SK.code ?_
    refine SC.seq ?_
    refine SC.block ?_
    refine SC.seq ?_
    refine SC.region ?_
    refine SL.op (OpT.plain rfl (OpOk.move (Typ.tmp rfl))) rfl rfl ?_
    refine SL.op (OpT.plain rfl (OpOk.assign (Typ.tmp rfl))) rfl rfl ?_
    refine SL.nil ?_
    refine SK.code ?_
    refine SC.seq ?_
    refine SC.region ?_
    refine SL.op (OpT.plain rfl (OpOk.move (Typ.tmp rfl))) rfl rfl ?_
    refine SL.op (OpT.plain rfl (OpOk.move (Typ.tmp rfl))) rfl rfl ?_
    refine SL.op (OpT.plain rfl (OpOk.move (Typ.tmp rfl))) rfl rfl ?_
    refine SL.op (OpT.plain rfl (OpOk.indexAddr Tryz.underlying27 ty_3 (Typ.tmp rfl) (Typ.tmp rfl) (by first | omega | (simp only [decide_eq_true_eq, decide_eq_false_iff_not] at *; omega) | (simp at *; omega)) (by first | omega | (simp only [decide_eq_true_eq, decide_eq_false_iff_not] at *; omega) | (simp at *; omega)))) rfl rfl ?_
    refine SL.op (OpT.plain rfl (OpOk.loadRef ty_3 (Typ.tmp rfl))) rfl rfl ?_
    refine SL.op (OpT.plain rfl (OpOk.callV (callee_clo hc (hf _)) (Typ.tmp rfl) (Typs.cons (Typ.tmp rfl) Typs.nil))) rfl rfl ?_
    refine SL.nil ?_
    refine SK.code ?_
    refine SC.cond rfl (fun _ _ h => V_bool h) (fun h2 => ?_) (fun h2 => ?_)
    · skip
      try simp only [decide_eq_true_eq, decide_eq_false_iff_not, Bool.and_eq_true, Bool.or_eq_true, Bool.not_eq_true', Bool.not_eq_false', Bool.and_eq_false_iff, Bool.or_eq_false_iff, Bool.not_not, Bool.not_true, Bool.not_false, ne_eq, Classical.not_not, Decidable.not_not] at h2
      refine SC.seq ?_
      refine SC.region ?_
      refine SL.op (OpT.plain rfl (OpOk.move (Typ.tmp rfl))) rfl rfl ?_
      refine SL.op (OpT.plain rfl (OpOk.assign (Typ.tmp rfl))) rfl rfl ?_
      refine SL.nil ?_
      refine SK.code ?_
      refine SC.ret ?_
      exact SR.one rfl (ResT.eq rfl (by first | (exact (hs.hit (by assumption) (by assumption)).symm) | (exact (hs.done (by assumption)).symm) | rfl | (simp_all []; done) | (simp_all []; rfl) | (simp_all []; omega)))
    · skip
      try simp only [decide_eq_true_eq, decide_eq_false_iff_not, Bool.and_eq_true, Bool.or_eq_true, Bool.not_eq_true', Bool.not_eq_false', Bool.and_eq_false_iff, Bool.or_eq_false_iff, Bool.not_not, Bool.not_true, Bool.not_false, ne_eq, Classical.not_not, Decidable.not_not] at h2
      refine SC.skip ?_
      refine SK.blk ?_
      refine SK.code ?_
      refine SC.region ?_
      refine SL.op (OpT.plain rfl (OpOk.add (Typ.tmp rfl) Typ.cint (by unfold in64; first | omega | (simp at *; omega)))) rfl rfl ?_
      refine SL.op (OpT.plain rfl (OpOk.move (Typ.tmp rfl))) rfl rfl ?_
      refine SL.nil ?_
      refine SK.roundK (i + 1) (by first | omega | (simp only [decide_eq_true_eq, decide_eq_false_iff_not] at *; omega) | (simp at *; omega)) (hs.step (by assumption) (by assumption)) rfl rfl (Subs.eq rfl (by first | rfl | omega | (simp; done) | (simp_all; done) | (simp_all; omega)) Subs.nil)
  · skip
    try simp only [decide_eq_true_eq, decide_eq_false_iff_not, Bool.and_eq_true, Bool.or_eq_true, Bool.not_eq_true', Bool.not_eq_false', Bool.and_eq_false_iff, Bool.or_eq_false_iff, Bool.not_not, Bool.not_true, Bool.not_false, ne_eq, Classical.not_not, Decidable.not_not] at h1
    refine SC.exit rfl ?_
    refine SK.code ?_
    refine SC.seq ?_
    refine SC.region ?_
    refine SL.op (OpT.plain rfl (OpOk.assign Typ.cint)) rfl rfl ?_
    refine SL.nil ?_
    refine SK.code ?_
    refine SC.ret ?_
    exact SR.one rfl (ResT.eq rfl (by first | (exact (hs.hit (by assumption) (by assumption)).symm) | (exact (hs.done (by assumption)).symm) | rfl | (simp_all []; done) | (simp_all []; rfl) | (simp_all []; omega)))

/-! slices.ContainsFunc[[]int,int] -/
theorem s_ContainsFunc_int (p : Int → Bool) (xs : List Int) (f : FuncId) (cps : List VP) (hc : ∀ (args : Array Value) (w : World), (callFunc f args).run Tryz.prog w = .ok (.enter f args) w) (hf : ∀ x, FnSpec Tryz.prog glob f ([V x] ++ cps) (V (p x))) : FnSpec Tryz.prog glob 107 [V xs, .clo f cps] (V (xs.any p)) := by
  refine FnSpec.enter Tryz.func107 rfl rfl rfl fun m0 w0 => ?_
  refine SC.learnList (t := 0) rfl fun hp0 => ?_
  refine SC.seq ?_
  refine SC.region ?_
  refine SL.op (OpT.plain rfl (OpOk.assign Typ.cbool)) rfl rfl ?_
  refine SL.nil ?_
  refine SK.code ?_
  refine SC.seq ?_
  refine SC.region ?_
  refine SL.op (OpT.plain rfl (OpOk.move (Typ.tmp rfl))) rfl rfl ?_
  refine SL.op (OpT.plain rfl (OpOk.move (Typ.tmp rfl))) rfl rfl ?_
  refine SL.op (OpT.plain rfl (OpOk.call Tryz.call120 Typ.fn (Typs.cons (Typ.tmp rfl) (Typs.cons (Typ.tmp rfl) Typs.nil)) (s_IndexFunc_int p xs f cps hc hf))) rfl rfl ?_
  refine SL.op (OpT.plain rfl (OpOk.geq (Typ.tmp rfl) Typ.cint)) rfl rfl ?_
  refine SL.op (OpT.plain rfl (OpOk.assign (Typ.tmp rfl))) rfl rfl ?_
  refine SL.nil ?_
  refine SK.code ?_
  refine SC.ret ?_
  exact SR.one rfl (ResT.eq rfl (by first | (exact idxF_any p xs) | rfl | (simp_all []; done) | (simp_all []; rfl) | (simp_all []; omega)))

/-! innkeep/cmd.row$1 -/
theorem s_cmd_row_1 (n : Int) : FnSpec Tryz.prog glob 108 [V n] (V (!fitB n)) := by
  refine FnSpec.enter Tryz.func108 rfl rfl rfl fun m0 w0 => ?_
  refine SC.learnInt (t := 0) rfl fun hp0 => ?_
  refine SC.seq ?_
  refine SC.region ?_
  refine SL.op (OpT.plain rfl (OpOk.assign Typ.cbool)) rfl rfl ?_
  refine SL.nil ?_
  refine SK.code ?_
  refine SC.seq ?_
  refine SC.region ?_
  refine SL.op (OpT.plain rfl (OpOk.move (Typ.tmp rfl))) rfl rfl ?_
  refine SL.op (OpT.plain rfl (OpOk.call Tryz.call82 Typ.fn (Typs.cons (Typ.tmp rfl) Typs.nil) (s_cmd_fit _))) rfl rfl ?_
  refine SL.op (OpT.plain rfl (OpOk.not (Typ.tmp rfl))) rfl rfl ?_
  refine SL.op (OpT.plain rfl (OpOk.assign (Typ.tmp rfl))) rfl rfl ?_
  refine SL.nil ?_
  refine SK.code ?_
  refine SC.ret ?_
  exact SR.one rfl (ResT.eq rfl (by first | rfl | (simp_all []; done) | (simp_all []; rfl) | (simp_all []; omega)))

/-! innkeep/cmd.row -/
theorem s_cmd_row (l : List Int) : FnSpec Tryz.prog glob 83 [V l] (V (rowB l)) := by
  refine FnSpec.enter Tryz.func83 rfl rfl rfl fun m0 w0 => ?_
  refine SC.learnList (t := 0) rfl fun hp0 => ?_
  refine SC.seq ?_
  refine SC.region ?_
  refine SL.op (OpT.plain rfl (OpOk.assign Typ.cbool)) rfl rfl ?_
  refine SL.nil ?_
  refine SK.code ?_
  refine SC.seq ?_
  refine SC.region ?_
  refine SL.op (OpT.plain rfl (OpOk.move (Typ.tmp rfl))) rfl rfl ?_
  refine SL.op (OpT.plain rfl (OpOk.lenList Tryz.underlying27 (Typ.tmp rfl))) rfl rfl ?_
  refine SL.op (OpT.plain rfl (OpOk.leq (Typ.tmp rfl) Typ.cint)) rfl rfl ?_
  refine SL.op (OpT.plain rfl (OpOk.move (Typ.tmp rfl))) rfl rfl ?_
  refine SL.op (OpT.guard rfl rfl rfl (fun _ _ h => V_bool h) (fun hg => OpOk.move (Typ.tmp rfl))) rfl rfl ?_
  refine SL.op (OpT.guard rfl rfl rfl (fun _ _ h => V_bool h) (fun hg => OpOk.call Tryz.call107 Typ.fn (Typs.cons (Typ.cond hg rfl) (Typs.cons Typ.fn Typs.nil)) (s_ContainsFunc_int (fun n => !fitB n) l _ [] Tryz.call108 (fun x => s_cmd_row_1 x)))) rfl rfl ?_
  refine SL.op (OpT.guard rfl rfl rfl (fun _ _ h => V_bool h) (fun hg => OpOk.not (Typ.cond hg rfl))) rfl rfl ?_
  refine SL.op (OpT.plain rfl (OpOk.pickAnd (Typ.tmp rfl) (fun hb => Typ.cond hb rfl))) rfl rfl ?_
  refine SL.op (OpT.plain rfl (OpOk.assign (Typ.tmp rfl))) rfl rfl ?_
  refine SL.nil ?_
  refine SK.code ?_
  refine SC.ret ?_
  exact SR.one rfl (ResT.eq rfl (by first | ((unfold rowB; rw [Bool.and_comm, any_not]; congr 1; rw [decide_eq_decide]; omega)) | rfl | (simp_all []; done) | (simp_all []; rfl) | (simp_all []; omega)))

/-! innkeep/cmd.Same -/
theorem s_cmd_Same (a b : Cmd) : FnSpec Tryz.prog glob 41 [V a, V b] (V (decide (a = b))) := by
  refine FnSpec.enter Tryz.func41 rfl rfl rfl fun m0 w0 => ?_
  refine SC.seq ?_
  refine SC.region ?_
  refine SL.op (OpT.plain rfl (OpOk.boxRef (Typ.tmp rfl))) rfl rfl ?_
  refine SL.op (OpT.plain rfl (OpOk.boxRef (Typ.tmp rfl))) rfl rfl ?_
  refine SL.op (OpT.plain rfl (OpOk.assign Typ.cbool)) rfl rfl ?_
  refine SL.nil ?_
  refine SK.code ?_
  refine SC.seq ?_
  refine DR.start ?_
  refine DR.op (fun _ => (OpT.plain rfl (OpOk.loadRef ty_29 (Typ.tmp rfl)))) rfl rfl ?_
  refine DR.op (fun _ => (OpT.plain rfl (OpOk.call Tryz.call63 Typ.fn (Typs.cons (Typ.tmp rfl) Typs.nil) (s_cmd_of _)))) rfl rfl ?_
  refine DR.op (fun _ => (OpT.plain rfl (OpOk.loadRef ty_29 (Typ.tmp rfl)))) rfl rfl ?_
  refine DR.op (fun _ => (OpT.plain rfl (OpOk.call Tryz.call63 Typ.fn (Typs.cons (Typ.tmp rfl) Typs.nil) (s_cmd_of _)))) rfl rfl ?_
  refine DR.op (fun _ => (OpT.plain rfl (OpOk.eqlT eqt_102 (by decide) rfl Tryz.eqGuardType102 (Typ.tmp rfl) (Typ.tmp rfl)))) rfl rfl ?_
  refine DR.op (fun _ => (OpT.plain rfl (OpOk.move (Typ.tmp rfl)))) rfl rfl ?_
  refine DR.op (fun _ => (OpT.guard rfl rfl rfl (fun _ _ h => V_bool h) (fun hg => OpOk.fieldAddrRef fld_29_5 (Typ.tmp rfl)))) rfl rfl ?_
  refine DR.op (fun _ => (OpT.guard rfl rfl rfl (fun _ _ h => V_bool h) (fun hg => OpOk.loadRef ty_27 (Typ.cond hg rfl)))) rfl rfl ?_
  refine DR.op (fun _ => (OpT.guard rfl rfl rfl (fun _ _ h => V_bool h) (fun hg => OpOk.fieldAddrRef fld_29_5 (Typ.tmp rfl)))) rfl rfl ?_
  refine DR.op (fun _ => (OpT.guard rfl rfl rfl (fun _ _ h => V_bool h) (fun hg => OpOk.loadRef ty_27 (Typ.cond hg rfl)))) rfl rfl ?_
  refine DR.op (fun _ => (OpT.guard rfl rfl rfl (fun _ _ h => V_bool h) (fun hg => OpOk.call Tryz.call64 Typ.fn (Typs.cons (Typ.cond hg rfl) (Typs.cons (Typ.cond hg rfl) Typs.nil)) (s_Equal_int _ _)))) rfl rfl ?_
  refine DR.op (fun _ => (OpT.plain rfl (OpOk.pickAnd (Typ.tmp rfl) (fun hb => Typ.cond hb rfl)))) rfl rfl ?_
  refine DR.op (fun _ => (OpT.plain rfl (OpOk.move (Typ.tmp rfl)))) rfl rfl ?_
  refine DR.op (fun _ => (OpT.guard rfl rfl rfl (fun _ _ h => V_bool h) (fun hg => OpOk.fieldAddrRef fld_29_7 (Typ.tmp rfl)))) rfl rfl ?_
  refine DR.op (fun _ => (OpT.guard rfl rfl rfl (fun _ _ h => V_bool h) (fun hg => OpOk.loadRef ty_27 (Typ.cond hg rfl)))) rfl rfl ?_
  refine DR.op (fun _ => (OpT.guard rfl rfl rfl (fun _ _ h => V_bool h) (fun hg => OpOk.fieldAddrRef fld_29_7 (Typ.tmp rfl)))) rfl rfl ?_
  refine DR.op (fun _ => (OpT.guard rfl rfl rfl (fun _ _ h => V_bool h) (fun hg => OpOk.loadRef ty_27 (Typ.cond hg rfl)))) rfl rfl ?_
  refine DR.op (fun _ => (OpT.guard rfl rfl rfl (fun _ _ h => V_bool h) (fun hg => OpOk.call Tryz.call64 Typ.fn (Typs.cons (Typ.cond hg rfl) (Typs.cons (Typ.cond hg rfl) Typs.nil)) (s_Equal_int _ _)))) rfl rfl ?_
  refine DR.op (fun _ => (OpT.plain rfl (OpOk.pickAnd (Typ.tmp rfl) (fun hb => Typ.cond hb rfl)))) rfl rfl ?_
  refine DR.tail rfl (by decide +kernel) (show dstBelow _ 24 = true by decide +kernel) rfl ?_
  refine SL.op (OpT.plain rfl (OpOk.assign (Typ.tmp rfl))) rfl rfl ?_
  refine SL.nil ?_
  refine SK.code ?_
  refine SC.ret ?_
  exact SR.one rfl (ResT.eq rfl (by first | ((rw [same_cmd])) | rfl | (simp_all []; done) | (simp_all []; rfl) | (simp_all []; omega)))

/-! innkeep/cmd.May -/
theorem s_cmd_May (c : Cmd) : FnSpec Tryz.prog glob 48 [V c] (V (mayC c)) := by
  refine FnSpec.enter Tryz.func48 rfl rfl rfl fun m0 w0 => ?_
  refine SC.seq ?_
  refine SC.region ?_
  refine SL.op (OpT.plain rfl (OpOk.boxRef (Typ.tmp rfl))) rfl rfl ?_
  refine SL.op (OpT.plain rfl (OpOk.assign Typ.cbool)) rfl rfl ?_
  refine SL.nil ?_
  refine SK.code ?_
  refine SC.seq ?_
  refine DR.start ?_
  refine DR.op (fun _ => (OpT.plain rfl (OpOk.fieldAddrRef fld_29_0 (Typ.tmp rfl)))) rfl rfl ?_
  refine DR.op (fun _ => (OpT.plain rfl (OpOk.loadRef ty_3 (Typ.tmp rfl)))) rfl rfl ?_
  refine DR.op (fun _ => (OpT.plain rfl (OpOk.call Tryz.call54 Typ.fn (Typs.cons (Typ.tmp rfl) Typs.nil) (s_cmd_Name _)))) rfl rfl ?_
  refine DR.op (fun _ => (OpT.plain rfl (OpOk.neqS (Typ.tmp rfl) (Typ.cstr (l := []))))) rfl rfl ?_
  refine DR.op (fun _ => (OpT.plain rfl (OpOk.move (Typ.tmp rfl)))) rfl rfl ?_
  refine DR.op (fun _ => (OpT.guard rfl rfl rfl (fun _ _ h => V_bool h) (fun hg => OpOk.loadRef ty_29 (Typ.tmp rfl)))) rfl rfl ?_
  refine DR.op (fun _ => (OpT.guard rfl rfl rfl (fun _ _ h => V_bool h) (fun hg => OpOk.loadRef ty_29 (Typ.tmp rfl)))) rfl rfl ?_
  refine DR.op (fun _ => (OpT.guard rfl rfl rfl (fun _ _ h => V_bool h) (fun hg => OpOk.call Tryz.call81 Typ.fn (Typs.cons (Typ.cond hg rfl) Typs.nil) (s_cmd_bare _)))) rfl rfl ?_
  refine DR.op (fun _ => (OpT.guard rfl rfl rfl (fun _ _ h => V_bool h) (fun hg => OpOk.call Tryz.call41 Typ.fn (Typs.cons (Typ.cond hg rfl) (Typs.cons (Typ.cond hg rfl) Typs.nil)) (s_cmd_Same _ _)))) rfl rfl ?_
  refine DR.op (fun _ => (OpT.plain rfl (OpOk.pickAnd (Typ.tmp rfl) (fun hb => Typ.cond hb rfl)))) rfl rfl ?_
  refine DR.op (fun _ => (OpT.plain rfl (OpOk.move (Typ.tmp rfl)))) rfl rfl ?_
  refine DR.op (fun _ => (OpT.guard rfl rfl rfl (fun _ _ h => V_bool h) (fun hg => OpOk.fieldAddrRef fld_29_1 (Typ.tmp rfl)))) rfl rfl ?_
  refine DR.op (fun _ => (OpT.guard rfl rfl rfl (fun _ _ h => V_bool h) (fun hg => OpOk.loadRef ty_3 (Typ.cond hg rfl)))) rfl rfl ?_
  refine DR.op (fun _ => (OpT.guard rfl rfl rfl (fun _ _ h => V_bool h) (fun hg => OpOk.call Tryz.call50 Typ.fn (Typs.cons (Typ.cond hg rfl) Typs.nil) (s_cmd_Way _)))) rfl rfl ?_
  refine DR.op (fun _ => (OpT.guard rfl rfl rfl (fun _ _ h => V_bool h) (fun hg => OpOk.neqS (Typ.cond hg rfl) (Typ.cstr (l := []))))) rfl rfl ?_
  refine DR.op (fun _ => (OpT.plain rfl (OpOk.pickAnd (Typ.tmp rfl) (fun hb => Typ.cond hb rfl)))) rfl rfl ?_
  refine DR.op (fun _ => (OpT.plain rfl (OpOk.move (Typ.tmp rfl)))) rfl rfl ?_
  refine DR.op (fun _ => (OpT.guard rfl rfl rfl (fun _ _ h => V_bool h) (fun hg => OpOk.fieldAddrRef fld_29_2 (Typ.tmp rfl)))) rfl rfl ?_
  refine DR.op (fun _ => (OpT.guard rfl rfl rfl (fun _ _ h => V_bool h) (fun hg => OpOk.loadRef ty_3 (Typ.cond hg rfl)))) rfl rfl ?_
  refine DR.op (fun _ => (OpT.guard rfl rfl rfl (fun _ _ h => V_bool h) (fun hg => OpOk.call Tryz.call82 Typ.fn (Typs.cons (Typ.cond hg rfl) Typs.nil) (s_cmd_fit _)))) rfl rfl ?_
  refine DR.op (fun _ => (OpT.plain rfl (OpOk.pickAnd (Typ.tmp rfl) (fun hb => Typ.cond hb rfl)))) rfl rfl ?_
  refine DR.op (fun _ => (OpT.plain rfl (OpOk.move (Typ.tmp rfl)))) rfl rfl ?_
  refine DR.op (fun _ => (OpT.guard rfl rfl rfl (fun _ _ h => V_bool h) (fun hg => OpOk.fieldAddrRef fld_29_3 (Typ.tmp rfl)))) rfl rfl ?_
  refine DR.op (fun _ => (OpT.guard rfl rfl rfl (fun _ _ h => V_bool h) (fun hg => OpOk.loadRef ty_3 (Typ.cond hg rfl)))) rfl rfl ?_
  refine DR.op (fun _ => (OpT.guard rfl rfl rfl (fun _ _ h => V_bool h) (fun hg => OpOk.call Tryz.call82 Typ.fn (Typs.cons (Typ.cond hg rfl) Typs.nil) (s_cmd_fit _)))) rfl rfl ?_
  refine DR.op (fun _ => (OpT.plain rfl (OpOk.pickAnd (Typ.tmp rfl) (fun hb => Typ.cond hb rfl)))) rfl rfl ?_
  refine DR.op (fun _ => (OpT.plain rfl (OpOk.move (Typ.tmp rfl)))) rfl rfl ?_
  refine DR.op (fun _ => (OpT.guard rfl rfl rfl (fun _ _ h => V_bool h) (fun hg => OpOk.fieldAddrRef fld_29_4 (Typ.tmp rfl)))) rfl rfl ?_
  refine DR.op (fun _ => (OpT.guard rfl rfl rfl (fun _ _ h => V_bool h) (fun hg => OpOk.loadRef ty_3 (Typ.cond hg rfl)))) rfl rfl ?_
  refine DR.op (fun _ => (OpT.guard rfl rfl rfl (fun _ _ h => V_bool h) (fun hg => OpOk.call Tryz.call82 Typ.fn (Typs.cons (Typ.cond hg rfl) Typs.nil) (s_cmd_fit _)))) rfl rfl ?_
  refine DR.op (fun _ => (OpT.plain rfl (OpOk.pickAnd (Typ.tmp rfl) (fun hb => Typ.cond hb rfl)))) rfl rfl ?_
  refine DR.op (fun _ => (OpT.plain rfl (OpOk.move (Typ.tmp rfl)))) rfl rfl ?_
  refine DR.op (fun _ => (OpT.guard rfl rfl rfl (fun _ _ h => V_bool h) (fun hg => OpOk.fieldAddrRef fld_29_6 (Typ.tmp rfl)))) rfl rfl ?_
  refine DR.op (fun _ => (OpT.guard rfl rfl rfl (fun _ _ h => V_bool h) (fun hg => OpOk.loadRef ty_3 (Typ.cond hg rfl)))) rfl rfl ?_
  refine DR.op (fun _ => (OpT.guard rfl rfl rfl (fun _ _ h => V_bool h) (fun hg => OpOk.call Tryz.call82 Typ.fn (Typs.cons (Typ.cond hg rfl) Typs.nil) (s_cmd_fit _)))) rfl rfl ?_
  refine DR.op (fun _ => (OpT.plain rfl (OpOk.pickAnd (Typ.tmp rfl) (fun hb => Typ.cond hb rfl)))) rfl rfl ?_
  refine DR.op (fun _ => (OpT.plain rfl (OpOk.move (Typ.tmp rfl)))) rfl rfl ?_
  refine DR.op (fun _ => (OpT.guard rfl rfl rfl (fun _ _ h => V_bool h) (fun hg => OpOk.fieldAddrRef fld_29_8 (Typ.tmp rfl)))) rfl rfl ?_
  refine DR.op (fun _ => (OpT.guard rfl rfl rfl (fun _ _ h => V_bool h) (fun hg => OpOk.loadRef ty_3 (Typ.cond hg rfl)))) rfl rfl ?_
  refine DR.op (fun _ => (OpT.guard rfl rfl rfl (fun _ _ h => V_bool h) (fun hg => OpOk.call Tryz.call82 Typ.fn (Typs.cons (Typ.cond hg rfl) Typs.nil) (s_cmd_fit _)))) rfl rfl ?_
  refine DR.op (fun _ => (OpT.plain rfl (OpOk.pickAnd (Typ.tmp rfl) (fun hb => Typ.cond hb rfl)))) rfl rfl ?_
  refine DR.op (fun _ => (OpT.plain rfl (OpOk.move (Typ.tmp rfl)))) rfl rfl ?_
  refine DR.op (fun _ => (OpT.guard rfl rfl rfl (fun _ _ h => V_bool h) (fun hg => OpOk.fieldAddrRef fld_29_5 (Typ.tmp rfl)))) rfl rfl ?_
  refine DR.op (fun _ => (OpT.guard rfl rfl rfl (fun _ _ h => V_bool h) (fun hg => OpOk.loadRef ty_27 (Typ.cond hg rfl)))) rfl rfl ?_
  refine DR.op (fun _ => (OpT.guard rfl rfl rfl (fun _ _ h => V_bool h) (fun hg => OpOk.call Tryz.call83 Typ.fn (Typs.cons (Typ.cond hg rfl) Typs.nil) (s_cmd_row _)))) rfl rfl ?_
  refine DR.op (fun _ => (OpT.plain rfl (OpOk.pickAnd (Typ.tmp rfl) (fun hb => Typ.cond hb rfl)))) rfl rfl ?_
  refine DR.op (fun _ => (OpT.plain rfl (OpOk.move (Typ.tmp rfl)))) rfl rfl ?_
  refine DR.op (fun _ => (OpT.guard rfl rfl rfl (fun _ _ h => V_bool h) (fun hg => OpOk.fieldAddrRef fld_29_7 (Typ.tmp rfl)))) rfl rfl ?_
  refine DR.op (fun _ => (OpT.guard rfl rfl rfl (fun _ _ h => V_bool h) (fun hg => OpOk.loadRef ty_27 (Typ.cond hg rfl)))) rfl rfl ?_
  refine DR.op (fun _ => (OpT.guard rfl rfl rfl (fun _ _ h => V_bool h) (fun hg => OpOk.call Tryz.call83 Typ.fn (Typs.cons (Typ.cond hg rfl) Typs.nil) (s_cmd_row _)))) rfl rfl ?_
  refine DR.op (fun _ => (OpT.plain rfl (OpOk.pickAnd (Typ.tmp rfl) (fun hb => Typ.cond hb rfl)))) rfl rfl ?_
  refine DR.tail rfl (by decide +kernel) (show dstBelow _ 54 = true by decide +kernel) rfl ?_
  refine SL.op (OpT.plain rfl (OpOk.assign (Typ.tmp rfl))) rfl rfl ?_
  refine SL.nil ?_
  refine SK.code ?_
  refine SC.ret ?_
  exact SR.one rfl (ResT.eq rfl (by first | rfl | (simp_all [mayC]; done) | (simp_all [mayC]; rfl) | (simp_all [mayC]; omega)))
end Go.Proofs.YtgnblhmejecgfaaGreatDoor
