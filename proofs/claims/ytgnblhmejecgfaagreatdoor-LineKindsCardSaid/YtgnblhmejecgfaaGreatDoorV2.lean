/- The document's own answers of layers 2 and 3: what each function computes. -/
import Derived.Test.YtgnblhmejecgfaaGreatDoorV1
set_option linter.all false

namespace Go.Proofs.YtgnblhmejecgfaaGreatDoor
open Go Go.RowKit Go.Inn
set_option linter.unusedSimpArgs false
set_option linter.unusedVariables false
set_option maxRecDepth 100000
/-! innkeep/innkeepref02.Same -/
theorem s_innkeepref02_Same (xs ys : List Str) : FnSpec Tryz.prog glob 35 [V xs, V ys] (V (decide (xs = ys))) := by
  refine FnSpec.enter Tryz.func35 rfl rfl rfl fun m0 w0 => ?_
  refine SC.learnList (t := 0) rfl fun hp0 => ?_
  refine SC.learnList (t := 1) rfl fun hp1 => ?_
  refine SC.seq ?_
  refine SC.region ?_
  refine SL.op (OpT.plain rfl (OpOk.assign Typ.cbool)) rfl rfl ?_
  refine SL.nil ?_
  refine SK.code ?_
  refine SC.seq ?_
  refine SC.seq ?_
  refine SC.region ?_
  refine SL.op (OpT.plain rfl (OpOk.move (Typ.tmp rfl))) rfl rfl ?_
  refine SL.op (OpT.plain rfl (OpOk.lenList Tryz.underlying22 (Typ.tmp rfl))) rfl rfl ?_
  refine SL.op (OpT.plain rfl (OpOk.move (Typ.tmp rfl))) rfl rfl ?_
  refine SL.op (OpT.plain rfl (OpOk.lenList Tryz.underlying22 (Typ.tmp rfl))) rfl rfl ?_
  refine SL.op (OpT.plain rfl (OpOk.neq (Typ.tmp rfl) (Typ.tmp rfl))) rfl rfl ?_
  refine SL.nil ?_
  refine SK.code ?_
  refine SC.cond rfl (fun _ _ h => V_bool h) (fun h1 => ?_) (fun h1 => ?_)
  · skip
    try simp only [decide_eq_true_eq, decide_eq_false_iff_not, Bool.and_eq_true, Bool.or_eq_true, Bool.not_eq_true', Bool.not_eq_false', Bool.and_eq_false_iff, Bool.or_eq_false_iff, Bool.not_not, Bool.not_true, Bool.not_false, ne_eq, Classical.not_not, Decidable.not_not] at h1
    refine SC.seq ?_
    refine SC.region ?_
    refine SL.op (OpT.plain rfl (OpOk.assign Typ.cbool)) rfl rfl ?_
    refine SL.nil ?_
    refine SK.code ?_
    refine SC.ret ?_
    exact SR.one rfl (ResT.eq rfl (by first | (exact (decide_eq_true (eq_done hs (by omega))).symm) | (exact (decide_eq_false (fun e => by subst e; simp_all)).symm) | rfl | (simp_all []; done) | (simp_all []; rfl) | (simp_all []; omega)))
  · skip
    try simp only [decide_eq_true_eq, decide_eq_false_iff_not, Bool.and_eq_true, Bool.or_eq_true, Bool.not_eq_true', Bool.not_eq_false', Bool.and_eq_false_iff, Bool.or_eq_false_iff, Bool.not_not, Bool.not_true, Bool.not_false, ne_eq, Classical.not_not, Decidable.not_not] at h1
    refine SC.skip ?_
    refine SK.code ?_
    refine SC.seq ?_
    refine SC.seq ?_
    refine SC.region ?_
    refine SL.op (OpT.plain rfl (OpOk.assign Typ.cint)) rfl rfl ?_
    refine SL.nil ?_
    refine SK.code ?_
    refine SC.block ?_
    refine SC.loopK (σ := Nat) [0, 1] (fun i => [(5, V (i : Int))]) (fun i Δ => Δ) (fun i => xs.length - i) (fun i => i ≤ xs.length ∧ xs.length = ys.length ∧ xs.take i = ys.take i) (0) ⟨by omega, by omega, by simp⟩ rfl (Subs.eq rfl (by first | rfl | omega | (simp; done) | (simp_all; done) | (simp_all; omega)) Subs.nil) (fun i hs => ?_)
    have h1 := hs.1
    have h2 := hs.2.1
    refine SC.seq ?_
    refine SC.seq ?_
    refine SC.region ?_
    refine SL.op (OpT.plain rfl (OpOk.move (Typ.tmp rfl))) rfl rfl ?_
    refine SL.op (OpT.plain rfl (OpOk.move (Typ.tmp rfl))) rfl rfl ?_
    refine SL.op (OpT.plain rfl (OpOk.lenList Tryz.underlying22 (Typ.tmp rfl))) rfl rfl ?_
    refine SL.op (OpT.plain rfl (OpOk.lss (Typ.tmp rfl) (Typ.tmp rfl))) rfl rfl ?_
    refine SL.nil ?_
    refine SK.code ?_
    refine SC.cond rfl (fun _ _ h => V_bool h) (fun h2 => ?_) (fun h2 => ?_)
    · skip
      try simp only [decide_eq_true_eq, decide_eq_false_iff_not, Bool.and_eq_true, Bool.or_eq_true, Bool.not_eq_true', Bool.not_eq_false', Bool.and_eq_false_iff, Bool.or_eq_false_iff, Bool.not_not, Bool.not_true, Bool.not_false, ne_eq, Classical.not_not, Decidable.not_not] at h2
      refine SC.skip ?_
      refine SK.code ?_
      refine SC.seq ?_
      refine SC.block ?_
      refine SC.seq ?_
      refine DR.start ?_
      refine DR.op (fun _ => (OpT.plain rfl (OpOk.move (Typ.tmp rfl)))) rfl rfl ?_
      refine DR.op (fun _ => (OpT.plain rfl (OpOk.move (Typ.tmp rfl)))) rfl rfl ?_
      refine DR.op (fun _ => (OpT.plain rfl (OpOk.indexAddr Tryz.underlying22 ty_9 (Typ.tmp rfl) (Typ.tmp rfl) (by first | omega | (simp only [decide_eq_true_eq, decide_eq_false_iff_not] at *; omega) | (simp at *; omega)) (by first | omega | (simp only [decide_eq_true_eq, decide_eq_false_iff_not] at *; omega) | (simp at *; omega))))) rfl rfl ?_
      refine DR.op (fun _ => (OpT.plain rfl (OpOk.loadRef ty_9 (Typ.tmp rfl)))) rfl rfl ?_
      refine DR.op (fun _ => (OpT.plain rfl (OpOk.move (Typ.tmp rfl)))) rfl rfl ?_
      refine DR.op (fun _ => (OpT.plain rfl (OpOk.move (Typ.tmp rfl)))) rfl rfl ?_
      refine DR.op (fun _ => (OpT.plain rfl (OpOk.indexAddr Tryz.underlying22 ty_9 (Typ.tmp rfl) (Typ.tmp rfl) (by first | omega | (simp only [decide_eq_true_eq, decide_eq_false_iff_not] at *; omega) | (simp at *; omega)) (by first | omega | (simp only [decide_eq_true_eq, decide_eq_false_iff_not] at *; omega) | (simp at *; omega))))) rfl rfl ?_
      refine DR.op (fun _ => (OpT.plain rfl (OpOk.loadRef ty_9 (Typ.tmp rfl)))) rfl rfl ?_
      refine DR.op (fun _ => (OpT.plain rfl (OpOk.neqS (Typ.tmp rfl) (Typ.tmp rfl)))) rfl rfl ?_
      refine DR.tail rfl (by decide +kernel) (show dstBelow _ 26 = true by decide +kernel) rfl ?_
      refine SL.nil ?_
      refine SK.code ?_
      refine SC.cond rfl (fun _ _ h => V_bool h) (fun h3 => ?_) (fun h3 => ?_)
      · skip
        try simp only [decide_eq_true_eq, decide_eq_false_iff_not, Bool.and_eq_true, Bool.or_eq_true, Bool.not_eq_true', Bool.not_eq_false', Bool.and_eq_false_iff, Bool.or_eq_false_iff, Bool.not_not, Bool.not_true, Bool.not_false, ne_eq, Classical.not_not, Decidable.not_not] at h3
        refine SC.seq ?_
        refine SC.region ?_
        refine SL.op (OpT.plain rfl (OpOk.assign Typ.cbool)) rfl rfl ?_
        refine SL.nil ?_
        refine SK.code ?_
        refine SC.ret ?_
        exact SR.one rfl (ResT.eq rfl (by first | (exact (decide_eq_true (eq_done hs (by omega))).symm) | (exact (decide_eq_false (fun e => by subst e; simp_all)).symm) | rfl | (simp_all []; done) | (simp_all []; rfl) | (simp_all []; omega)))
      · skip
        try simp only [decide_eq_true_eq, decide_eq_false_iff_not, Bool.and_eq_true, Bool.or_eq_true, Bool.not_eq_true', Bool.not_eq_false', Bool.and_eq_false_iff, Bool.or_eq_false_iff, Bool.not_not, Bool.not_true, Bool.not_false, ne_eq, Classical.not_not, Decidable.not_not] at h3
        refine SC.skip ?_
        refine SK.blk ?_
        refine SK.code ?_
        refine SC.region ?_
        refine SL.op (OpT.plain rfl (OpOk.move (Typ.tmp rfl))) rfl rfl ?_
        refine SL.op (OpT.plain rfl (OpOk.add (Typ.tmp rfl) Typ.cint (by unfold in64; first | omega | (simp at *; omega)))) rfl rfl ?_
        refine SL.op (OpT.plain rfl (OpOk.assign (Typ.tmp rfl))) rfl rfl ?_
        refine SL.nil ?_
        refine SK.roundK (i + 1) (by first | omega | (simp only [decide_eq_true_eq, decide_eq_false_iff_not] at *; omega) | (simp at *; omega)) (eq_step hs (by assumption) (by simp_all)) rfl rfl (Subs.eq rfl (by first | rfl | omega | (simp; done) | (simp_all; done) | (simp_all; omega)) Subs.nil)
    · skip
      try simp only [decide_eq_true_eq, decide_eq_false_iff_not, Bool.and_eq_true, Bool.or_eq_true, Bool.not_eq_true', Bool.not_eq_false', Bool.and_eq_false_iff, Bool.or_eq_false_iff, Bool.not_not, Bool.not_true, Bool.not_false, ne_eq, Classical.not_not, Decidable.not_not] at h2
      refine SC.exit rfl ?_
      refine SK.code ?_
      refine SC.seq ?_
      refine SC.region ?_
      refine SL.op (OpT.plain rfl (OpOk.assign Typ.cbool)) rfl rfl ?_
      refine SL.nil ?_
      refine SK.code ?_
      refine SC.ret ?_
      exact SR.one rfl (ResT.eq rfl (by first | (exact (decide_eq_true (eq_done hs (by omega))).symm) | (exact (decide_eq_false (fun e => by subst e; simp_all)).symm) | rfl | (simp_all []; done) | (simp_all []; rfl) | (simp_all []; omega)))

/-! innkeep/innkeepref03.Ints -/
theorem s_innkeepref03_Ints (xs ys : List Int) : FnSpec Tryz.prog glob 37 [V xs, V ys] (V (decide (xs = ys))) := by
  refine FnSpec.enter Tryz.func37 rfl rfl rfl fun m0 w0 => ?_
  refine SC.learnList (t := 0) rfl fun hp0 => ?_
  refine SC.learnList (t := 1) rfl fun hp1 => ?_
  refine SC.seq ?_
  refine SC.region ?_
  refine SL.op (OpT.plain rfl (OpOk.assign Typ.cbool)) rfl rfl ?_
  refine SL.nil ?_
  refine SK.code ?_
  refine SC.seq ?_
  refine SC.seq ?_
  refine SC.region ?_
  refine SL.op (OpT.plain rfl (OpOk.move (Typ.tmp rfl))) rfl rfl ?_
  refine SL.op (OpT.plain rfl (OpOk.lenList Tryz.underlying27 (Typ.tmp rfl))) rfl rfl ?_
  refine SL.op (OpT.plain rfl (OpOk.move (Typ.tmp rfl))) rfl rfl ?_
  refine SL.op (OpT.plain rfl (OpOk.lenList Tryz.underlying27 (Typ.tmp rfl))) rfl rfl ?_
  refine SL.op (OpT.plain rfl (OpOk.neq (Typ.tmp rfl) (Typ.tmp rfl))) rfl rfl ?_
  refine SL.nil ?_
  refine SK.code ?_
  refine SC.cond rfl (fun _ _ h => V_bool h) (fun h1 => ?_) (fun h1 => ?_)
  · skip
    try simp only [decide_eq_true_eq, decide_eq_false_iff_not, Bool.and_eq_true, Bool.or_eq_true, Bool.not_eq_true', Bool.not_eq_false', Bool.and_eq_false_iff, Bool.or_eq_false_iff, Bool.not_not, Bool.not_true, Bool.not_false, ne_eq, Classical.not_not, Decidable.not_not] at h1
    refine SC.seq ?_
    refine SC.region ?_
    refine SL.op (OpT.plain rfl (OpOk.assign Typ.cbool)) rfl rfl ?_
    refine SL.nil ?_
    refine SK.code ?_
    refine SC.ret ?_
    exact SR.one rfl (ResT.eq rfl (by first | (exact (decide_eq_true (eq_done hs (by omega))).symm) | (exact (decide_eq_false (fun e => by subst e; simp_all)).symm) | rfl | (simp_all []; done) | (simp_all []; rfl) | (simp_all []; omega)))
  · skip
    try simp only [decide_eq_true_eq, decide_eq_false_iff_not, Bool.and_eq_true, Bool.or_eq_true, Bool.not_eq_true', Bool.not_eq_false', Bool.and_eq_false_iff, Bool.or_eq_false_iff, Bool.not_not, Bool.not_true, Bool.not_false, ne_eq, Classical.not_not, Decidable.not_not] at h1
    refine SC.skip ?_
    refine SK.code ?_
    refine SC.seq ?_
    refine SC.seq ?_
    refine SC.region ?_
    refine SL.op (OpT.plain rfl (OpOk.assign Typ.cint)) rfl rfl ?_
    refine SL.nil ?_
    refine SK.code ?_
    refine SC.block ?_
    refine SC.loopK (σ := Nat) [0, 1] (fun i => [(5, V (i : Int))]) (fun i Δ => Δ) (fun i => xs.length - i) (fun i => i ≤ xs.length ∧ xs.length = ys.length ∧ xs.take i = ys.take i) (0) ⟨by omega, by omega, by simp⟩ rfl (Subs.eq rfl (by first | rfl | omega | (simp; done) | (simp_all; done) | (simp_all; omega)) Subs.nil) (fun i hs => ?_)
    have h1 := hs.1
    have h2 := hs.2.1
    refine SC.seq ?_
    refine SC.seq ?_
    refine SC.region ?_
    refine SL.op (OpT.plain rfl (OpOk.move (Typ.tmp rfl))) rfl rfl ?_
    refine SL.op (OpT.plain rfl (OpOk.move (Typ.tmp rfl))) rfl rfl ?_
    refine SL.op (OpT.plain rfl (OpOk.lenList Tryz.underlying27 (Typ.tmp rfl))) rfl rfl ?_
    refine SL.op (OpT.plain rfl (OpOk.lss (Typ.tmp rfl) (Typ.tmp rfl))) rfl rfl ?_
    refine SL.nil ?_
    refine SK.code ?_
    refine SC.cond rfl (fun _ _ h => V_bool h) (fun h2 => ?_) (fun h2 => ?_)
    · skip
      try simp only [decide_eq_true_eq, decide_eq_false_iff_not, Bool.and_eq_true, Bool.or_eq_true, Bool.not_eq_true', Bool.not_eq_false', Bool.and_eq_false_iff, Bool.or_eq_false_iff, Bool.not_not, Bool.not_true, Bool.not_false, ne_eq, Classical.not_not, Decidable.not_not] at h2
      refine SC.skip ?_
      refine SK.code ?_
      refine SC.seq ?_
      refine SC.block ?_
      refine SC.seq ?_
      refine DR.start ?_
      refine DR.op (fun _ => (OpT.plain rfl (OpOk.move (Typ.tmp rfl)))) rfl rfl ?_
      refine DR.op (fun _ => (OpT.plain rfl (OpOk.move (Typ.tmp rfl)))) rfl rfl ?_
      refine DR.op (fun _ => (OpT.plain rfl (OpOk.indexAddr Tryz.underlying27 ty_3 (Typ.tmp rfl) (Typ.tmp rfl) (by first | omega | (simp only [decide_eq_true_eq, decide_eq_false_iff_not] at *; omega) | (simp at *; omega)) (by first | omega | (simp only [decide_eq_true_eq, decide_eq_false_iff_not] at *; omega) | (simp at *; omega))))) rfl rfl ?_
      refine DR.op (fun _ => (OpT.plain rfl (OpOk.loadRef ty_3 (Typ.tmp rfl)))) rfl rfl ?_
      refine DR.op (fun _ => (OpT.plain rfl (OpOk.move (Typ.tmp rfl)))) rfl rfl ?_
      refine DR.op (fun _ => (OpT.plain rfl (OpOk.move (Typ.tmp rfl)))) rfl rfl ?_
      refine DR.op (fun _ => (OpT.plain rfl (OpOk.indexAddr Tryz.underlying27 ty_3 (Typ.tmp rfl) (Typ.tmp rfl) (by first | omega | (simp only [decide_eq_true_eq, decide_eq_false_iff_not] at *; omega) | (simp at *; omega)) (by first | omega | (simp only [decide_eq_true_eq, decide_eq_false_iff_not] at *; omega) | (simp at *; omega))))) rfl rfl ?_
      refine DR.op (fun _ => (OpT.plain rfl (OpOk.loadRef ty_3 (Typ.tmp rfl)))) rfl rfl ?_
      refine DR.op (fun _ => (OpT.plain rfl (OpOk.neq (Typ.tmp rfl) (Typ.tmp rfl)))) rfl rfl ?_
      refine DR.tail rfl (by decide +kernel) (show dstBelow _ 26 = true by decide +kernel) rfl ?_
      refine SL.nil ?_
      refine SK.code ?_
      refine SC.cond rfl (fun _ _ h => V_bool h) (fun h3 => ?_) (fun h3 => ?_)
      · skip
        try simp only [decide_eq_true_eq, decide_eq_false_iff_not, Bool.and_eq_true, Bool.or_eq_true, Bool.not_eq_true', Bool.not_eq_false', Bool.and_eq_false_iff, Bool.or_eq_false_iff, Bool.not_not, Bool.not_true, Bool.not_false, ne_eq, Classical.not_not, Decidable.not_not] at h3
        refine SC.seq ?_
        refine SC.region ?_
        refine SL.op (OpT.plain rfl (OpOk.assign Typ.cbool)) rfl rfl ?_
        refine SL.nil ?_
        refine SK.code ?_
        refine SC.ret ?_
        exact SR.one rfl (ResT.eq rfl (by first | (exact (decide_eq_true (eq_done hs (by omega))).symm) | (exact (decide_eq_false (fun e => by subst e; simp_all)).symm) | rfl | (simp_all []; done) | (simp_all []; rfl) | (simp_all []; omega)))
      · skip
        try simp only [decide_eq_true_eq, decide_eq_false_iff_not, Bool.and_eq_true, Bool.or_eq_true, Bool.not_eq_true', Bool.not_eq_false', Bool.and_eq_false_iff, Bool.or_eq_false_iff, Bool.not_not, Bool.not_true, Bool.not_false, ne_eq, Classical.not_not, Decidable.not_not] at h3
        refine SC.skip ?_
        refine SK.blk ?_
        refine SK.code ?_
        refine SC.region ?_
        refine SL.op (OpT.plain rfl (OpOk.move (Typ.tmp rfl))) rfl rfl ?_
        refine SL.op (OpT.plain rfl (OpOk.add (Typ.tmp rfl) Typ.cint (by unfold in64; first | omega | (simp at *; omega)))) rfl rfl ?_
        refine SL.op (OpT.plain rfl (OpOk.assign (Typ.tmp rfl))) rfl rfl ?_
        refine SL.nil ?_
        refine SK.roundK (i + 1) (by first | omega | (simp only [decide_eq_true_eq, decide_eq_false_iff_not] at *; omega) | (simp at *; omega)) (eq_step hs (by assumption) (by simp_all)) rfl rfl (Subs.eq rfl (by first | rfl | omega | (simp; done) | (simp_all; done) | (simp_all; omega)) Subs.nil)
    · skip
      try simp only [decide_eq_true_eq, decide_eq_false_iff_not, Bool.and_eq_true, Bool.or_eq_true, Bool.not_eq_true', Bool.not_eq_false', Bool.and_eq_false_iff, Bool.or_eq_false_iff, Bool.not_not, Bool.not_true, Bool.not_false, ne_eq, Classical.not_not, Decidable.not_not] at h2
      refine SC.exit rfl ?_
      refine SK.code ?_
      refine SC.seq ?_
      refine SC.region ?_
      refine SL.op (OpT.plain rfl (OpOk.assign Typ.cbool)) rfl rfl ?_
      refine SL.nil ?_
      refine SK.code ?_
      refine SC.ret ?_
      exact SR.one rfl (ResT.eq rfl (by first | (exact (decide_eq_true (eq_done hs (by omega))).symm) | (exact (decide_eq_false (fun e => by subst e; simp_all)).symm) | rfl | (simp_all []; done) | (simp_all []; rfl) | (simp_all []; omega)))

/-! innkeep/innkeepref03.Name -/
theorem s_innkeepref03_Name (k : Int) : FnSpec Tryz.prog glob 30 [V k] (V (nameK k)) := by
  refine FnSpec.enter Tryz.func30 rfl rfl rfl fun m0 w0 => ?_
  have e1 : kindsL.length = 11 := rfl
  refine SC.learnInt (t := 0) rfl fun hp0 => ?_
  refine SC.seq ?_
  refine SC.region ?_
  refine SL.op (OpT.plain rfl (OpOk.assign (Typ.cstr (l := [])))) rfl rfl ?_
  refine SL.nil ?_
  refine SK.code ?_
  refine SC.seq ?_
  refine SC.region ?_
  refine SL.op (OpT.plain rfl (OpOk.buildSlice lit_22_11 (parts := [(0, Operand.const (Value.string ⟨[].toArray⟩)), (1, Operand.const (Value.string ⟨[109, 111, 118, 101].toArray⟩)), (2, Operand.const (Value.string ⟨[112, 117, 115, 104].toArray⟩)), (3, Operand.const (Value.string ⟨[103, 101, 116].toArray⟩)), (4, Operand.const (Value.string ⟨[100, 114, 111, 112].toArray⟩)), (5, Operand.const (Value.string ⟨[112, 117, 116].toArray⟩)), (6, Operand.const (Value.string ⟨[116, 97, 107, 101].toArray⟩)), (7, Operand.const (Value.string ⟨[103, 105, 118, 101].toArray⟩)), (8, Operand.const (Value.string ⟨[116, 114, 97, 100, 101].toArray⟩)), (9, Operand.const (Value.string ⟨[108, 111, 111, 107].toArray⟩)), (10, Operand.const (Value.string ⟨[111, 119, 110].toArray⟩))]) rfl (TypL.cons (Typ.cstr (l := [])) (TypL.cons (Typ.cstr (l := [109, 111, 118, 101])) (TypL.cons (Typ.cstr (l := [112, 117, 115, 104])) (TypL.cons (Typ.cstr (l := [103, 101, 116])) (TypL.cons (Typ.cstr (l := [100, 114, 111, 112])) (TypL.cons (Typ.cstr (l := [112, 117, 116])) (TypL.cons (Typ.cstr (l := [116, 97, 107, 101])) (TypL.cons (Typ.cstr (l := [103, 105, 118, 101])) (TypL.cons (Typ.cstr (l := [116, 114, 97, 100, 101])) (TypL.cons (Typ.cstr (l := [108, 111, 111, 107])) (TypL.cons (Typ.cstr (l := [111, 119, 110])) TypL.nil))))))))))))) rfl rfl ?_
  refine SL.op (OpT.plain rfl (OpOk.assign (Typ.tmp rfl))) rfl rfl ?_
  refine SL.nil ?_
  refine SK.code ?_
  refine SC.seq ?_
  refine SC.seq ?_
  refine SC.region ?_
  refine SL.op (OpT.plain rfl (OpOk.move (Typ.tmp rfl))) rfl rfl ?_
  refine SL.op (OpT.plain rfl (OpOk.lss (Typ.tmp rfl) Typ.cint)) rfl rfl ?_
  refine SL.op (OpT.plain rfl (OpOk.move (Typ.tmp rfl))) rfl rfl ?_
  refine SL.op (OpT.guard rfl rfl rfl (fun _ _ h => V_bool h) (fun hg => OpOk.move (Typ.tmp rfl))) rfl rfl ?_
  refine SL.op (OpT.guard rfl rfl rfl (fun _ _ h => V_bool h) (fun hg => OpOk.gtr (Typ.cond hg rfl) Typ.cint)) rfl rfl ?_
  refine SL.op (OpT.plain rfl (OpOk.pickOr (Typ.tmp rfl) (fun hb => Typ.cond hb rfl))) rfl rfl ?_
  refine SL.nil ?_
  refine SK.code ?_
  refine SC.cond rfl (fun _ _ h => V_bool h) (fun h1 => ?_) (fun h1 => ?_)
  · skip
    try simp only [decide_eq_true_eq, decide_eq_false_iff_not, Bool.and_eq_true, Bool.or_eq_true, Bool.not_eq_true', Bool.not_eq_false', Bool.and_eq_false_iff, Bool.or_eq_false_iff, Bool.not_not, Bool.not_true, Bool.not_false, ne_eq, Classical.not_not, Decidable.not_not] at h1
    refine SC.seq ?_
    refine SC.region ?_
    refine SL.op (OpT.plain rfl (OpOk.assign (Typ.cstr (l := [])))) rfl rfl ?_
    refine SL.nil ?_
    refine SK.code ?_
    refine SC.ret ?_
    exact SR.one rfl (ResT.eq rfl (by first | (exact (name_out (by assumption)).symm) | (unfold nameK nameIn; rw [if_neg (by rw [e1]; omega)]; rfl) | rfl | (simp_all []; done) | (simp_all []; rfl) | (simp_all []; omega)))
  · skip
    try simp only [decide_eq_true_eq, decide_eq_false_iff_not, Bool.and_eq_true, Bool.or_eq_true, Bool.not_eq_true', Bool.not_eq_false', Bool.and_eq_false_iff, Bool.or_eq_false_iff, Bool.not_not, Bool.not_true, Bool.not_false, ne_eq, Classical.not_not, Decidable.not_not] at h1
    refine SC.skip ?_
    refine SK.code ?_
    refine SC.seq ?_
    refine SC.region ?_
    refine SL.op (OpT.plain rfl (OpOk.move (Typ.tmp rfl))) rfl rfl ?_
    refine SL.op (OpT.plain rfl (OpOk.move (Typ.tmp rfl))) rfl rfl ?_
    refine SL.op (OpT.plain rfl (OpOk.indexAddr Tryz.underlying22 ty_9 (Typ.tmp rfl) (Typ.tmp rfl) (by first | omega | (simp only [decide_eq_true_eq, decide_eq_false_iff_not] at *; omega) | (simp at *; omega)) (by first | omega | (simp only [decide_eq_true_eq, decide_eq_false_iff_not] at *; omega) | (simp at *; omega)))) rfl rfl ?_
    refine SL.op (OpT.plain rfl (OpOk.loadRef ty_9 (Typ.tmp rfl))) rfl rfl ?_
    refine SL.op (OpT.plain rfl (OpOk.assign (Typ.tmp rfl))) rfl rfl ?_
    refine SL.nil ?_
    refine SK.code ?_
    refine SC.ret ?_
    exact SR.one rfl (ResT.eq rfl (by first | (exact (name_out (by assumption)).symm) | (unfold nameK nameIn; rw [if_neg (by rw [e1]; omega)]; rfl) | rfl | (simp_all []; done) | (simp_all []; rfl) | (simp_all []; omega)))

/-! innkeep/innkeepref03.Way -/
theorem s_innkeepref03_Way (k : Int) : FnSpec Tryz.prog glob 60 [V k] (V (wayD k)) := by
  refine FnSpec.enter Tryz.func60 rfl rfl rfl fun m0 w0 => ?_
  have e1 : waysL.length = 4 := rfl
  refine SC.learnInt (t := 0) rfl fun hp0 => ?_
  refine SC.seq ?_
  refine SC.region ?_
  refine SL.op (OpT.plain rfl (OpOk.assign (Typ.cstr (l := [])))) rfl rfl ?_
  refine SL.nil ?_
  refine SK.code ?_
  refine SC.seq ?_
  refine SC.seq ?_
  refine SC.region ?_
  refine SL.op (OpT.plain rfl (OpOk.move (Typ.tmp rfl))) rfl rfl ?_
  refine SL.op (OpT.plain rfl (OpOk.eql (Typ.tmp rfl) Typ.cint)) rfl rfl ?_
  refine SL.nil ?_
  refine SK.code ?_
  refine SC.cond rfl (fun _ _ h => V_bool h) (fun h1 => ?_) (fun h1 => ?_)
  · skip
    try simp only [decide_eq_true_eq, decide_eq_false_iff_not, Bool.and_eq_true, Bool.or_eq_true, Bool.not_eq_true', Bool.not_eq_false', Bool.and_eq_false_iff, Bool.or_eq_false_iff, Bool.not_not, Bool.not_true, Bool.not_false, ne_eq, Classical.not_not, Decidable.not_not] at h1
    refine SC.seq ?_
    refine SC.region ?_
    refine SL.op (OpT.plain rfl (OpOk.assign (Typ.cstr (l := [110, 111, 114, 116, 104])))) rfl rfl ?_
    refine SL.nil ?_
    refine SK.code ?_
    refine SC.ret ?_
    exact SR.one rfl (ResT.eq rfl (by first | (subst k; rfl) | (unfold wayD nameIn; rw [if_pos (by rw [e1]; omega)]) | rfl | (simp_all []; done) | (simp_all []; rfl) | (simp_all []; omega)))
  · skip
    try simp only [decide_eq_true_eq, decide_eq_false_iff_not, Bool.and_eq_true, Bool.or_eq_true, Bool.not_eq_true', Bool.not_eq_false', Bool.and_eq_false_iff, Bool.or_eq_false_iff, Bool.not_not, Bool.not_true, Bool.not_false, ne_eq, Classical.not_not, Decidable.not_not] at h1
    refine SC.skip ?_
    refine SK.code ?_
    refine SC.seq ?_
    refine SC.seq ?_
    refine SC.region ?_
    refine SL.op (OpT.plain rfl (OpOk.move (Typ.tmp rfl))) rfl rfl ?_
    refine SL.op (OpT.plain rfl (OpOk.eql (Typ.tmp rfl) Typ.cint)) rfl rfl ?_
    refine SL.nil ?_
    refine SK.code ?_
    refine SC.cond rfl (fun _ _ h => V_bool h) (fun h2 => ?_) (fun h2 => ?_)
    · skip
      try simp only [decide_eq_true_eq, decide_eq_false_iff_not, Bool.and_eq_true, Bool.or_eq_true, Bool.not_eq_true', Bool.not_eq_false', Bool.and_eq_false_iff, Bool.or_eq_false_iff, Bool.not_not, Bool.not_true, Bool.not_false, ne_eq, Classical.not_not, Decidable.not_not] at h2
      refine SC.seq ?_
      refine SC.region ?_
      refine SL.op (OpT.plain rfl (OpOk.assign (Typ.cstr (l := [101, 97, 115, 116])))) rfl rfl ?_
      refine SL.nil ?_
      refine SK.code ?_
      refine SC.ret ?_
      exact SR.one rfl (ResT.eq rfl (by first | (subst k; rfl) | (unfold wayD nameIn; rw [if_pos (by rw [e1]; omega)]) | rfl | (simp_all []; done) | (simp_all []; rfl) | (simp_all []; omega)))
    · skip
      try simp only [decide_eq_true_eq, decide_eq_false_iff_not, Bool.and_eq_true, Bool.or_eq_true, Bool.not_eq_true', Bool.not_eq_false', Bool.and_eq_false_iff, Bool.or_eq_false_iff, Bool.not_not, Bool.not_true, Bool.not_false, ne_eq, Classical.not_not, Decidable.not_not] at h2
      refine SC.skip ?_
      refine SK.code ?_
      refine SC.seq ?_
      refine SC.seq ?_
      refine SC.region ?_
      refine SL.op (OpT.plain rfl (OpOk.move (Typ.tmp rfl))) rfl rfl ?_
      refine SL.op (OpT.plain rfl (OpOk.eql (Typ.tmp rfl) Typ.cint)) rfl rfl ?_
      refine SL.nil ?_
      refine SK.code ?_
      refine SC.cond rfl (fun _ _ h => V_bool h) (fun h3 => ?_) (fun h3 => ?_)
      · skip
        try simp only [decide_eq_true_eq, decide_eq_false_iff_not, Bool.and_eq_true, Bool.or_eq_true, Bool.not_eq_true', Bool.not_eq_false', Bool.and_eq_false_iff, Bool.or_eq_false_iff, Bool.not_not, Bool.not_true, Bool.not_false, ne_eq, Classical.not_not, Decidable.not_not] at h3
        refine SC.seq ?_
        refine SC.region ?_
        refine SL.op (OpT.plain rfl (OpOk.assign (Typ.cstr (l := [115, 111, 117, 116, 104])))) rfl rfl ?_
        refine SL.nil ?_
        refine SK.code ?_
        refine SC.ret ?_
        exact SR.one rfl (ResT.eq rfl (by first | (subst k; rfl) | (unfold wayD nameIn; rw [if_pos (by rw [e1]; omega)]) | rfl | (simp_all []; done) | (simp_all []; rfl) | (simp_all []; omega)))
      · skip
        try simp only [decide_eq_true_eq, decide_eq_false_iff_not, Bool.and_eq_true, Bool.or_eq_true, Bool.not_eq_true', Bool.not_eq_false', Bool.and_eq_false_iff, Bool.or_eq_false_iff, Bool.not_not, Bool.not_true, Bool.not_false, ne_eq, Classical.not_not, Decidable.not_not] at h3
        refine SC.skip ?_
        refine SK.code ?_
        refine SC.seq ?_
        refine SC.seq ?_
        refine SC.region ?_
        refine SL.op (OpT.plain rfl (OpOk.move (Typ.tmp rfl))) rfl rfl ?_
        refine SL.op (OpT.plain rfl (OpOk.eql (Typ.tmp rfl) Typ.cint)) rfl rfl ?_
        refine SL.nil ?_
        refine SK.code ?_
        refine SC.cond rfl (fun _ _ h => V_bool h) (fun h4 => ?_) (fun h4 => ?_)
        · skip
          try simp only [decide_eq_true_eq, decide_eq_false_iff_not, Bool.and_eq_true, Bool.or_eq_true, Bool.not_eq_true', Bool.not_eq_false', Bool.and_eq_false_iff, Bool.or_eq_false_iff, Bool.not_not, Bool.not_true, Bool.not_false, ne_eq, Classical.not_not, Decidable.not_not] at h4
          refine SC.seq ?_
          refine SC.region ?_
          refine SL.op (OpT.plain rfl (OpOk.assign (Typ.cstr (l := [119, 101, 115, 116])))) rfl rfl ?_
          refine SL.nil ?_
          refine SK.code ?_
          refine SC.ret ?_
          exact SR.one rfl (ResT.eq rfl (by first | (subst k; rfl) | (unfold wayD nameIn; rw [if_pos (by rw [e1]; omega)]) | rfl | (simp_all []; done) | (simp_all []; rfl) | (simp_all []; omega)))
        · skip
          try simp only [decide_eq_true_eq, decide_eq_false_iff_not, Bool.and_eq_true, Bool.or_eq_true, Bool.not_eq_true', Bool.not_eq_false', Bool.and_eq_false_iff, Bool.or_eq_false_iff, Bool.not_not, Bool.not_true, Bool.not_false, ne_eq, Classical.not_not, Decidable.not_not] at h4
          refine SC.skip ?_
          refine SK.code ?_
          refine SC.seq ?_
          refine SC.region ?_
          refine SL.op (OpT.plain rfl (OpOk.assign (Typ.cstr (l := [])))) rfl rfl ?_
          refine SL.nil ?_
          refine SK.code ?_
          refine SC.ret ?_
          exact SR.one rfl (ResT.eq rfl (by first | (subst k; rfl) | (unfold wayD nameIn; rw [if_pos (by rw [e1]; omega)]) | rfl | (simp_all []; done) | (simp_all []; rfl) | (simp_all []; omega)))

/-! innkeep/innkeepref03.Kind -/
theorem s_innkeepref03_Kind (s : Str) : FnSpec Tryz.prog glob 32 [V s] (.tup [V (kindOf s).1, V (kindOf s).2]) := by
  refine FnSpec.enter Tryz.func32 rfl rfl rfl fun m0 w0 => ?_
  refine SC.learnStr (t := 0) rfl fun hp0 => ?_
  refine SC.seq ?_
  refine SC.region ?_
  refine SL.op (OpT.plain rfl (OpOk.assign Typ.cint)) rfl rfl ?_
  refine SL.op (OpT.plain rfl (OpOk.assign Typ.cbool)) rfl rfl ?_
  refine SL.nil ?_
  refine SK.code ?_
  refine SC.seq ?_
  refine SC.seq ?_
  refine SC.region ?_
  refine SL.op (OpT.plain rfl (OpOk.assign Typ.cint)) rfl rfl ?_
  refine SL.nil ?_
  refine SK.code ?_
  refine SC.block ?_
  refine SC.loopK (σ := Nat) [0] (fun k => [(4, V (k : Int))]) (fun k Δ => Δ) (fun k => 11 - k) (fun k => 1 ≤ k ∧ k ≤ 11 ∧ ∀ j : Nat, 1 ≤ j → j < k → nameK (j : Int) ≠ s) (1) ⟨by omega, by omega, fun j h1 h2 => by omega⟩ rfl (Subs.eq rfl (by first | rfl | omega | (simp; done) | (simp_all; done) | (simp_all; omega)) Subs.nil) (fun k hs => ?_)
  have q1 := hs.1
  have q2 := hs.2.1
  refine SC.seq ?_
  refine SC.seq ?_
  refine SC.region ?_
  refine SL.op (OpT.plain rfl (OpOk.move (Typ.tmp rfl))) rfl rfl ?_
  refine SL.op (OpT.plain rfl (OpOk.leq (Typ.tmp rfl) Typ.cint)) rfl rfl ?_
  refine SL.nil ?_
  refine SK.code ?_
  refine SC.cond rfl (fun _ _ h => V_bool h) (fun h1 => ?_) (fun h1 => ?_)
  · skip
    try simp only [decide_eq_true_eq, decide_eq_false_iff_not, Bool.and_eq_true, Bool.or_eq_true, Bool.not_eq_true', Bool.not_eq_false', Bool.and_eq_false_iff, Bool.or_eq_false_iff, Bool.not_not, Bool.not_true, Bool.not_false, ne_eq, Classical.not_not, Decidable.not_not] at h1
    refine SC.skip ?_
    refine SK.code ?_
    refine SC.seq ?_
    refine SC.block ?_
    refine SC.seq ?_
    refine SC.region ?_
    refine SL.op (OpT.plain rfl (OpOk.move (Typ.tmp rfl))) rfl rfl ?_
    refine SL.op (OpT.plain rfl (OpOk.call Tryz.call30 Typ.fn (Typs.cons (Typ.tmp rfl) Typs.nil) (s_innkeepref03_Name _))) rfl rfl ?_
    refine SL.op (OpT.plain rfl (OpOk.move (Typ.tmp rfl))) rfl rfl ?_
    refine SL.op (OpT.plain rfl (OpOk.eqlS (Typ.tmp rfl) (Typ.tmp rfl))) rfl rfl ?_
    refine SL.nil ?_
    refine SK.code ?_
    refine SC.cond rfl (fun _ _ h => V_bool h) (fun h2 => ?_) (fun h2 => ?_)
    · skip
      try simp only [decide_eq_true_eq, decide_eq_false_iff_not, Bool.and_eq_true, Bool.or_eq_true, Bool.not_eq_true', Bool.not_eq_false', Bool.and_eq_false_iff, Bool.or_eq_false_iff, Bool.not_not, Bool.not_true, Bool.not_false, ne_eq, Classical.not_not, Decidable.not_not] at h2
      refine SC.seq ?_
      refine SC.region ?_
      refine SL.op (OpT.plain rfl (OpOk.move (Typ.tmp rfl))) rfl rfl ?_
      refine SL.op (OpT.plain rfl (OpOk.assign (Typ.tmp rfl))) rfl rfl ?_
      refine SL.op (OpT.plain rfl (OpOk.assign Typ.cbool)) rfl rfl ?_
      refine SL.nil ?_
      refine SK.code ?_
      refine SC.ret ?_
      exact SR.two rfl (ResT.eq rfl (by first | (rw [kind_hit hs.1 (by omega) (by assumption)]) | (rw [kind_none (fun j h1 h2 => hs.2.2 j h1 (by omega))]) | rfl | (simp_all []; done) | (simp_all []; rfl) | (simp_all []; omega))) (ResT.eq rfl (by first | (rw [kind_hit hs.1 (by omega) (by assumption)]) | (rw [kind_none (fun j h1 h2 => hs.2.2 j h1 (by omega))]) | rfl | (simp_all []; done) | (simp_all []; rfl) | (simp_all []; omega)))
    · skip
      try simp only [decide_eq_true_eq, decide_eq_false_iff_not, Bool.and_eq_true, Bool.or_eq_true, Bool.not_eq_true', Bool.not_eq_false', Bool.and_eq_false_iff, Bool.or_eq_false_iff, Bool.not_not, Bool.not_true, Bool.not_false, ne_eq, Classical.not_not, Decidable.not_not] at h2
      refine SC.skip ?_
      refine SK.blk ?_
      refine SK.code ?_
      refine SC.region ?_
      refine SL.op (OpT.plain rfl (OpOk.move (Typ.tmp rfl))) rfl rfl ?_
      refine SL.op (OpT.plain rfl (OpOk.add (Typ.tmp rfl) Typ.cint (by unfold in64; first | omega | (simp at *; omega)))) rfl rfl ?_
      refine SL.op (OpT.plain rfl (OpOk.assign (Typ.tmp rfl))) rfl rfl ?_
      refine SL.nil ?_
      refine SK.roundK (k + 1) (by first | omega | (simp only [decide_eq_true_eq, decide_eq_false_iff_not] at *; omega) | (simp at *; omega)) (kind_step hs (by assumption) (by assumption)) rfl rfl (Subs.eq rfl (by first | rfl | omega | (simp; done) | (simp_all; done) | (simp_all; omega)) Subs.nil)
  · skip
    try simp only [decide_eq_true_eq, decide_eq_false_iff_not, Bool.and_eq_true, Bool.or_eq_true, Bool.not_eq_true', Bool.not_eq_false', Bool.and_eq_false_iff, Bool.or_eq_false_iff, Bool.not_not, Bool.not_true, Bool.not_false, ne_eq, Classical.not_not, Decidable.not_not] at h1
    refine SC.exit rfl ?_
    refine SK.code ?_
    refine SC.seq ?_
    refine SC.region ?_
    refine SL.op (OpT.plain rfl (OpOk.assign Typ.cint)) rfl rfl ?_
    refine SL.op (OpT.plain rfl (OpOk.assign Typ.cbool)) rfl rfl ?_
    refine SL.nil ?_
    refine SK.code ?_
    refine SC.ret ?_
    exact SR.two rfl (ResT.eq rfl (by first | (rw [kind_hit hs.1 (by omega) (by assumption)]) | (rw [kind_none (fun j h1 h2 => hs.2.2 j h1 (by omega))]) | rfl | (simp_all []; done) | (simp_all []; rfl) | (simp_all []; omega))) (ResT.eq rfl (by first | (rw [kind_hit hs.1 (by omega) (by assumption)]) | (rw [kind_none (fun j h1 h2 => hs.2.2 j h1 (by omega))]) | rfl | (simp_all []; done) | (simp_all []; rfl) | (simp_all []; omega)))

/-! innkeep/innkeepref03.Dir -/
theorem s_innkeepref03_Dir (s : Str) : FnSpec Tryz.prog glob 33 [V s] (.tup [V (dirOf s).1, V (dirOf s).2]) := by
  refine FnSpec.enter Tryz.func33 rfl rfl rfl fun m0 w0 => ?_
  refine SC.learnStr (t := 0) rfl fun hp0 => ?_
  refine SC.seq ?_
  refine SC.region ?_
  refine SL.op (OpT.plain rfl (OpOk.assign Typ.cint)) rfl rfl ?_
  refine SL.op (OpT.plain rfl (OpOk.assign Typ.cbool)) rfl rfl ?_
  refine SL.nil ?_
  refine SK.code ?_
  refine SC.seq ?_
  refine SC.seq ?_
  refine SC.region ?_
  refine SL.op (OpT.plain rfl (OpOk.assign Typ.cint)) rfl rfl ?_
  refine SL.nil ?_
  refine SK.code ?_
  refine SC.block ?_
  refine SC.loopK (σ := Nat) [0] (fun k => [(4, V (k : Int))]) (fun k Δ => Δ) (fun k => 4 - k) (fun k => k ≤ 4 ∧ ∀ j : Nat, j < k → wayD (j : Int) ≠ s) (0) ⟨by omega, fun j h2 => by omega⟩ rfl (Subs.eq rfl (by first | rfl | omega | (simp; done) | (simp_all; done) | (simp_all; omega)) Subs.nil) (fun k hs => ?_)
  have q1 := hs.1
  refine SC.seq ?_
  refine SC.seq ?_
  refine SC.region ?_
  refine SL.op (OpT.plain rfl (OpOk.move (Typ.tmp rfl))) rfl rfl ?_
  refine SL.op (OpT.plain rfl (OpOk.lss (Typ.tmp rfl) Typ.cint)) rfl rfl ?_
  refine SL.nil ?_
  refine SK.code ?_
  refine SC.cond rfl (fun _ _ h => V_bool h) (fun h1 => ?_) (fun h1 => ?_)
  · skip
    try simp only [decide_eq_true_eq, decide_eq_false_iff_not, Bool.and_eq_true, Bool.or_eq_true, Bool.not_eq_true', Bool.not_eq_false', Bool.and_eq_false_iff, Bool.or_eq_false_iff, Bool.not_not, Bool.not_true, Bool.not_false, ne_eq, Classical.not_not, Decidable.not_not] at h1
    refine SC.skip ?_
    refine SK.code ?_
    refine SC.seq ?_
    refine SC.block ?_
    refine SC.seq ?_
    refine SC.region ?_
    refine SL.op (OpT.plain rfl (OpOk.move (Typ.tmp rfl))) rfl rfl ?_
    refine SL.op (OpT.plain rfl (OpOk.call Tryz.call60 Typ.fn (Typs.cons (Typ.tmp rfl) Typs.nil) (s_innkeepref03_Way _))) rfl rfl ?_
    refine SL.op (OpT.plain rfl (OpOk.move (Typ.tmp rfl))) rfl rfl ?_
    refine SL.op (OpT.plain rfl (OpOk.eqlS (Typ.tmp rfl) (Typ.tmp rfl))) rfl rfl ?_
    refine SL.nil ?_
    refine SK.code ?_
    refine SC.cond rfl (fun _ _ h => V_bool h) (fun h2 => ?_) (fun h2 => ?_)
    · skip
      try simp only [decide_eq_true_eq, decide_eq_false_iff_not, Bool.and_eq_true, Bool.or_eq_true, Bool.not_eq_true', Bool.not_eq_false', Bool.and_eq_false_iff, Bool.or_eq_false_iff, Bool.not_not, Bool.not_true, Bool.not_false, ne_eq, Classical.not_not, Decidable.not_not] at h2
      refine SC.seq ?_
      refine SC.region ?_
      refine SL.op (OpT.plain rfl (OpOk.move (Typ.tmp rfl))) rfl rfl ?_
      refine SL.op (OpT.plain rfl (OpOk.assign (Typ.tmp rfl))) rfl rfl ?_
      refine SL.op (OpT.plain rfl (OpOk.assign Typ.cbool)) rfl rfl ?_
      refine SL.nil ?_
      refine SK.code ?_
      refine SC.ret ?_
      exact SR.two rfl (ResT.eq rfl (by first | (rw [dir_hit (k := k) (by omega) (by assumption)]) | (rw [dir_none (fun j h1 => hs.2 j (by omega))]) | rfl | (simp_all []; done) | (simp_all []; rfl) | (simp_all []; omega))) (ResT.eq rfl (by first | (rw [dir_hit (k := k) (by omega) (by assumption)]) | (rw [dir_none (fun j h1 => hs.2 j (by omega))]) | rfl | (simp_all []; done) | (simp_all []; rfl) | (simp_all []; omega)))
    · skip
      try simp only [decide_eq_true_eq, decide_eq_false_iff_not, Bool.and_eq_true, Bool.or_eq_true, Bool.not_eq_true', Bool.not_eq_false', Bool.and_eq_false_iff, Bool.or_eq_false_iff, Bool.not_not, Bool.not_true, Bool.not_false, ne_eq, Classical.not_not, Decidable.not_not] at h2
      refine SC.skip ?_
      refine SK.blk ?_
      refine SK.code ?_
      refine SC.region ?_
      refine SL.op (OpT.plain rfl (OpOk.move (Typ.tmp rfl))) rfl rfl ?_
      refine SL.op (OpT.plain rfl (OpOk.add (Typ.tmp rfl) Typ.cint (by unfold in64; first | omega | (simp at *; omega)))) rfl rfl ?_
      refine SL.op (OpT.plain rfl (OpOk.assign (Typ.tmp rfl))) rfl rfl ?_
      refine SL.nil ?_
      refine SK.roundK (k + 1) (by first | omega | (simp only [decide_eq_true_eq, decide_eq_false_iff_not] at *; omega) | (simp at *; omega)) (dir_step hs (by assumption) (by assumption)) rfl rfl (Subs.eq rfl (by first | rfl | omega | (simp; done) | (simp_all; done) | (simp_all; omega)) Subs.nil)
  · skip
    try simp only [decide_eq_true_eq, decide_eq_false_iff_not, Bool.and_eq_true, Bool.or_eq_true, Bool.not_eq_true', Bool.not_eq_false', Bool.and_eq_false_iff, Bool.or_eq_false_iff, Bool.not_not, Bool.not_true, Bool.not_false, ne_eq, Classical.not_not, Decidable.not_not] at h1
    refine SC.exit rfl ?_
    refine SK.code ?_
    refine SC.seq ?_
    refine SC.region ?_
    refine SL.op (OpT.plain rfl (OpOk.assign Typ.cint)) rfl rfl ?_
    refine SL.op (OpT.plain rfl (OpOk.assign Typ.cbool)) rfl rfl ?_
    refine SL.nil ?_
    refine SK.code ?_
    refine SC.ret ?_
    exact SR.two rfl (ResT.eq rfl (by first | (rw [dir_hit (k := k) (by omega) (by assumption)]) | (rw [dir_none (fun j h1 => hs.2 j (by omega))]) | rfl | (simp_all []; done) | (simp_all []; rfl) | (simp_all []; omega))) (ResT.eq rfl (by first | (rw [dir_hit (k := k) (by omega) (by assumption)]) | (rw [dir_none (fun j h1 => hs.2 j (by omega))]) | rfl | (simp_all []; done) | (simp_all []; rfl) | (simp_all []; omega)))

/-! innkeep/innkeepref03.row -/
theorem s_innkeepref03_row (xs : List Int) (h : Bool) : FnSpec Tryz.prog glob 59 [V xs, V h] (V (rowH h xs)) := by
  refine FnSpec.enter Tryz.func59 rfl rfl rfl fun m0 w0 => ?_
  refine SC.learnList (t := 0) rfl fun hp0 => ?_
  refine SC.seq ?_
  refine SC.region ?_
  refine SL.op (OpT.plain rfl (OpOk.assign Typ.cbool)) rfl rfl ?_
  refine SL.nil ?_
  refine SK.code ?_
  refine SC.seq ?_
  refine SC.seq ?_
  refine SC.region ?_
  refine SL.op (OpT.plain rfl (OpOk.move (Typ.tmp rfl))) rfl rfl ?_
  refine SL.op (OpT.plain rfl (OpOk.not (Typ.tmp rfl))) rfl rfl ?_
  refine SL.nil ?_
  refine SK.code ?_
  refine SC.cond rfl (fun _ _ h => V_bool h) (fun h1 => ?_) (fun h1 => ?_)
  · skip
    try simp only [decide_eq_true_eq, decide_eq_false_iff_not, Bool.and_eq_true, Bool.or_eq_true, Bool.not_eq_true', Bool.not_eq_false', Bool.and_eq_false_iff, Bool.or_eq_false_iff, Bool.not_not, Bool.not_true, Bool.not_false, ne_eq, Classical.not_not, Decidable.not_not] at h1
    refine SC.seq ?_
    refine SC.region ?_
    refine SL.op (OpT.plain rfl (OpOk.move (Typ.tmp rfl))) rfl rfl ?_
    refine SL.op (OpT.plain rfl (OpOk.lenList Tryz.underlying27 (Typ.tmp rfl))) rfl rfl ?_
    refine SL.op (OpT.plain rfl (OpOk.eql (Typ.tmp rfl) Typ.cint)) rfl rfl ?_
    refine SL.op (OpT.plain rfl (OpOk.assign (Typ.tmp rfl))) rfl rfl ?_
    refine SL.nil ?_
    refine SK.code ?_
    refine SC.ret ?_
    exact SR.one rfl (ResT.eq rfl (by first | ((try subst h); simp [rowH]; done) | ((try subst h); unfold rowH rowB; rw [if_pos rfl, all_done hs (by omega)]; (first | (simp; done) | (simp; omega))) | ((try subst h); unfold rowH rowB; rw [if_pos rfl, all_not (i := (i : Int)) (by omega) (by assumption) (by simp_all [fitH])]; simp) | rfl | (simp_all []; done) | (simp_all []; rfl) | (simp_all []; omega)))
  · skip
    try simp only [decide_eq_true_eq, decide_eq_false_iff_not, Bool.and_eq_true, Bool.or_eq_true, Bool.not_eq_true', Bool.not_eq_false', Bool.and_eq_false_iff, Bool.or_eq_false_iff, Bool.not_not, Bool.not_true, Bool.not_false, ne_eq, Classical.not_not, Decidable.not_not] at h1
    refine SC.skip ?_
    refine SK.code ?_
    refine SC.seq ?_
    refine SC.seq ?_
    refine SC.region ?_
    refine SL.op (OpT.plain rfl (OpOk.assign Typ.cint)) rfl rfl ?_
    refine SL.nil ?_
    refine SK.code ?_
    refine SC.block ?_
    refine SC.loopK (σ := Nat) [0] (fun i => [(5, V (i : Int))]) (fun i Δ => Δ) (fun i => xs.length - i) (fun i => i ≤ xs.length ∧ (xs.take i).all fitB = true) (0) ⟨by omega, by simp⟩ rfl (Subs.eq rfl (by first | rfl | omega | (simp; done) | (simp_all; done) | (simp_all; omega)) Subs.nil) (fun i hs => ?_)
    have q1 := hs.1
    refine SC.seq ?_
    refine SC.seq ?_
    refine SC.region ?_
    refine SL.op (OpT.plain rfl (OpOk.move (Typ.tmp rfl))) rfl rfl ?_
    refine SL.op (OpT.plain rfl (OpOk.move (Typ.tmp rfl))) rfl rfl ?_
    refine SL.op (OpT.plain rfl (OpOk.lenList Tryz.underlying27 (Typ.tmp rfl))) rfl rfl ?_
    refine SL.op (OpT.plain rfl (OpOk.lss (Typ.tmp rfl) (Typ.tmp rfl))) rfl rfl ?_
    refine SL.nil ?_
    refine SK.code ?_
    refine SC.cond rfl (fun _ _ h => V_bool h) (fun h2 => ?_) (fun h2 => ?_)
    · skip
      try simp only [decide_eq_true_eq, decide_eq_false_iff_not, Bool.and_eq_true, Bool.or_eq_true, Bool.not_eq_true', Bool.not_eq_false', Bool.and_eq_false_iff, Bool.or_eq_false_iff, Bool.not_not, Bool.not_true, Bool.not_false, ne_eq, Classical.not_not, Decidable.not_not] at h2
      refine SC.skip ?_
      refine SK.code ?_
      refine SC.seq ?_
      refine SC.block ?_
      refine SC.seq ?_
      refine SC.region ?_
      refine SL.op (OpT.plain rfl (OpOk.move (Typ.tmp rfl))) rfl rfl ?_
      refine SL.op (OpT.plain rfl (OpOk.move (Typ.tmp rfl))) rfl rfl ?_
      refine SL.op (OpT.plain rfl (OpOk.indexAddr Tryz.underlying27 ty_3 (Typ.tmp rfl) (Typ.tmp rfl) (by first | omega | (simp only [decide_eq_true_eq, decide_eq_false_iff_not] at *; omega) | (simp at *; omega)) (by first | omega | (simp only [decide_eq_true_eq, decide_eq_false_iff_not] at *; omega) | (simp at *; omega)))) rfl rfl ?_
      refine SL.op (OpT.plain rfl (OpOk.loadRef ty_3 (Typ.tmp rfl))) rfl rfl ?_
      refine SL.op (OpT.plain rfl (OpOk.call Tryz.call58 Typ.fn (Typs.cons (Typ.tmp rfl) (Typs.cons Typ.cbool Typs.nil)) (s_innkeepref03_fit _ _))) rfl rfl ?_
      refine SL.op (OpT.plain rfl (OpOk.not (Typ.tmp rfl))) rfl rfl ?_
      refine SL.nil ?_
      refine SK.code ?_
      refine SC.cond rfl (fun _ _ h => V_bool h) (fun h3 => ?_) (fun h3 => ?_)
      · skip
        try simp only [decide_eq_true_eq, decide_eq_false_iff_not, Bool.and_eq_true, Bool.or_eq_true, Bool.not_eq_true', Bool.not_eq_false', Bool.and_eq_false_iff, Bool.or_eq_false_iff, Bool.not_not, Bool.not_true, Bool.not_false, ne_eq, Classical.not_not, Decidable.not_not] at h3
        refine SC.seq ?_
        refine SC.region ?_
        refine SL.op (OpT.plain rfl (OpOk.assign Typ.cbool)) rfl rfl ?_
        refine SL.nil ?_
        refine SK.code ?_
        refine SC.ret ?_
        exact SR.one rfl (ResT.eq rfl (by first | ((try subst h); simp [rowH]; done) | ((try subst h); unfold rowH rowB; rw [if_pos rfl, all_done hs (by omega)]; (first | (simp; done) | (simp; omega))) | ((try subst h); unfold rowH rowB; rw [if_pos rfl, all_not (i := (i : Int)) (by omega) (by assumption) (by simp_all [fitH])]; simp) | rfl | (simp_all []; done) | (simp_all []; rfl) | (simp_all []; omega)))
      · skip
        try simp only [decide_eq_true_eq, decide_eq_false_iff_not, Bool.and_eq_true, Bool.or_eq_true, Bool.not_eq_true', Bool.not_eq_false', Bool.and_eq_false_iff, Bool.or_eq_false_iff, Bool.not_not, Bool.not_true, Bool.not_false, ne_eq, Classical.not_not, Decidable.not_not] at h3
        refine SC.skip ?_
        refine SK.blk ?_
        refine SK.code ?_
        refine SC.region ?_
        refine SL.op (OpT.plain rfl (OpOk.move (Typ.tmp rfl))) rfl rfl ?_
        refine SL.op (OpT.plain rfl (OpOk.add (Typ.tmp rfl) Typ.cint (by unfold in64; first | omega | (simp at *; omega)))) rfl rfl ?_
        refine SL.op (OpT.plain rfl (OpOk.assign (Typ.tmp rfl))) rfl rfl ?_
        refine SL.nil ?_
        refine SK.roundK (i + 1) (by first | omega | (simp only [decide_eq_true_eq, decide_eq_false_iff_not] at *; omega) | (simp at *; omega)) (all_step hs (by assumption) (by simp_all [fitH])) rfl rfl (Subs.eq rfl (by first | rfl | omega | (simp; done) | (simp_all; done) | (simp_all; omega)) Subs.nil)
    · skip
      try simp only [decide_eq_true_eq, decide_eq_false_iff_not, Bool.and_eq_true, Bool.or_eq_true, Bool.not_eq_true', Bool.not_eq_false', Bool.and_eq_false_iff, Bool.or_eq_false_iff, Bool.not_not, Bool.not_true, Bool.not_false, ne_eq, Classical.not_not, Decidable.not_not] at h2
      refine SC.exit rfl ?_
      refine SK.code ?_
      refine SC.seq ?_
      refine SC.region ?_
      refine SL.op (OpT.plain rfl (OpOk.move (Typ.tmp rfl))) rfl rfl ?_
      refine SL.op (OpT.plain rfl (OpOk.lenList Tryz.underlying27 (Typ.tmp rfl))) rfl rfl ?_
      refine SL.op (OpT.plain rfl (OpOk.leq (Typ.tmp rfl) Typ.cint)) rfl rfl ?_
      refine SL.op (OpT.plain rfl (OpOk.assign (Typ.tmp rfl))) rfl rfl ?_
      refine SL.nil ?_
      refine SK.code ?_
      refine SC.ret ?_
      exact SR.one rfl (ResT.eq rfl (by first | ((try subst h); simp [rowH]; done) | ((try subst h); unfold rowH rowB; rw [if_pos rfl, all_done hs (by omega)]; (first | (simp; done) | (simp; omega))) | ((try subst h); unfold rowH rowB; rw [if_pos rfl, all_not (i := (i : Int)) (by omega) (by assumption) (by simp_all [fitH])]; simp) | rfl | (simp_all []; done) | (simp_all []; rfl) | (simp_all []; omega)))

/-! innkeep/innkeepref03.Same -/
theorem s_innkeepref03_Same (a b : Cmd) : FnSpec Tryz.prog glob 15 [V a, V b] (V (decide (a = b))) := by
  refine FnSpec.enter Tryz.func15 rfl rfl rfl fun m0 w0 => ?_
  refine SC.seq ?_
  refine SC.region ?_
  refine SL.op (OpT.plain rfl (OpOk.boxRef (Typ.tmp rfl))) rfl rfl ?_
  refine SL.op (OpT.plain rfl (OpOk.boxRef (Typ.tmp rfl))) rfl rfl ?_
  refine SL.op (OpT.plain rfl (OpOk.assign Typ.cbool)) rfl rfl ?_
  refine SL.nil ?_
  refine SK.code ?_
  refine SC.seq ?_
  refine SC.region ?_
  refine SL.op (OpT.plain rfl (OpOk.fieldAddrRef fld_29_0 (Typ.tmp rfl))) rfl rfl ?_
  refine SL.op (OpT.plain rfl (OpOk.loadRef ty_3 (Typ.tmp rfl))) rfl rfl ?_
  refine SL.op (OpT.plain rfl (OpOk.fieldAddrRef fld_29_0 (Typ.tmp rfl))) rfl rfl ?_
  refine SL.op (OpT.plain rfl (OpOk.loadRef ty_3 (Typ.tmp rfl))) rfl rfl ?_
  refine SL.op (OpT.plain rfl (OpOk.eql (Typ.tmp rfl) (Typ.tmp rfl))) rfl rfl ?_
  refine SL.op (OpT.plain rfl (OpOk.move (Typ.tmp rfl))) rfl rfl ?_
  refine SL.op (OpT.guard rfl rfl rfl (fun _ _ h => V_bool h) (fun hg => OpOk.fieldAddrRef fld_29_1 (Typ.tmp rfl))) rfl rfl ?_
  refine SL.op (OpT.guard rfl rfl rfl (fun _ _ h => V_bool h) (fun hg => OpOk.loadRef ty_3 (Typ.cond hg rfl))) rfl rfl ?_
  refine SL.op (OpT.guard rfl rfl rfl (fun _ _ h => V_bool h) (fun hg => OpOk.fieldAddrRef fld_29_1 (Typ.tmp rfl))) rfl rfl ?_
  refine SL.op (OpT.guard rfl rfl rfl (fun _ _ h => V_bool h) (fun hg => OpOk.loadRef ty_3 (Typ.cond hg rfl))) rfl rfl ?_
  refine SL.op (OpT.guard rfl rfl rfl (fun _ _ h => V_bool h) (fun hg => OpOk.eql (Typ.cond hg rfl) (Typ.cond hg rfl))) rfl rfl ?_
  refine SL.op (OpT.plain rfl (OpOk.pickAnd (Typ.tmp rfl) (fun hb => Typ.cond hb rfl))) rfl rfl ?_
  refine SL.op (OpT.plain rfl (OpOk.move (Typ.tmp rfl))) rfl rfl ?_
  refine SL.op (OpT.guard rfl rfl rfl (fun _ _ h => V_bool h) (fun hg => OpOk.fieldAddrRef fld_29_2 (Typ.tmp rfl))) rfl rfl ?_
  refine SL.op (OpT.guard rfl rfl rfl (fun _ _ h => V_bool h) (fun hg => OpOk.loadRef ty_3 (Typ.cond hg rfl))) rfl rfl ?_
  refine SL.op (OpT.guard rfl rfl rfl (fun _ _ h => V_bool h) (fun hg => OpOk.fieldAddrRef fld_29_2 (Typ.tmp rfl))) rfl rfl ?_
  refine SL.op (OpT.guard rfl rfl rfl (fun _ _ h => V_bool h) (fun hg => OpOk.loadRef ty_3 (Typ.cond hg rfl))) rfl rfl ?_
  refine SL.op (OpT.guard rfl rfl rfl (fun _ _ h => V_bool h) (fun hg => OpOk.eql (Typ.cond hg rfl) (Typ.cond hg rfl))) rfl rfl ?_
  refine SL.op (OpT.plain rfl (OpOk.pickAnd (Typ.tmp rfl) (fun hb => Typ.cond hb rfl))) rfl rfl ?_
  refine SL.op (OpT.plain rfl (OpOk.move (Typ.tmp rfl))) rfl rfl ?_
  refine SL.op (OpT.guard rfl rfl rfl (fun _ _ h => V_bool h) (fun hg => OpOk.fieldAddrRef fld_29_3 (Typ.tmp rfl))) rfl rfl ?_
  refine SL.op (OpT.guard rfl rfl rfl (fun _ _ h => V_bool h) (fun hg => OpOk.loadRef ty_3 (Typ.cond hg rfl))) rfl rfl ?_
  refine SL.op (OpT.guard rfl rfl rfl (fun _ _ h => V_bool h) (fun hg => OpOk.fieldAddrRef fld_29_3 (Typ.tmp rfl))) rfl rfl ?_
  refine SL.op (OpT.guard rfl rfl rfl (fun _ _ h => V_bool h) (fun hg => OpOk.loadRef ty_3 (Typ.cond hg rfl))) rfl rfl ?_
  refine SL.op (OpT.guard rfl rfl rfl (fun _ _ h => V_bool h) (fun hg => OpOk.eql (Typ.cond hg rfl) (Typ.cond hg rfl))) rfl rfl ?_
  refine SL.op (OpT.plain rfl (OpOk.pickAnd (Typ.tmp rfl) (fun hb => Typ.cond hb rfl))) rfl rfl ?_
  refine SL.op (OpT.plain rfl (OpOk.move (Typ.tmp rfl))) rfl rfl ?_
  refine SL.op (OpT.guard rfl rfl rfl (fun _ _ h => V_bool h) (fun hg => OpOk.fieldAddrRef fld_29_4 (Typ.tmp rfl))) rfl rfl ?_
  refine SL.op (OpT.guard rfl rfl rfl (fun _ _ h => V_bool h) (fun hg => OpOk.loadRef ty_3 (Typ.cond hg rfl))) rfl rfl ?_
  refine SL.op (OpT.guard rfl rfl rfl (fun _ _ h => V_bool h) (fun hg => OpOk.fieldAddrRef fld_29_4 (Typ.tmp rfl))) rfl rfl ?_
  refine SL.op (OpT.guard rfl rfl rfl (fun _ _ h => V_bool h) (fun hg => OpOk.loadRef ty_3 (Typ.cond hg rfl))) rfl rfl ?_
  refine SL.op (OpT.guard rfl rfl rfl (fun _ _ h => V_bool h) (fun hg => OpOk.eql (Typ.cond hg rfl) (Typ.cond hg rfl))) rfl rfl ?_
  refine SL.op (OpT.plain rfl (OpOk.pickAnd (Typ.tmp rfl) (fun hb => Typ.cond hb rfl))) rfl rfl ?_
  refine SL.op (OpT.plain rfl (OpOk.move (Typ.tmp rfl))) rfl rfl ?_
  refine SL.op (OpT.guard rfl rfl rfl (fun _ _ h => V_bool h) (fun hg => OpOk.fieldAddrRef fld_29_6 (Typ.tmp rfl))) rfl rfl ?_
  refine SL.op (OpT.guard rfl rfl rfl (fun _ _ h => V_bool h) (fun hg => OpOk.loadRef ty_3 (Typ.cond hg rfl))) rfl rfl ?_
  refine SL.op (OpT.guard rfl rfl rfl (fun _ _ h => V_bool h) (fun hg => OpOk.fieldAddrRef fld_29_6 (Typ.tmp rfl))) rfl rfl ?_
  refine SL.op (OpT.guard rfl rfl rfl (fun _ _ h => V_bool h) (fun hg => OpOk.loadRef ty_3 (Typ.cond hg rfl))) rfl rfl ?_
  refine SL.op (OpT.guard rfl rfl rfl (fun _ _ h => V_bool h) (fun hg => OpOk.eql (Typ.cond hg rfl) (Typ.cond hg rfl))) rfl rfl ?_
  refine SL.op (OpT.plain rfl (OpOk.pickAnd (Typ.tmp rfl) (fun hb => Typ.cond hb rfl))) rfl rfl ?_
  refine SL.op (OpT.plain rfl (OpOk.move (Typ.tmp rfl))) rfl rfl ?_
  refine SL.op (OpT.guard rfl rfl rfl (fun _ _ h => V_bool h) (fun hg => OpOk.fieldAddrRef fld_29_8 (Typ.tmp rfl))) rfl rfl ?_
  refine SL.op (OpT.guard rfl rfl rfl (fun _ _ h => V_bool h) (fun hg => OpOk.loadRef ty_3 (Typ.cond hg rfl))) rfl rfl ?_
  refine SL.op (OpT.guard rfl rfl rfl (fun _ _ h => V_bool h) (fun hg => OpOk.fieldAddrRef fld_29_8 (Typ.tmp rfl))) rfl rfl ?_
  refine SL.op (OpT.guard rfl rfl rfl (fun _ _ h => V_bool h) (fun hg => OpOk.loadRef ty_3 (Typ.cond hg rfl))) rfl rfl ?_
  refine SL.op (OpT.guard rfl rfl rfl (fun _ _ h => V_bool h) (fun hg => OpOk.eql (Typ.cond hg rfl) (Typ.cond hg rfl))) rfl rfl ?_
  refine SL.op (OpT.plain rfl (OpOk.pickAnd (Typ.tmp rfl) (fun hb => Typ.cond hb rfl))) rfl rfl ?_
  refine SL.op (OpT.plain rfl (OpOk.move (Typ.tmp rfl))) rfl rfl ?_
  refine SL.op (OpT.guard rfl rfl rfl (fun _ _ h => V_bool h) (fun hg => OpOk.fieldAddrRef fld_29_5 (Typ.tmp rfl))) rfl rfl ?_
  refine SL.op (OpT.guard rfl rfl rfl (fun _ _ h => V_bool h) (fun hg => OpOk.loadRef ty_27 (Typ.cond hg rfl))) rfl rfl ?_
  refine SL.op (OpT.guard rfl rfl rfl (fun _ _ h => V_bool h) (fun hg => OpOk.fieldAddrRef fld_29_5 (Typ.tmp rfl))) rfl rfl ?_
  refine SL.op (OpT.guard rfl rfl rfl (fun _ _ h => V_bool h) (fun hg => OpOk.loadRef ty_27 (Typ.cond hg rfl))) rfl rfl ?_
  refine SL.op (OpT.guard rfl rfl rfl (fun _ _ h => V_bool h) (fun hg => OpOk.call Tryz.call37 Typ.fn (Typs.cons (Typ.cond hg rfl) (Typs.cons (Typ.cond hg rfl) Typs.nil)) (s_innkeepref03_Ints _ _))) rfl rfl ?_
  refine SL.op (OpT.plain rfl (OpOk.pickAnd (Typ.tmp rfl) (fun hb => Typ.cond hb rfl))) rfl rfl ?_
  refine SL.op (OpT.plain rfl (OpOk.move (Typ.tmp rfl))) rfl rfl ?_
  refine SL.op (OpT.guard rfl rfl rfl (fun _ _ h => V_bool h) (fun hg => OpOk.fieldAddrRef fld_29_7 (Typ.tmp rfl))) rfl rfl ?_
  refine SL.op (OpT.guard rfl rfl rfl (fun _ _ h => V_bool h) (fun hg => OpOk.loadRef ty_27 (Typ.cond hg rfl))) rfl rfl ?_
  refine SL.op (OpT.guard rfl rfl rfl (fun _ _ h => V_bool h) (fun hg => OpOk.fieldAddrRef fld_29_7 (Typ.tmp rfl))) rfl rfl ?_
  refine SL.op (OpT.guard rfl rfl rfl (fun _ _ h => V_bool h) (fun hg => OpOk.loadRef ty_27 (Typ.cond hg rfl))) rfl rfl ?_
  refine SL.op (OpT.guard rfl rfl rfl (fun _ _ h => V_bool h) (fun hg => OpOk.call Tryz.call37 Typ.fn (Typs.cons (Typ.cond hg rfl) (Typs.cons (Typ.cond hg rfl) Typs.nil)) (s_innkeepref03_Ints _ _))) rfl rfl ?_
  refine SL.op (OpT.plain rfl (OpOk.pickAnd (Typ.tmp rfl) (fun hb => Typ.cond hb rfl))) rfl rfl ?_
  refine SL.op (OpT.plain rfl (OpOk.assign (Typ.tmp rfl))) rfl rfl ?_
  refine SL.nil ?_
  refine SK.code ?_
  refine SC.ret ?_
  exact SR.one rfl (ResT.eq rfl (by first | ((obtain ⟨⟩ := a; obtain ⟨⟩ := b; rw [Bool.eq_iff_iff]; simp [Cmd.mk.injEq]; try constructor <;> (intro h; simp_all))) | rfl | (simp_all []; done) | (simp_all []; rfl) | (simp_all []; omega)))

/-! innkeep/innkeepref03.May -/
theorem s_innkeepref03_May (c : Cmd) : FnSpec Tryz.prog glob 26 [V c] (V (mayR c)) := by
  refine FnSpec.enter Tryz.func26 rfl rfl rfl fun m0 w0 => ?_
  refine SC.seq ?_
  refine SC.region ?_
  refine SL.op (OpT.plain rfl (OpOk.boxRef (Typ.tmp rfl))) rfl rfl ?_
  refine SL.op (OpT.plain rfl (OpOk.assign Typ.cbool)) rfl rfl ?_
  refine SL.nil ?_
  refine SK.code ?_
  refine SC.seq ?_
  refine SC.region ?_
  refine SL.op (OpT.plain rfl (OpOk.fieldAddrRef fld_29_0 (Typ.tmp rfl))) rfl rfl ?_
  refine SL.op (OpT.plain rfl (OpOk.loadRef ty_3 (Typ.tmp rfl))) rfl rfl ?_
  refine SL.op (OpT.plain rfl (OpOk.assign (Typ.tmp rfl))) rfl rfl ?_
  refine SL.nil ?_
  refine SK.code ?_
  refine SC.seq ?_
  refine SC.seq ?_
  refine SC.region ?_
  refine SL.op (OpT.plain rfl (OpOk.move (Typ.tmp rfl))) rfl rfl ?_
  refine SL.op (OpT.plain rfl (OpOk.lss (Typ.tmp rfl) Typ.cint)) rfl rfl ?_
  refine SL.op (OpT.plain rfl (OpOk.move (Typ.tmp rfl))) rfl rfl ?_
  refine SL.op (OpT.guard rfl rfl rfl (fun _ _ h => V_bool h) (fun hg => OpOk.move (Typ.tmp rfl))) rfl rfl ?_
  refine SL.op (OpT.guard rfl rfl rfl (fun _ _ h => V_bool h) (fun hg => OpOk.gtr (Typ.cond hg rfl) Typ.cint)) rfl rfl ?_
  refine SL.op (OpT.plain rfl (OpOk.pickOr (Typ.tmp rfl) (fun hb => Typ.cond hb rfl))) rfl rfl ?_
  refine SL.op (OpT.plain rfl (OpOk.move (Typ.tmp rfl))) rfl rfl ?_
  refine SL.op (OpT.guard rfl rfl rfl (fun _ _ h => V_bool h) (fun hg => OpOk.fieldAddrRef fld_29_1 (Typ.tmp rfl))) rfl rfl ?_
  refine SL.op (OpT.guard rfl rfl rfl (fun _ _ h => V_bool h) (fun hg => OpOk.loadRef ty_3 (Typ.cond hg rfl))) rfl rfl ?_
  refine SL.op (OpT.guard rfl rfl rfl (fun _ _ h => V_bool h) (fun hg => OpOk.lss (Typ.cond hg rfl) Typ.cint)) rfl rfl ?_
  refine SL.op (OpT.plain rfl (OpOk.pickOr (Typ.tmp rfl) (fun hb => Typ.cond hb rfl))) rfl rfl ?_
  refine SL.op (OpT.plain rfl (OpOk.move (Typ.tmp rfl))) rfl rfl ?_
  refine SL.op (OpT.guard rfl rfl rfl (fun _ _ h => V_bool h) (fun hg => OpOk.fieldAddrRef fld_29_1 (Typ.tmp rfl))) rfl rfl ?_
  refine SL.op (OpT.guard rfl rfl rfl (fun _ _ h => V_bool h) (fun hg => OpOk.loadRef ty_3 (Typ.cond hg rfl))) rfl rfl ?_
  refine SL.op (OpT.guard rfl rfl rfl (fun _ _ h => V_bool h) (fun hg => OpOk.gtr (Typ.cond hg rfl) Typ.cint)) rfl rfl ?_
  refine SL.op (OpT.plain rfl (OpOk.pickOr (Typ.tmp rfl) (fun hb => Typ.cond hb rfl))) rfl rfl ?_
  refine SL.op (OpT.plain rfl (OpOk.move (Typ.tmp rfl))) rfl rfl ?_
  refine SL.op (OpT.guard rfl rfl rfl (fun _ _ h => V_bool h) (fun hg => OpOk.fieldAddrRef fld_29_1 (Typ.tmp rfl))) rfl rfl ?_
  refine SL.op (OpT.guard rfl rfl rfl (fun _ _ h => V_bool h) (fun hg => OpOk.loadRef ty_3 (Typ.cond hg rfl))) rfl rfl ?_
  refine SL.op (OpT.guard rfl rfl rfl (fun _ _ h => V_bool h) (fun hg => OpOk.neq (Typ.cond hg rfl) Typ.cint)) rfl rfl ?_
  refine SL.op (OpT.guard rfl rfl rfl (fun _ _ h => V_bool h) (fun hg => OpOk.move (Typ.cond hg rfl))) rfl rfl ?_
  refine SL.op (OpT.guard2 rfl rfl rfl (fun _ _ h => V_bool h) (fun hc hg => OpOk.move (Typ.tmp rfl))) rfl rfl ?_
  refine SL.op (OpT.guard2 rfl rfl rfl (fun _ _ h => V_bool h) (fun hc hg => OpOk.gtr (Typ.cond ⟨hc, hg⟩ rfl) Typ.cint)) rfl rfl ?_
  refine SL.op (OpT.guard rfl rfl rfl (fun _ _ h => V_bool h) (fun hg => OpOk.pickAnd (Typ.cond hg rfl) (fun hb => Typ.cond ⟨hg, hb⟩ rfl))) rfl rfl ?_
  refine SL.op (OpT.plain rfl (OpOk.pickOr (Typ.tmp rfl) (fun hb => Typ.cond hb rfl))) rfl rfl ?_
  refine SL.nil ?_
  refine SK.code ?_
  refine SC.cond rfl (fun _ _ h => V_bool h) (fun h1 => ?_) (fun h1 => ?_)
  · skip
    try simp only [decide_eq_true_eq, decide_eq_false_iff_not, Bool.and_eq_true, Bool.or_eq_true, Bool.not_eq_true', Bool.not_eq_false', Bool.and_eq_false_iff, Bool.or_eq_false_iff, Bool.not_not, Bool.not_true, Bool.not_false, ne_eq, Classical.not_not, Decidable.not_not] at h1
    refine SC.seq ?_
    refine SC.region ?_
    refine SL.op (OpT.plain rfl (OpOk.assign Typ.cbool)) rfl rfl ?_
    refine SL.nil ?_
    refine SK.code ?_
    refine SC.ret ?_
    exact SR.one rfl (ResT.eq rfl (by first | rfl | (simp_all [mayR]; done) | (simp_all [mayR]; rfl) | (simp_all [mayR]; omega)))
  · skip
    try simp only [decide_eq_true_eq, decide_eq_false_iff_not, Bool.and_eq_true, Bool.or_eq_true, Bool.not_eq_true', Bool.not_eq_false', Bool.and_eq_false_iff, Bool.or_eq_false_iff, Bool.not_not, Bool.not_true, Bool.not_false, ne_eq, Classical.not_not, Decidable.not_not] at h1
    refine SC.skip ?_
    refine SK.code ?_
    refine SC.seq ?_
    refine SC.region ?_
    refine SL.op (OpT.plain rfl (OpOk.fieldAddrRef fld_29_2 (Typ.tmp rfl))) rfl rfl ?_
    refine SL.op (OpT.plain rfl (OpOk.loadRef ty_3 (Typ.tmp rfl))) rfl rfl ?_
    refine SL.op (OpT.plain rfl (OpOk.move (Typ.tmp rfl))) rfl rfl ?_
    refine SL.op (OpT.plain rfl (OpOk.geq (Typ.tmp rfl) Typ.cint)) rfl rfl ?_
    refine SL.op (OpT.plain rfl (OpOk.move (Typ.tmp rfl))) rfl rfl ?_
    refine SL.op (OpT.guard rfl rfl rfl (fun _ _ h => V_bool h) (fun hg => OpOk.move (Typ.tmp rfl))) rfl rfl ?_
    refine SL.op (OpT.guard rfl rfl rfl (fun _ _ h => V_bool h) (fun hg => OpOk.leq (Typ.cond hg rfl) Typ.cint)) rfl rfl ?_
    refine SL.op (OpT.plain rfl (OpOk.pickAnd (Typ.tmp rfl) (fun hb => Typ.cond hb rfl))) rfl rfl ?_
    refine SL.op (OpT.plain rfl (OpOk.call Tryz.call58 Typ.fn (Typs.cons (Typ.tmp rfl) (Typs.cons (Typ.tmp rfl) Typs.nil)) (s_innkeepref03_fit _ _))) rfl rfl ?_
    refine SL.op (OpT.plain rfl (OpOk.move (Typ.tmp rfl))) rfl rfl ?_
    refine SL.op (OpT.guard rfl rfl rfl (fun _ _ h => V_bool h) (fun hg => OpOk.fieldAddrRef fld_29_3 (Typ.tmp rfl))) rfl rfl ?_
    refine SL.op (OpT.guard rfl rfl rfl (fun _ _ h => V_bool h) (fun hg => OpOk.loadRef ty_3 (Typ.cond hg rfl))) rfl rfl ?_
    refine SL.op (OpT.guard rfl rfl rfl (fun _ _ h => V_bool h) (fun hg => OpOk.move (Typ.tmp rfl))) rfl rfl ?_
    refine SL.op (OpT.guard rfl rfl rfl (fun _ _ h => V_bool h) (fun hg => OpOk.eql (Typ.cond hg rfl) Typ.cint)) rfl rfl ?_
    refine SL.op (OpT.guard rfl rfl rfl (fun _ _ h => V_bool h) (fun hg => OpOk.move (Typ.cond hg rfl))) rfl rfl ?_
    refine SL.op (OpT.guard2 rfl rfl rfl (fun _ _ h => V_bool h) (fun hc hg => OpOk.move (Typ.tmp rfl))) rfl rfl ?_
    refine SL.op (OpT.guard2 rfl rfl rfl (fun _ _ h => V_bool h) (fun hc hg => OpOk.eql (Typ.cond ⟨hc, hg⟩ rfl) Typ.cint)) rfl rfl ?_
    refine SL.op (OpT.guard rfl rfl rfl (fun _ _ h => V_bool h) (fun hg => OpOk.pickOr (Typ.cond hg rfl) (fun hb => Typ.cond ⟨hg, hb⟩ rfl))) rfl rfl ?_
    refine SL.op (OpT.guard rfl rfl rfl (fun _ _ h => V_bool h) (fun hg => OpOk.call Tryz.call58 Typ.fn (Typs.cons (Typ.cond hg rfl) (Typs.cons (Typ.cond hg rfl) Typs.nil)) (s_innkeepref03_fit _ _))) rfl rfl ?_
    refine SL.op (OpT.plain rfl (OpOk.pickAnd (Typ.tmp rfl) (fun hb => Typ.cond hb rfl))) rfl rfl ?_
    refine SL.op (OpT.plain rfl (OpOk.move (Typ.tmp rfl))) rfl rfl ?_
    refine SL.op (OpT.guard rfl rfl rfl (fun _ _ h => V_bool h) (fun hg => OpOk.fieldAddrRef fld_29_4 (Typ.tmp rfl))) rfl rfl ?_
    refine SL.op (OpT.guard rfl rfl rfl (fun _ _ h => V_bool h) (fun hg => OpOk.loadRef ty_3 (Typ.cond hg rfl))) rfl rfl ?_
    refine SL.op (OpT.guard rfl rfl rfl (fun _ _ h => V_bool h) (fun hg => OpOk.move (Typ.tmp rfl))) rfl rfl ?_
    refine SL.op (OpT.guard rfl rfl rfl (fun _ _ h => V_bool h) (fun hg => OpOk.eql (Typ.cond hg rfl) Typ.cint)) rfl rfl ?_
    refine SL.op (OpT.guard rfl rfl rfl (fun _ _ h => V_bool h) (fun hg => OpOk.move (Typ.cond hg rfl))) rfl rfl ?_
    refine SL.op (OpT.guard2 rfl rfl rfl (fun _ _ h => V_bool h) (fun hc hg => OpOk.move (Typ.tmp rfl))) rfl rfl ?_
    refine SL.op (OpT.guard2 rfl rfl rfl (fun _ _ h => V_bool h) (fun hc hg => OpOk.eql (Typ.cond ⟨hc, hg⟩ rfl) Typ.cint)) rfl rfl ?_
    refine SL.op (OpT.guard rfl rfl rfl (fun _ _ h => V_bool h) (fun hg => OpOk.pickOr (Typ.cond hg rfl) (fun hb => Typ.cond ⟨hg, hb⟩ rfl))) rfl rfl ?_
    refine SL.op (OpT.guard rfl rfl rfl (fun _ _ h => V_bool h) (fun hg => OpOk.move (Typ.cond hg rfl))) rfl rfl ?_
    refine SL.op (OpT.guard2 rfl rfl rfl (fun _ _ h => V_bool h) (fun hc hg => OpOk.move (Typ.tmp rfl))) rfl rfl ?_
    refine SL.op (OpT.guard2 rfl rfl rfl (fun _ _ h => V_bool h) (fun hc hg => OpOk.eql (Typ.cond ⟨hc, hg⟩ rfl) Typ.cint)) rfl rfl ?_
    refine SL.op (OpT.guard rfl rfl rfl (fun _ _ h => V_bool h) (fun hg => OpOk.pickOr (Typ.cond hg rfl) (fun hb => Typ.cond ⟨hg, hb⟩ rfl))) rfl rfl ?_
    refine SL.op (OpT.guard rfl rfl rfl (fun _ _ h => V_bool h) (fun hg => OpOk.call Tryz.call58 Typ.fn (Typs.cons (Typ.cond hg rfl) (Typs.cons (Typ.cond hg rfl) Typs.nil)) (s_innkeepref03_fit _ _))) rfl rfl ?_
    refine SL.op (OpT.plain rfl (OpOk.pickAnd (Typ.tmp rfl) (fun hb => Typ.cond hb rfl))) rfl rfl ?_
    refine SL.op (OpT.plain rfl (OpOk.move (Typ.tmp rfl))) rfl rfl ?_
    refine SL.op (OpT.guard rfl rfl rfl (fun _ _ h => V_bool h) (fun hg => OpOk.fieldAddrRef fld_29_6 (Typ.tmp rfl))) rfl rfl ?_
    refine SL.op (OpT.guard rfl rfl rfl (fun _ _ h => V_bool h) (fun hg => OpOk.loadRef ty_3 (Typ.cond hg rfl))) rfl rfl ?_
    refine SL.op (OpT.guard rfl rfl rfl (fun _ _ h => V_bool h) (fun hg => OpOk.move (Typ.tmp rfl))) rfl rfl ?_
    refine SL.op (OpT.guard rfl rfl rfl (fun _ _ h => V_bool h) (fun hg => OpOk.eql (Typ.cond hg rfl) Typ.cint)) rfl rfl ?_
    refine SL.op (OpT.guard rfl rfl rfl (fun _ _ h => V_bool h) (fun hg => OpOk.call Tryz.call58 Typ.fn (Typs.cons (Typ.cond hg rfl) (Typs.cons (Typ.cond hg rfl) Typs.nil)) (s_innkeepref03_fit _ _))) rfl rfl ?_
    refine SL.op (OpT.plain rfl (OpOk.pickAnd (Typ.tmp rfl) (fun hb => Typ.cond hb rfl))) rfl rfl ?_
    refine SL.op (OpT.plain rfl (OpOk.move (Typ.tmp rfl))) rfl rfl ?_
    refine SL.op (OpT.guard rfl rfl rfl (fun _ _ h => V_bool h) (fun hg => OpOk.fieldAddrRef fld_29_8 (Typ.tmp rfl))) rfl rfl ?_
    refine SL.op (OpT.guard rfl rfl rfl (fun _ _ h => V_bool h) (fun hg => OpOk.loadRef ty_3 (Typ.cond hg rfl))) rfl rfl ?_
    refine SL.op (OpT.guard rfl rfl rfl (fun _ _ h => V_bool h) (fun hg => OpOk.move (Typ.tmp rfl))) rfl rfl ?_
    refine SL.op (OpT.guard rfl rfl rfl (fun _ _ h => V_bool h) (fun hg => OpOk.eql (Typ.cond hg rfl) Typ.cint)) rfl rfl ?_
    refine SL.op (OpT.guard rfl rfl rfl (fun _ _ h => V_bool h) (fun hg => OpOk.call Tryz.call58 Typ.fn (Typs.cons (Typ.cond hg rfl) (Typs.cons (Typ.cond hg rfl) Typs.nil)) (s_innkeepref03_fit _ _))) rfl rfl ?_
    refine SL.op (OpT.plain rfl (OpOk.pickAnd (Typ.tmp rfl) (fun hb => Typ.cond hb rfl))) rfl rfl ?_
    refine SL.op (OpT.plain rfl (OpOk.move (Typ.tmp rfl))) rfl rfl ?_
    refine SL.op (OpT.guard rfl rfl rfl (fun _ _ h => V_bool h) (fun hg => OpOk.fieldAddrRef fld_29_5 (Typ.tmp rfl))) rfl rfl ?_
    refine SL.op (OpT.guard rfl rfl rfl (fun _ _ h => V_bool h) (fun hg => OpOk.loadRef ty_27 (Typ.cond hg rfl))) rfl rfl ?_
    refine SL.op (OpT.guard rfl rfl rfl (fun _ _ h => V_bool h) (fun hg => OpOk.move (Typ.tmp rfl))) rfl rfl ?_
    refine SL.op (OpT.guard rfl rfl rfl (fun _ _ h => V_bool h) (fun hg => OpOk.eql (Typ.cond hg rfl) Typ.cint)) rfl rfl ?_
    refine SL.op (OpT.guard rfl rfl rfl (fun _ _ h => V_bool h) (fun hg => OpOk.call Tryz.call59 Typ.fn (Typs.cons (Typ.cond hg rfl) (Typs.cons (Typ.cond hg rfl) Typs.nil)) (s_innkeepref03_row _ _))) rfl rfl ?_
    refine SL.op (OpT.plain rfl (OpOk.pickAnd (Typ.tmp rfl) (fun hb => Typ.cond hb rfl))) rfl rfl ?_
    refine SL.op (OpT.plain rfl (OpOk.move (Typ.tmp rfl))) rfl rfl ?_
    refine SL.op (OpT.guard rfl rfl rfl (fun _ _ h => V_bool h) (fun hg => OpOk.fieldAddrRef fld_29_7 (Typ.tmp rfl))) rfl rfl ?_
    refine SL.op (OpT.guard rfl rfl rfl (fun _ _ h => V_bool h) (fun hg => OpOk.loadRef ty_27 (Typ.cond hg rfl))) rfl rfl ?_
    refine SL.op (OpT.guard rfl rfl rfl (fun _ _ h => V_bool h) (fun hg => OpOk.move (Typ.tmp rfl))) rfl rfl ?_
    refine SL.op (OpT.guard rfl rfl rfl (fun _ _ h => V_bool h) (fun hg => OpOk.eql (Typ.cond hg rfl) Typ.cint)) rfl rfl ?_
    refine SL.op (OpT.guard rfl rfl rfl (fun _ _ h => V_bool h) (fun hg => OpOk.call Tryz.call59 Typ.fn (Typs.cons (Typ.cond hg rfl) (Typs.cons (Typ.cond hg rfl) Typs.nil)) (s_innkeepref03_row _ _))) rfl rfl ?_
    refine SL.op (OpT.plain rfl (OpOk.pickAnd (Typ.tmp rfl) (fun hb => Typ.cond hb rfl))) rfl rfl ?_
    refine SL.op (OpT.plain rfl (OpOk.assign (Typ.tmp rfl))) rfl rfl ?_
    refine SL.nil ?_
    refine SK.code ?_
    refine SC.ret ?_
    exact SR.one rfl (ResT.eq rfl (by first | rfl | (simp_all [mayR]; done) | (simp_all [mayR]; rfl) | (simp_all [mayR]; omega)))

/-! innkeep/innkeepref03.Few -/
theorem s_innkeepref03_Few (c : Cmd) : FnSpec Tryz.prog glob 22 [V c] (V (decide (c.gives.length ≤ 40) && decide (c.wants.length ≤ 40))) := by
  refine FnSpec.enter Tryz.func22 rfl rfl rfl fun m0 w0 => ?_
  refine SC.seq ?_
  refine SC.region ?_
  refine SL.op (OpT.plain rfl (OpOk.boxRef (Typ.tmp rfl))) rfl rfl ?_
  refine SL.op (OpT.plain rfl (OpOk.assign Typ.cbool)) rfl rfl ?_
  refine SL.nil ?_
  refine SK.code ?_
  refine SC.seq ?_
  refine SC.region ?_
  refine SL.op (OpT.plain rfl (OpOk.fieldAddrRef fld_29_5 (Typ.tmp rfl))) rfl rfl ?_
  refine SL.op (OpT.plain rfl (OpOk.loadRef ty_27 (Typ.tmp rfl))) rfl rfl ?_
  refine SL.op (OpT.plain rfl (OpOk.lenList Tryz.underlying27 (Typ.tmp rfl))) rfl rfl ?_
  refine SL.op (OpT.plain rfl (OpOk.leq (Typ.tmp rfl) Typ.cint)) rfl rfl ?_
  refine SL.op (OpT.plain rfl (OpOk.move (Typ.tmp rfl))) rfl rfl ?_
  refine SL.op (OpT.guard rfl rfl rfl (fun _ _ h => V_bool h) (fun hg => OpOk.fieldAddrRef fld_29_7 (Typ.tmp rfl))) rfl rfl ?_
  refine SL.op (OpT.guard rfl rfl rfl (fun _ _ h => V_bool h) (fun hg => OpOk.loadRef ty_27 (Typ.cond hg rfl))) rfl rfl ?_
  refine SL.op (OpT.guard rfl rfl rfl (fun _ _ h => V_bool h) (fun hg => OpOk.lenList Tryz.underlying27 (Typ.cond hg rfl))) rfl rfl ?_
  refine SL.op (OpT.guard rfl rfl rfl (fun _ _ h => V_bool h) (fun hg => OpOk.leq (Typ.cond hg rfl) Typ.cint)) rfl rfl ?_
  refine SL.op (OpT.plain rfl (OpOk.pickAnd (Typ.tmp rfl) (fun hb => Typ.cond hb rfl))) rfl rfl ?_
  refine SL.op (OpT.plain rfl (OpOk.assign (Typ.tmp rfl))) rfl rfl ?_
  refine SL.nil ?_
  refine SK.code ?_
  refine SC.ret ?_
  exact SR.one rfl (ResT.eq rfl (by first | ((congr 1 <;> (rw [decide_eq_decide]; omega))) | rfl | (simp_all []; done) | (simp_all []; rfl) | (simp_all []; omega)))
end Go.Proofs.YtgnblhmejecgfaaGreatDoor
