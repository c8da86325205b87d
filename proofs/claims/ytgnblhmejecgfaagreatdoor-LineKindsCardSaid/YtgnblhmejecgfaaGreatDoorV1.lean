/- Layer 3: commands: what each function answers. -/
import Derived.Test.YtgnblhmejecgfaaGreatDoorP
set_option linter.all false

namespace Go.Proofs.YtgnblhmejecgfaaGreatDoor
open Go Go.RowKit Go.Inn
set_option linter.unusedSimpArgs false
set_option linter.unusedVariables false
set_option maxRecDepth 100000
/-! innkeep/cmd.fit -/
theorem s_cmd_fit (n : Int) : FnSpec Tryz.prog glob 82 [V n] (V (fitB n)) := by
  refine FnSpec.enter Tryz.func82 rfl rfl rfl fun m0 w0 => ?_
  refine SC.learnInt (t := 0) rfl fun hp0 => ?_
  refine SC.seq ?_
  refine SC.region ?_
  refine SL.op (OpT.plain rfl (OpOk.assign Typ.cbool)) rfl rfl ?_
  refine SL.nil ?_
  refine SK.code ?_
  refine SC.seq ?_
  refine SC.region ?_
  refine SL.op (OpT.plain rfl (OpOk.move (Typ.tmp rfl))) rfl rfl ?_
  refine SL.op (OpT.plain rfl (OpOk.geq (Typ.tmp rfl) Typ.cint)) rfl rfl ?_
  refine SL.op (OpT.plain rfl (OpOk.move (Typ.tmp rfl))) rfl rfl ?_
  refine SL.op (OpT.guard rfl rfl rfl (fun _ _ h => V_bool h) (fun hg => OpOk.move (Typ.tmp rfl))) rfl rfl ?_
  refine SL.op (OpT.guard rfl rfl rfl (fun _ _ h => V_bool h) (fun hg => OpOk.leq (Typ.cond hg rfl) Typ.cint)) rfl rfl ?_
  refine SL.op (OpT.plain rfl (OpOk.pickAnd (Typ.tmp rfl) (fun hb => Typ.cond hb rfl))) rfl rfl ?_
  refine SL.op (OpT.plain rfl (OpOk.assign (Typ.tmp rfl))) rfl rfl ?_
  refine SL.nil ?_
  refine SK.code ?_
  refine SC.ret ?_
  exact SR.one rfl (ResT.eq rfl (by first | rfl | (simp_all []; done) | (simp_all []; rfl) | (simp_all []; omega)))

/-! innkeep/innkeepref03.fit -/
theorem s_innkeepref03_fit (n : Int) (h : Bool) : FnSpec Tryz.prog glob 58 [V n, V h] (V (fitH h n)) := by
  refine FnSpec.enter Tryz.func58 rfl rfl rfl fun m0 w0 => ?_
  refine SC.learnInt (t := 0) rfl fun hp0 => ?_
  refine SC.seq ?_
  refine SC.region ?_
  refine SL.op (OpT.plain rfl (OpOk.assign Typ.cbool)) rfl rfl ?_
  refine SL.nil ?_
  refine SK.code ?_
  refine SC.seq ?_
  refine SC.seq ?_
  refine SC.region ?_
  refine SL.op (OpT.plain rfl (OpOk.move (Typ.tmp rfl))) rfl rfl ?_
  refine SL.op (OpT.plain rfl (OpOk.not (Typ.tmp rfl))) rfl rfl ?_
  refine SL.nil ?_
  refine SK.code ?_
  refine SC.cond rfl (fun _ _ h => V_bool h) (fun h1 => ?_) (fun h1 => ?_)
  · skip
    try simp only [decide_eq_true_eq, decide_eq_false_iff_not, Bool.and_eq_true, Bool.or_eq_true, Bool.not_eq_true', Bool.not_eq_false', Bool.and_eq_false_iff, Bool.or_eq_false_iff, Bool.not_not, Bool.not_true, Bool.not_false, ne_eq, Classical.not_not, Decidable.not_not] at h1
    refine SC.seq ?_
    refine SC.region ?_
    refine SL.op (OpT.plain rfl (OpOk.move (Typ.tmp rfl))) rfl rfl ?_
    refine SL.op (OpT.plain rfl (OpOk.eql (Typ.tmp rfl) Typ.cint)) rfl rfl ?_
    refine SL.op (OpT.plain rfl (OpOk.assign (Typ.tmp rfl))) rfl rfl ?_
    refine SL.nil ?_
    refine SK.code ?_
    refine SC.ret ?_
    exact SR.one rfl (ResT.eq rfl (by first | rfl | (simp_all [fitB, fitH]; done) | (simp_all [fitB, fitH]; rfl) | (simp_all [fitB, fitH]; omega)))
  · skip
    try simp only [decide_eq_true_eq, decide_eq_false_iff_not, Bool.and_eq_true, Bool.or_eq_true, Bool.not_eq_true', Bool.not_eq_false', Bool.and_eq_false_iff, Bool.or_eq_false_iff, Bool.not_not, Bool.not_true, Bool.not_false, ne_eq, Classical.not_not, Decidable.not_not] at h1
    refine SC.skip ?_
    refine SK.code ?_
    refine SC.seq ?_
    refine SC.region ?_
    refine SL.op (OpT.plain rfl (OpOk.move (Typ.tmp rfl))) rfl rfl ?_
    refine SL.op (OpT.plain rfl (OpOk.geq (Typ.tmp rfl) Typ.cint)) rfl rfl ?_
    refine SL.op (OpT.plain rfl (OpOk.move (Typ.tmp rfl))) rfl rfl ?_
    refine SL.op (OpT.guard rfl rfl rfl (fun _ _ h => V_bool h) (fun hg => OpOk.move (Typ.tmp rfl))) rfl rfl ?_
    refine SL.op (OpT.guard rfl rfl rfl (fun _ _ h => V_bool h) (fun hg => OpOk.leq (Typ.cond hg rfl) Typ.cint)) rfl rfl ?_
    refine SL.op (OpT.plain rfl (OpOk.pickAnd (Typ.tmp rfl) (fun hb => Typ.cond hb rfl))) rfl rfl ?_
    refine SL.op (OpT.plain rfl (OpOk.assign (Typ.tmp rfl))) rfl rfl ?_
    refine SL.nil ?_
    refine SK.code ?_
    refine SC.ret ?_
    exact SR.one rfl (ResT.eq rfl (by first | rfl | (simp_all [fitB, fitH]; done) | (simp_all [fitB, fitH]; rfl) | (simp_all [fitB, fitH]; omega)))

/-! innkeep/cmd.of -/
theorem s_cmd_of (c : Cmd) : FnSpec Tryz.prog glob 63 [V c] (V (CPl c)) := by
  refine FnSpec.enter Tryz.func63 rfl rfl rfl fun m0 w0 => ?_
  refine SC.seq ?_
  refine SC.region ?_
  refine SL.op (OpT.plain rfl (OpOk.boxRef (Typ.tmp rfl))) rfl rfl ?_
  refine SL.allocOwn tyz_102 rfl fun b1 => ?_
  refine SL.nil ?_
  refine SK.code ?_
  refine SC.seq ?_
  refine SC.region ?_
  refine SL.op (OpT.plain rfl (OpOk.fieldAddrRef fld_29_0 (Typ.tmp rfl))) rfl rfl ?_
  refine SL.op (OpT.plain rfl (OpOk.loadRef ty_3 (Typ.tmp rfl))) rfl rfl ?_
  refine SL.op (OpT.plain rfl (OpOk.fieldAddrRef fld_29_1 (Typ.tmp rfl))) rfl rfl ?_
  refine SL.op (OpT.plain rfl (OpOk.loadRef ty_3 (Typ.tmp rfl))) rfl rfl ?_
  refine SL.op (OpT.plain rfl (OpOk.fieldAddrRef fld_29_2 (Typ.tmp rfl))) rfl rfl ?_
  refine SL.op (OpT.plain rfl (OpOk.loadRef ty_3 (Typ.tmp rfl))) rfl rfl ?_
  refine SL.op (OpT.plain rfl (OpOk.fieldAddrRef fld_29_3 (Typ.tmp rfl))) rfl rfl ?_
  refine SL.op (OpT.plain rfl (OpOk.loadRef ty_3 (Typ.tmp rfl))) rfl rfl ?_
  refine SL.op (OpT.plain rfl (OpOk.fieldAddrRef fld_29_4 (Typ.tmp rfl))) rfl rfl ?_
  refine SL.op (OpT.plain rfl (OpOk.loadRef ty_3 (Typ.tmp rfl))) rfl rfl ?_
  refine SL.op (OpT.plain rfl (OpOk.fieldAddrRef fld_29_6 (Typ.tmp rfl))) rfl rfl ?_
  refine SL.op (OpT.plain rfl (OpOk.loadRef ty_3 (Typ.tmp rfl))) rfl rfl ?_
  refine SL.op (OpT.plain rfl (OpOk.fieldAddrRef fld_29_8 (Typ.tmp rfl))) rfl rfl ?_
  refine SL.op (OpT.plain rfl (OpOk.loadRef ty_3 (Typ.tmp rfl))) rfl rfl ?_
  refine SL.op (OpT.plain rfl (OpOk.build tys_102 (Parts.cons CPlain.l_kind rfl (Typ.tmp rfl) (Parts.cons CPlain.l_dir rfl (Typ.tmp rfl) (Parts.cons CPlain.l_item rfl (Typ.tmp rfl) (Parts.cons CPlain.l_box rfl (Typ.tmp rfl) (Parts.cons CPlain.l_who rfl (Typ.tmp rfl) (Parts.cons CPlain.l_pay rfl (Typ.tmp rfl) (Parts.cons CPlain.l_fee rfl (Typ.tmp rfl) Parts.nil))))))))) rfl rfl ?_
  refine SL.opW (OpW.storeOwn ty_102 (Lens.id _) (i := 0) rfl rfl (Typ.tmp rfl) (Typ.tmp rfl)) ?_
  refine SL.nil ?_
  refine SK.code ?_
  refine SC.ret ?_
  exact SR.one rfl (ResT.own ty_102 rfl (k := 0) rfl (by first | rfl | (simp_all []; done) | (simp_all []; rfl) | (simp_all []; omega)))

/-! innkeep/cmd.bare -/
theorem s_cmd_bare (c : Cmd) : FnSpec Tryz.prog glob 81 [V c] (V (bareC c)) := by
  refine FnSpec.enter Tryz.func81 rfl rfl rfl fun m0 w0 => ?_
  refine SC.seq ?_
  refine SC.region ?_
  refine SL.op (OpT.plain rfl (OpOk.boxRef (Typ.tmp rfl))) rfl rfl ?_
  refine SL.allocOwn tyz_29 rfl fun b1 => ?_
  refine SL.nil ?_
  refine SK.code ?_
  refine SC.seq ?_
  refine SC.region ?_
  refine SL.op (OpT.plain rfl (OpOk.fieldAddrRef fld_29_0 (Typ.tmp rfl))) rfl rfl ?_
  refine SL.op (OpT.plain rfl (OpOk.loadRef ty_3 (Typ.tmp rfl))) rfl rfl ?_
  refine SL.op (OpT.plain rfl (OpOk.build tys_29 (Parts.cons Cmd.l_kind rfl (Typ.tmp rfl) Parts.nil))) rfl rfl ?_
  refine SL.allocOwn tyz_29 rfl fun b2 => ?_
  refine SL.opW (OpW.storeOwn ty_29 (Lens.id _) (i := 1) rfl rfl (Typ.tmp rfl) (Typ.tmp rfl)) ?_
  refine SL.nil ?_
  refine SK.code ?_
  refine SC.seq ?_
  refine SC.seq ?_
  refine SC.region ?_
  refine SL.op (OpT.plain rfl (OpOk.fieldAddrRef fld_29_0 (Typ.tmp rfl))) rfl rfl ?_
  refine SL.op (OpT.plain rfl (OpOk.loadRef ty_3 (Typ.tmp rfl))) rfl rfl ?_
  refine SL.nil ?_
  refine SK.code ?_
  refine SC.block ?_
  refine SC.seq ?_
  refine SC.region ?_
  refine SL.op (OpT.plain rfl (OpOk.eql (Typ.tmp rfl) Typ.cint)) rfl rfl ?_
  refine SL.op (OpT.plain rfl (OpOk.assign (Typ.tmp rfl))) rfl rfl ?_
  refine SL.nil ?_
  refine SK.code ?_
  refine SC.cond rfl (fun _ _ h => V_bool h) (fun h3 => ?_) (fun h3 => ?_)
  · skip
    try simp only [decide_eq_true_eq, decide_eq_false_iff_not, Bool.and_eq_true, Bool.or_eq_true, Bool.not_eq_true', Bool.not_eq_false', Bool.and_eq_false_iff, Bool.or_eq_false_iff, Bool.not_not, Bool.not_true, Bool.not_false, ne_eq, Classical.not_not, Decidable.not_not] at h3
    refine SC.region ?_
    refine SL.op (OpT.plain rfl (OpOk.fieldAddrRef fld_29_1 (Typ.tmp rfl))) rfl rfl ?_
    refine SL.op (OpT.plain rfl (OpOk.loadRef ty_3 (Typ.tmp rfl))) rfl rfl ?_
    refine SL.op (OpT.plain rfl (OpOk.fieldAddrOwn fld_29_1 (Typ.tmp rfl))) rfl rfl ?_
    refine SL.opW (OpW.storeOwn ty_3 Cmd.l_dir (i := 1) rfl rfl (Typ.tmp rfl) (Typ.tmp rfl)) ?_
    refine SL.nil ?_
    refine SK.blk ?_
    refine SK.code ?_
    refine SC.seq ?_
    refine SC.region ?_
    refine SL.op (OpT.plain rfl (OpOk.loadOwn ty_29 (Lens.id _) (k := 1) rfl rfl (Typ.tmp rfl))) rfl rfl ?_
    refine SL.opW (OpW.storeOwn ty_29 (Lens.id _) (i := 0) rfl rfl (Typ.tmp rfl) (Typ.tmp rfl)) ?_
    refine SL.nil ?_
    refine SK.code ?_
    refine SC.ret ?_
    exact SR.one rfl (ResT.own ty_29 rfl (k := 0) rfl (by first | rfl | (simp_all [bareC]; done) | (simp_all [bareC]; rfl) | (simp_all [bareC]; omega)))
  · skip
    try simp only [decide_eq_true_eq, decide_eq_false_iff_not, Bool.and_eq_true, Bool.or_eq_true, Bool.not_eq_true', Bool.not_eq_false', Bool.and_eq_false_iff, Bool.or_eq_false_iff, Bool.not_not, Bool.not_true, Bool.not_false, ne_eq, Classical.not_not, Decidable.not_not] at h3
    refine SC.seq ?_
    refine SC.region ?_
    refine SL.op (OpT.plain rfl (OpOk.eql (Typ.tmp rfl) Typ.cint)) rfl rfl ?_
    refine SL.op (OpT.plain rfl (OpOk.assign (Typ.tmp rfl))) rfl rfl ?_
    refine SL.nil ?_
    refine SK.code ?_
    refine SC.cond rfl (fun _ _ h => V_bool h) (fun h4 => ?_) (fun h4 => ?_)
    · skip
      try simp only [decide_eq_true_eq, decide_eq_false_iff_not, Bool.and_eq_true, Bool.or_eq_true, Bool.not_eq_true', Bool.not_eq_false', Bool.and_eq_false_iff, Bool.or_eq_false_iff, Bool.not_not, Bool.not_true, Bool.not_false, ne_eq, Classical.not_not, Decidable.not_not] at h4
      refine DR.start ?_
      refine DR.op (fun _ => (OpT.plain rfl (OpOk.fieldAddrRef fld_29_4 (Typ.tmp rfl)))) rfl rfl ?_
      refine DR.op (fun _ => (OpT.plain rfl (OpOk.loadRef ty_3 (Typ.tmp rfl)))) rfl rfl ?_
      refine DR.op (fun _ => (OpT.plain rfl (OpOk.fieldAddrRef fld_29_1 (Typ.tmp rfl)))) rfl rfl ?_
      refine DR.op (fun _ => (OpT.plain rfl (OpOk.loadRef ty_3 (Typ.tmp rfl)))) rfl rfl ?_
      refine DR.op (fun _ => (OpT.plain rfl (OpOk.fieldAddrOwn fld_29_4 (Typ.tmp rfl)))) rfl rfl ?_
      refine DR.wr (OpW.storeOwn ty_3 Cmd.l_who (i := 1) rfl rfl (Typ.tmp rfl) (Typ.tmp rfl)) rfl rfl ?_
      refine DR.op (fun _ => (OpT.plain rfl (OpOk.fieldAddrOwn fld_29_1 (Typ.tmp rfl)))) rfl rfl ?_
      refine DR.wr (OpW.storeOwn ty_3 Cmd.l_dir (i := 1) rfl rfl (Typ.tmp rfl) (Typ.tmp rfl)) rfl rfl ?_
      refine DR.tail rfl (by decide +kernel) (show dstBelow _ 63 = true by decide +kernel) rfl ?_
      refine SL.nil ?_
      refine SK.blk ?_
      refine SK.code ?_
      refine SC.seq ?_
      refine SC.region ?_
      refine SL.op (OpT.plain rfl (OpOk.loadOwn ty_29 (Lens.id _) (k := 1) rfl rfl (Typ.tmp rfl))) rfl rfl ?_
      refine SL.opW (OpW.storeOwn ty_29 (Lens.id _) (i := 0) rfl rfl (Typ.tmp rfl) (Typ.tmp rfl)) ?_
      refine SL.nil ?_
      refine SK.code ?_
      refine SC.ret ?_
      exact SR.one rfl (ResT.own ty_29 rfl (k := 0) rfl (by first | rfl | (simp_all [bareC]; done) | (simp_all [bareC]; rfl) | (simp_all [bareC]; omega)))
    · skip
      try simp only [decide_eq_true_eq, decide_eq_false_iff_not, Bool.and_eq_true, Bool.or_eq_true, Bool.not_eq_true', Bool.not_eq_false', Bool.and_eq_false_iff, Bool.or_eq_false_iff, Bool.not_not, Bool.not_true, Bool.not_false, ne_eq, Classical.not_not, Decidable.not_not] at h4
      refine SC.seq ?_
      refine SC.seq ?_
      refine SC.region ?_
      refine SL.op (OpT.plain rfl (OpOk.eql (Typ.tmp rfl) Typ.cint)) rfl rfl ?_
      refine SL.op (OpT.plain rfl (OpOk.assign (Typ.tmp rfl))) rfl rfl ?_
      refine SL.nil ?_
      refine SK.code ?_
      refine SC.cond rfl (fun _ _ h => V_bool h) (fun h5 => ?_) (fun h5 => ?_)
      · skip
        try simp only [decide_eq_true_eq, decide_eq_false_iff_not, Bool.and_eq_true, Bool.or_eq_true, Bool.not_eq_true', Bool.not_eq_false', Bool.and_eq_false_iff, Bool.or_eq_false_iff, Bool.not_not, Bool.not_true, Bool.not_false, ne_eq, Classical.not_not, Decidable.not_not] at h5
        refine SC.skip ?_
        refine SK.code ?_
        refine SC.cond rfl (fun _ _ h => V_bool h) (fun h6 => ?_) (fun h6 => ?_)
        · skip
          try simp only [decide_eq_true_eq, decide_eq_false_iff_not, Bool.and_eq_true, Bool.or_eq_true, Bool.not_eq_true', Bool.not_eq_false', Bool.and_eq_false_iff, Bool.or_eq_false_iff, Bool.not_not, Bool.not_true, Bool.not_false, ne_eq, Classical.not_not, Decidable.not_not] at h6
          refine SC.region ?_
          refine SL.op (OpT.plain rfl (OpOk.fieldAddrRef fld_29_2 (Typ.tmp rfl))) rfl rfl ?_
          refine SL.op (OpT.plain rfl (OpOk.loadRef ty_3 (Typ.tmp rfl))) rfl rfl ?_
          refine SL.op (OpT.plain rfl (OpOk.fieldAddrOwn fld_29_2 (Typ.tmp rfl))) rfl rfl ?_
          refine SL.opW (OpW.storeOwn ty_3 Cmd.l_item (i := 1) rfl rfl (Typ.tmp rfl) (Typ.tmp rfl)) ?_
          refine SL.nil ?_
          refine SK.blk ?_
          refine SK.code ?_
          refine SC.seq ?_
          refine SC.region ?_
          refine SL.op (OpT.plain rfl (OpOk.loadOwn ty_29 (Lens.id _) (k := 1) rfl rfl (Typ.tmp rfl))) rfl rfl ?_
          refine SL.opW (OpW.storeOwn ty_29 (Lens.id _) (i := 0) rfl rfl (Typ.tmp rfl) (Typ.tmp rfl)) ?_
          refine SL.nil ?_
          refine SK.code ?_
          refine SC.ret ?_
          exact SR.one rfl (ResT.own ty_29 rfl (k := 0) rfl (by first | rfl | (simp_all [bareC]; done) | (simp_all [bareC]; rfl) | (simp_all [bareC]; omega)))
        · skip
          try simp only [decide_eq_true_eq, decide_eq_false_iff_not, Bool.and_eq_true, Bool.or_eq_true, Bool.not_eq_true', Bool.not_eq_false', Bool.and_eq_false_iff, Bool.or_eq_false_iff, Bool.not_not, Bool.not_true, Bool.not_false, ne_eq, Classical.not_not, Decidable.not_not] at h6
          first | contradiction | (exfalso; omega) | (exfalso; simp_all; done)
      · skip
        try simp only [decide_eq_true_eq, decide_eq_false_iff_not, Bool.and_eq_true, Bool.or_eq_true, Bool.not_eq_true', Bool.not_eq_false', Bool.and_eq_false_iff, Bool.or_eq_false_iff, Bool.not_not, Bool.not_true, Bool.not_false, ne_eq, Classical.not_not, Decidable.not_not] at h5
        refine SC.region ?_
        refine SL.op (OpT.plain rfl (OpOk.eql (Typ.tmp rfl) Typ.cint)) rfl rfl ?_
        refine SL.op (OpT.plain rfl (OpOk.assign (Typ.tmp rfl))) rfl rfl ?_
        refine SL.nil ?_
        refine SK.code ?_
        refine SC.cond rfl (fun _ _ h => V_bool h) (fun h7 => ?_) (fun h7 => ?_)
        · skip
          try simp only [decide_eq_true_eq, decide_eq_false_iff_not, Bool.and_eq_true, Bool.or_eq_true, Bool.not_eq_true', Bool.not_eq_false', Bool.and_eq_false_iff, Bool.or_eq_false_iff, Bool.not_not, Bool.not_true, Bool.not_false, ne_eq, Classical.not_not, Decidable.not_not] at h7
          refine SC.region ?_
          refine SL.op (OpT.plain rfl (OpOk.fieldAddrRef fld_29_2 (Typ.tmp rfl))) rfl rfl ?_
          refine SL.op (OpT.plain rfl (OpOk.loadRef ty_3 (Typ.tmp rfl))) rfl rfl ?_
          refine SL.op (OpT.plain rfl (OpOk.fieldAddrOwn fld_29_2 (Typ.tmp rfl))) rfl rfl ?_
          refine SL.opW (OpW.storeOwn ty_3 Cmd.l_item (i := 1) rfl rfl (Typ.tmp rfl) (Typ.tmp rfl)) ?_
          refine SL.nil ?_
          refine SK.blk ?_
          refine SK.code ?_
          refine SC.seq ?_
          refine SC.region ?_
          refine SL.op (OpT.plain rfl (OpOk.loadOwn ty_29 (Lens.id _) (k := 1) rfl rfl (Typ.tmp rfl))) rfl rfl ?_
          refine SL.opW (OpW.storeOwn ty_29 (Lens.id _) (i := 0) rfl rfl (Typ.tmp rfl) (Typ.tmp rfl)) ?_
          refine SL.nil ?_
          refine SK.code ?_
          refine SC.ret ?_
          exact SR.one rfl (ResT.own ty_29 rfl (k := 0) rfl (by first | rfl | (simp_all [bareC]; done) | (simp_all [bareC]; rfl) | (simp_all [bareC]; omega)))
        · skip
          try simp only [decide_eq_true_eq, decide_eq_false_iff_not, Bool.and_eq_true, Bool.or_eq_true, Bool.not_eq_true', Bool.not_eq_false', Bool.and_eq_false_iff, Bool.or_eq_false_iff, Bool.not_not, Bool.not_true, Bool.not_false, ne_eq, Classical.not_not, Decidable.not_not] at h7
          refine SC.seq ?_
          refine SC.seq ?_
          refine SC.region ?_
          refine SL.op (OpT.plain rfl (OpOk.eql (Typ.tmp rfl) Typ.cint)) rfl rfl ?_
          refine SL.op (OpT.plain rfl (OpOk.assign (Typ.tmp rfl))) rfl rfl ?_
          refine SL.nil ?_
          refine SK.code ?_
          refine SC.cond rfl (fun _ _ h => V_bool h) (fun h8 => ?_) (fun h8 => ?_)
          · skip
            try simp only [decide_eq_true_eq, decide_eq_false_iff_not, Bool.and_eq_true, Bool.or_eq_true, Bool.not_eq_true', Bool.not_eq_false', Bool.and_eq_false_iff, Bool.or_eq_false_iff, Bool.not_not, Bool.not_true, Bool.not_false, ne_eq, Classical.not_not, Decidable.not_not] at h8
            refine SC.skip ?_
            refine SK.code ?_
            refine SC.cond rfl (fun _ _ h => V_bool h) (fun h9 => ?_) (fun h9 => ?_)
            · skip
              try simp only [decide_eq_true_eq, decide_eq_false_iff_not, Bool.and_eq_true, Bool.or_eq_true, Bool.not_eq_true', Bool.not_eq_false', Bool.and_eq_false_iff, Bool.or_eq_false_iff, Bool.not_not, Bool.not_true, Bool.not_false, ne_eq, Classical.not_not, Decidable.not_not] at h9
              refine DR.start ?_
              refine DR.op (fun _ => (OpT.plain rfl (OpOk.fieldAddrRef fld_29_2 (Typ.tmp rfl)))) rfl rfl ?_
              refine DR.op (fun _ => (OpT.plain rfl (OpOk.loadRef ty_3 (Typ.tmp rfl)))) rfl rfl ?_
              refine DR.op (fun _ => (OpT.plain rfl (OpOk.fieldAddrRef fld_29_3 (Typ.tmp rfl)))) rfl rfl ?_
              refine DR.op (fun _ => (OpT.plain rfl (OpOk.loadRef ty_3 (Typ.tmp rfl)))) rfl rfl ?_
              refine DR.op (fun _ => (OpT.plain rfl (OpOk.fieldAddrOwn fld_29_2 (Typ.tmp rfl)))) rfl rfl ?_
              refine DR.wr (OpW.storeOwn ty_3 Cmd.l_item (i := 1) rfl rfl (Typ.tmp rfl) (Typ.tmp rfl)) rfl rfl ?_
              refine DR.op (fun _ => (OpT.plain rfl (OpOk.fieldAddrOwn fld_29_3 (Typ.tmp rfl)))) rfl rfl ?_
              refine DR.wr (OpW.storeOwn ty_3 Cmd.l_box (i := 1) rfl rfl (Typ.tmp rfl) (Typ.tmp rfl)) rfl rfl ?_
              refine DR.tail rfl (by decide +kernel) (show dstBelow _ 63 = true by decide +kernel) rfl ?_
              refine SL.nil ?_
              refine SK.blk ?_
              refine SK.code ?_
              refine SC.seq ?_
              refine SC.region ?_
              refine SL.op (OpT.plain rfl (OpOk.loadOwn ty_29 (Lens.id _) (k := 1) rfl rfl (Typ.tmp rfl))) rfl rfl ?_
              refine SL.opW (OpW.storeOwn ty_29 (Lens.id _) (i := 0) rfl rfl (Typ.tmp rfl) (Typ.tmp rfl)) ?_
              refine SL.nil ?_
              refine SK.code ?_
              refine SC.ret ?_
              exact SR.one rfl (ResT.own ty_29 rfl (k := 0) rfl (by first | rfl | (simp_all [bareC]; done) | (simp_all [bareC]; rfl) | (simp_all [bareC]; omega)))
            · skip
              try simp only [decide_eq_true_eq, decide_eq_false_iff_not, Bool.and_eq_true, Bool.or_eq_true, Bool.not_eq_true', Bool.not_eq_false', Bool.and_eq_false_iff, Bool.or_eq_false_iff, Bool.not_not, Bool.not_true, Bool.not_false, ne_eq, Classical.not_not, Decidable.not_not] at h9
              first | contradiction | (exfalso; omega) | (exfalso; simp_all; done)
          · skip
            try simp only [decide_eq_true_eq, decide_eq_false_iff_not, Bool.and_eq_true, Bool.or_eq_true, Bool.not_eq_true', Bool.not_eq_false', Bool.and_eq_false_iff, Bool.or_eq_false_iff, Bool.not_not, Bool.not_true, Bool.not_false, ne_eq, Classical.not_not, Decidable.not_not] at h8
            refine SC.region ?_
            refine SL.op (OpT.plain rfl (OpOk.eql (Typ.tmp rfl) Typ.cint)) rfl rfl ?_
            refine SL.op (OpT.plain rfl (OpOk.assign (Typ.tmp rfl))) rfl rfl ?_
            refine SL.nil ?_
            refine SK.code ?_
            refine SC.cond rfl (fun _ _ h => V_bool h) (fun h10 => ?_) (fun h10 => ?_)
            · skip
              try simp only [decide_eq_true_eq, decide_eq_false_iff_not, Bool.and_eq_true, Bool.or_eq_true, Bool.not_eq_true', Bool.not_eq_false', Bool.and_eq_false_iff, Bool.or_eq_false_iff, Bool.not_not, Bool.not_true, Bool.not_false, ne_eq, Classical.not_not, Decidable.not_not] at h10
              refine DR.start ?_
              refine DR.op (fun _ => (OpT.plain rfl (OpOk.fieldAddrRef fld_29_2 (Typ.tmp rfl)))) rfl rfl ?_
              refine DR.op (fun _ => (OpT.plain rfl (OpOk.loadRef ty_3 (Typ.tmp rfl)))) rfl rfl ?_
              refine DR.op (fun _ => (OpT.plain rfl (OpOk.fieldAddrRef fld_29_3 (Typ.tmp rfl)))) rfl rfl ?_
              refine DR.op (fun _ => (OpT.plain rfl (OpOk.loadRef ty_3 (Typ.tmp rfl)))) rfl rfl ?_
              refine DR.op (fun _ => (OpT.plain rfl (OpOk.fieldAddrOwn fld_29_2 (Typ.tmp rfl)))) rfl rfl ?_
              refine DR.wr (OpW.storeOwn ty_3 Cmd.l_item (i := 1) rfl rfl (Typ.tmp rfl) (Typ.tmp rfl)) rfl rfl ?_
              refine DR.op (fun _ => (OpT.plain rfl (OpOk.fieldAddrOwn fld_29_3 (Typ.tmp rfl)))) rfl rfl ?_
              refine DR.wr (OpW.storeOwn ty_3 Cmd.l_box (i := 1) rfl rfl (Typ.tmp rfl) (Typ.tmp rfl)) rfl rfl ?_
              refine DR.tail rfl (by decide +kernel) (show dstBelow _ 63 = true by decide +kernel) rfl ?_
              refine SL.nil ?_
              refine SK.blk ?_
              refine SK.code ?_
              refine SC.seq ?_
              refine SC.region ?_
              refine SL.op (OpT.plain rfl (OpOk.loadOwn ty_29 (Lens.id _) (k := 1) rfl rfl (Typ.tmp rfl))) rfl rfl ?_
              refine SL.opW (OpW.storeOwn ty_29 (Lens.id _) (i := 0) rfl rfl (Typ.tmp rfl) (Typ.tmp rfl)) ?_
              refine SL.nil ?_
              refine SK.code ?_
              refine SC.ret ?_
              exact SR.one rfl (ResT.own ty_29 rfl (k := 0) rfl (by first | rfl | (simp_all [bareC]; done) | (simp_all [bareC]; rfl) | (simp_all [bareC]; omega)))
            · skip
              try simp only [decide_eq_true_eq, decide_eq_false_iff_not, Bool.and_eq_true, Bool.or_eq_true, Bool.not_eq_true', Bool.not_eq_false', Bool.and_eq_false_iff, Bool.or_eq_false_iff, Bool.not_not, Bool.not_true, Bool.not_false, ne_eq, Classical.not_not, Decidable.not_not] at h10
              refine SC.seq ?_
              refine SC.region ?_
              refine SL.op (OpT.plain rfl (OpOk.eql (Typ.tmp rfl) Typ.cint)) rfl rfl ?_
              refine SL.op (OpT.plain rfl (OpOk.assign (Typ.tmp rfl))) rfl rfl ?_
              refine SL.nil ?_
              refine SK.code ?_
              refine SC.cond rfl (fun _ _ h => V_bool h) (fun h11 => ?_) (fun h11 => ?_)
              · skip
                try simp only [decide_eq_true_eq, decide_eq_false_iff_not, Bool.and_eq_true, Bool.or_eq_true, Bool.not_eq_true', Bool.not_eq_false', Bool.and_eq_false_iff, Bool.or_eq_false_iff, Bool.not_not, Bool.not_true, Bool.not_false, ne_eq, Classical.not_not, Decidable.not_not] at h11
                refine DR.start ?_
                refine DR.op (fun _ => (OpT.plain rfl (OpOk.fieldAddrRef fld_29_2 (Typ.tmp rfl)))) rfl rfl ?_
                refine DR.op (fun _ => (OpT.plain rfl (OpOk.loadRef ty_3 (Typ.tmp rfl)))) rfl rfl ?_
                refine DR.op (fun _ => (OpT.plain rfl (OpOk.fieldAddrRef fld_29_4 (Typ.tmp rfl)))) rfl rfl ?_
                refine DR.op (fun _ => (OpT.plain rfl (OpOk.loadRef ty_3 (Typ.tmp rfl)))) rfl rfl ?_
                refine DR.op (fun _ => (OpT.plain rfl (OpOk.fieldAddrOwn fld_29_2 (Typ.tmp rfl)))) rfl rfl ?_
                refine DR.wr (OpW.storeOwn ty_3 Cmd.l_item (i := 1) rfl rfl (Typ.tmp rfl) (Typ.tmp rfl)) rfl rfl ?_
                refine DR.op (fun _ => (OpT.plain rfl (OpOk.fieldAddrOwn fld_29_4 (Typ.tmp rfl)))) rfl rfl ?_
                refine DR.wr (OpW.storeOwn ty_3 Cmd.l_who (i := 1) rfl rfl (Typ.tmp rfl) (Typ.tmp rfl)) rfl rfl ?_
                refine DR.tail rfl (by decide +kernel) (show dstBelow _ 63 = true by decide +kernel) rfl ?_
                refine SL.nil ?_
                refine SK.blk ?_
                refine SK.code ?_
                refine SC.seq ?_
                refine SC.region ?_
                refine SL.op (OpT.plain rfl (OpOk.loadOwn ty_29 (Lens.id _) (k := 1) rfl rfl (Typ.tmp rfl))) rfl rfl ?_
                refine SL.opW (OpW.storeOwn ty_29 (Lens.id _) (i := 0) rfl rfl (Typ.tmp rfl) (Typ.tmp rfl)) ?_
                refine SL.nil ?_
                refine SK.code ?_
                refine SC.ret ?_
                exact SR.one rfl (ResT.own ty_29 rfl (k := 0) rfl (by first | rfl | (simp_all [bareC]; done) | (simp_all [bareC]; rfl) | (simp_all [bareC]; omega)))
              · skip
                try simp only [decide_eq_true_eq, decide_eq_false_iff_not, Bool.and_eq_true, Bool.or_eq_true, Bool.not_eq_true', Bool.not_eq_false', Bool.and_eq_false_iff, Bool.or_eq_false_iff, Bool.not_not, Bool.not_true, Bool.not_false, ne_eq, Classical.not_not, Decidable.not_not] at h11
                refine SC.seq ?_
                refine SC.region ?_
                refine SL.op (OpT.plain rfl (OpOk.eql (Typ.tmp rfl) Typ.cint)) rfl rfl ?_
                refine SL.op (OpT.plain rfl (OpOk.assign (Typ.tmp rfl))) rfl rfl ?_
                refine SL.nil ?_
                refine SK.code ?_
                refine SC.cond rfl (fun _ _ h => V_bool h) (fun h12 => ?_) (fun h12 => ?_)
                · skip
                  try simp only [decide_eq_true_eq, decide_eq_false_iff_not, Bool.and_eq_true, Bool.or_eq_true, Bool.not_eq_true', Bool.not_eq_false', Bool.and_eq_false_iff, Bool.or_eq_false_iff, Bool.not_not, Bool.not_true, Bool.not_false, ne_eq, Classical.not_not, Decidable.not_not] at h12
                  refine DR.start ?_
                  refine DR.op (fun _ => (OpT.plain rfl (OpOk.fieldAddrRef fld_29_4 (Typ.tmp rfl)))) rfl rfl ?_
                  refine DR.op (fun _ => (OpT.plain rfl (OpOk.loadRef ty_3 (Typ.tmp rfl)))) rfl rfl ?_
                  refine DR.op (fun _ => (OpT.plain rfl (OpOk.fieldAddrRef fld_29_5 (Typ.tmp rfl)))) rfl rfl ?_
                  refine DR.op (fun _ => (OpT.plain rfl (OpOk.loadRef ty_27 (Typ.tmp rfl)))) rfl rfl ?_
                  refine DR.op (fun _ => (OpT.plain rfl (OpOk.fieldAddrRef fld_29_6 (Typ.tmp rfl)))) rfl rfl ?_
                  refine DR.op (fun _ => (OpT.plain rfl (OpOk.loadRef ty_3 (Typ.tmp rfl)))) rfl rfl ?_
                  refine DR.op (fun _ => (OpT.plain rfl (OpOk.fieldAddrRef fld_29_7 (Typ.tmp rfl)))) rfl rfl ?_
                  refine DR.op (fun _ => (OpT.plain rfl (OpOk.loadRef ty_27 (Typ.tmp rfl)))) rfl rfl ?_
                  refine DR.op (fun _ => (OpT.plain rfl (OpOk.fieldAddrRef fld_29_8 (Typ.tmp rfl)))) rfl rfl ?_
                  refine DR.op (fun _ => (OpT.plain rfl (OpOk.loadRef ty_3 (Typ.tmp rfl)))) rfl rfl ?_
                  refine DR.op (fun _ => (OpT.plain rfl (OpOk.fieldAddrOwn fld_29_4 (Typ.tmp rfl)))) rfl rfl ?_
                  refine DR.wr (OpW.storeOwn ty_3 Cmd.l_who (i := 1) rfl rfl (Typ.tmp rfl) (Typ.tmp rfl)) rfl rfl ?_
                  refine DR.op (fun _ => (OpT.plain rfl (OpOk.fieldAddrOwn fld_29_5 (Typ.tmp rfl)))) rfl rfl ?_
                  refine DR.wr (OpW.storeOwn ty_27 Cmd.l_gives (i := 1) rfl rfl (Typ.tmp rfl) (Typ.tmp rfl)) rfl rfl ?_
                  refine DR.op (fun _ => (OpT.plain rfl (OpOk.fieldAddrOwn fld_29_6 (Typ.tmp rfl)))) rfl rfl ?_
                  refine DR.wr (OpW.storeOwn ty_3 Cmd.l_pay (i := 1) rfl rfl (Typ.tmp rfl) (Typ.tmp rfl)) rfl rfl ?_
                  refine DR.op (fun _ => (OpT.plain rfl (OpOk.fieldAddrOwn fld_29_7 (Typ.tmp rfl)))) rfl rfl ?_
                  refine DR.wr (OpW.storeOwn ty_27 Cmd.l_wants (i := 1) rfl rfl (Typ.tmp rfl) (Typ.tmp rfl)) rfl rfl ?_
                  refine DR.op (fun _ => (OpT.plain rfl (OpOk.fieldAddrOwn fld_29_8 (Typ.tmp rfl)))) rfl rfl ?_
                  refine DR.wr (OpW.storeOwn ty_3 Cmd.l_fee (i := 1) rfl rfl (Typ.tmp rfl) (Typ.tmp rfl)) rfl rfl ?_
                  refine DR.tail rfl (by decide +kernel) (show dstBelow _ 63 = true by decide +kernel) rfl ?_
                  refine SL.nil ?_
                  refine SK.blk ?_
                  refine SK.code ?_
                  refine SC.seq ?_
                  refine SC.region ?_
                  refine SL.op (OpT.plain rfl (OpOk.loadOwn ty_29 (Lens.id _) (k := 1) rfl rfl (Typ.tmp rfl))) rfl rfl ?_
                  refine SL.opW (OpW.storeOwn ty_29 (Lens.id _) (i := 0) rfl rfl (Typ.tmp rfl) (Typ.tmp rfl)) ?_
                  refine SL.nil ?_
                  refine SK.code ?_
                  refine SC.ret ?_
                  exact SR.one rfl (ResT.own ty_29 rfl (k := 0) rfl (by first | rfl | (simp_all [bareC]; done) | (simp_all [bareC]; rfl) | (simp_all [bareC]; omega)))
                · skip
                  try simp only [decide_eq_true_eq, decide_eq_false_iff_not, Bool.and_eq_true, Bool.or_eq_true, Bool.not_eq_true', Bool.not_eq_false', Bool.and_eq_false_iff, Bool.or_eq_false_iff, Bool.not_not, Bool.not_true, Bool.not_false, ne_eq, Classical.not_not, Decidable.not_not] at h12
                  refine SC.skip ?_
                  refine SK.blk ?_
                  refine SK.code ?_
                  refine SC.seq ?_
                  refine SC.region ?_
                  refine SL.op (OpT.plain rfl (OpOk.loadOwn ty_29 (Lens.id _) (k := 1) rfl rfl (Typ.tmp rfl))) rfl rfl ?_
                  refine SL.opW (OpW.storeOwn ty_29 (Lens.id _) (i := 0) rfl rfl (Typ.tmp rfl) (Typ.tmp rfl)) ?_
                  refine SL.nil ?_
                  refine SK.code ?_
                  refine SC.ret ?_
                  exact SR.one rfl (ResT.own ty_29 rfl (k := 0) rfl (by first | rfl | (simp_all [bareC]; done) | (simp_all [bareC]; rfl) | (simp_all [bareC]; omega)))
end Go.Proofs.YtgnblhmejecgfaaGreatDoor
