/- Layer 19: the law SessEnds. -/
import Derived.Test.YtgnblhmejecgfaaGreatDoorV10
import Derived.Test.YtgnblhmejecgfaaGreatDoorW
set_option linter.all false

namespace Go.Proofs.YtgnblhmejecgfaaGreatDoor
open Go Go.RowKit Go.Inn
set_option linter.unusedSimpArgs false
set_option linter.unusedVariables false
set_option maxRecDepth 100000
theorem s_ref04_Get_C (s : Str) (hs0 : s.length ≤ 100000) : FnSpec Tryz.prog glob 14 [V s] (.tup [V (getC s).1, V (getC s).2]) := by
  rw [getC_eq]
  exact s_innkeepref04_Get s hs0
theorem getC_two (s : Str) : (getC s).2 = 0 ∨ (getC s).2 = 2 := by
  unfold getC
  split
  · exact .inr rfl
  · split
    · exact .inl rfl
    · exact .inr rfl
theorem openS_facts (s : Sess) (h : s.phase = 0) : (openS s).cmd = (getC (nth s.lines s.next)).1 ∧ ((openS s).phase = 8 ↔ ¬ (getC (nth s.lines s.next)).2 = 0) ∧ (¬ (getC (nth s.lines s.next)).2 = 0 → (openS s).reply = { err := 2 }) ∧ (openS s).next = s.next ∧ (openS s).lines = s.lines ∧ (openS s).player = s.player := by
  have two := getC_two (nth s.lines s.next)
  unfold openS
  split
  · rename_i q
    have e : (getC (nth s.lines s.next)).2 = 2 := by rcases two with e | e; exact absurd e q; exact e
    simp [e]
  · rename_i q
    have q : (getC (nth s.lines s.next)).2 = 0 := by simpa using q
    split <;> simp [q]
theorem closeS_open (x : Script) (i : Nat) : closeS (openS (closeN x i)) = closeN x (i + 1) := by
  have e : ∀ s t : Sess, s.player = t.player → s.lines = t.lines → s.next = t.next → closeS s = closeS t := by
    intro s t h1 h2 h3
    unfold closeS restS
    simp [h1, h2, h3]
  rw [e _ (closeN x i), closeN_succ]
  all_goals (unfold openS; split; rfl; split <;> rfl)
theorem ends_dead2 {o : Sess} (h : ((¬ (closeS o).cmd = {} ∨ ¬ (closeS o).reply = {}) ∨ ¬ (closeS o).step = 0) ∨ ¬ (closeS o).tries = 0) : False := by
  rcases h with ((h | h) | h) | h <;> exact h rfl
theorem ends_dead {o : Sess} {g : Cmd × Int} {p : Prop} (hof : o.cmd = g.1 ∧ (o.phase = 8 ↔ ¬ g.2 = 0) ∧ (¬ g.2 = 0 → o.reply = { err := 2 }) ∧ p) (h : (¬ o.cmd = g.1 ∨ ((decide (¬ g.2 = 0)) == decide (o.phase = 8)) = false) ∨ ¬ g.2 = 0 ∧ ¬ o.reply = ({} : Reply).s_err 2) : False := by
  rcases h with (h | h) | h
  · exact h hof.1
  · have e : decide (¬ g.2 = 0) = decide (o.phase = 8) := decide_eq_decide.2 hof.2.1.symm
    rw [e] at h; simp at h
  · exact h.2 (hof.2.2.1 h.1)

/-! innkeep/innkeeplaw19.SessEnds -/
theorem s_innkeeplaw19_SessEnds (x : Script) (hsm : ∀ y, y ∈ x.lines → y.length ≤ 140737488351232) : FnSpec Tryz.prog glob 3 [V x] (V true) := by
  refine FnSpec.enter Tryz.func3 rfl rfl rfl fun m0 w0 => ?_
  refine SC.seq ?_
  refine SC.region ?_
  refine SL.op (OpT.plain rfl (OpOk.boxRef (Typ.tmp rfl))) rfl rfl ?_
  refine SL.op (OpT.plain rfl (OpOk.assign Typ.cbool)) rfl rfl ?_
  refine SL.nil ?_
  refine SK.code ?_
  refine SC.seq ?_
  refine SC.seq ?_
  refine SC.region ?_
  refine SL.op (OpT.plain rfl (OpOk.call Tryz.call10 Typ.fn Typs.nil (s_innkeeplaw19_awake))) rfl rfl ?_
  refine SL.op (OpT.plain rfl (OpOk.not (Typ.tmp rfl))) rfl rfl ?_
  refine SL.op (OpT.plain rfl (OpOk.move (Typ.tmp rfl))) rfl rfl ?_
  refine SL.op (OpT.guard rfl rfl rfl (fun _ _ h => V_bool h) (fun hg => OpOk.loadRef ty_24 (Typ.tmp rfl))) rfl rfl ?_
  refine SL.op (OpT.guard rfl rfl rfl (fun _ _ h => V_bool h) (fun hg => OpOk.call Tryz.call11 Typ.fn (Typs.cons (Typ.cond hg rfl) Typs.nil) (s_innkeeplaw19_few _ hsm))) rfl rfl ?_
  refine SL.op (OpT.guard rfl rfl rfl (fun _ _ h => V_bool h) (fun hg => OpOk.not (Typ.cond hg rfl))) rfl rfl ?_
  refine SL.op (OpT.plain rfl (OpOk.pickOr (Typ.tmp rfl) (fun hb => Typ.cond hb rfl))) rfl rfl ?_
  refine SL.nil ?_
  refine SK.code ?_
  refine SC.cond rfl (fun _ _ h => V_bool h) (fun h1 => ?_) (fun h1 => ?_)
  · skip
    try simp only [decide_eq_true_eq, decide_eq_false_iff_not, Bool.and_eq_true, Bool.or_eq_true, Bool.not_eq_true', Bool.not_eq_false', Bool.and_eq_false_iff, Bool.or_eq_false_iff, Bool.not_not, Bool.not_true, Bool.not_false, ne_eq, Classical.not_not, Decidable.not_not] at h1
    refine SC.seq ?_
    refine SC.region ?_
    refine SL.op (OpT.plain rfl (OpOk.call Tryz.call10 Typ.fn Typs.nil (s_innkeeplaw19_awake))) rfl rfl ?_
    refine SL.op (OpT.plain rfl (OpOk.assign (Typ.tmp rfl))) rfl rfl ?_
    refine SL.nil ?_
    refine SK.code ?_
    refine SC.ret ?_
    exact SR.one rfl (ResT.eq rfl (by first | ((subst hij; simp [closeN]; done)) | rfl | (simp_all []; done) | (simp_all []; rfl) | (simp_all []; omega)))
  · skip
    try simp only [decide_eq_true_eq, decide_eq_false_iff_not, Bool.and_eq_true, Bool.or_eq_true, Bool.not_eq_true', Bool.not_eq_false', Bool.and_eq_false_iff, Bool.or_eq_false_iff, Bool.not_not, Bool.not_true, Bool.not_false, ne_eq, Classical.not_not, Decidable.not_not] at h1
    have hf := few_lines (s := { lines := x.lines }) (by simp_all)
    have hf1 := hf.1
    dsimp only at hf hf1
    refine SC.skip ?_
    refine SK.code ?_
    refine SC.seq ?_
    refine SC.region ?_
    refine SL.op (OpT.plain rfl (OpOk.loadRef ty_24 (Typ.tmp rfl))) rfl rfl ?_
    refine SL.op (OpT.plain rfl (OpOk.call Tryz.call12 Typ.fn (Typs.cons (Typ.tmp rfl) Typs.nil) (s_sess_New _))) rfl rfl ?_
    refine SL.allocOwn tyz_38 rfl fun b2 => ?_
    refine SL.opW (OpW.storeOwn ty_38 (Lens.id _) (i := 0) rfl rfl (Typ.tmp rfl) (Typ.tmp rfl)) ?_
    refine SL.nil ?_
    refine SK.code ?_
    refine SC.seq ?_
    refine SC.seq ?_
    refine SC.region ?_
    refine SL.op (OpT.plain rfl (OpOk.assign Typ.cint)) rfl rfl ?_
    refine SL.nil ?_
    refine SK.code ?_
    refine SC.block ?_
    refine SC.loopK (σ := Nat) [1, 3] (fun i => [(4, V (i : Int))]) (fun i Δ => [Own.var b2 38 (closeN x i)]) (fun i => x.lines.length - i) (fun i => i ≤ x.lines.length) (0) (by omega) rfl (Subs.eq rfl (by first | rfl | omega | (simp; done) | (simp_all; done) | (simp_all; omega)) Subs.nil) (fun i hs => ?_)
    refine SC.seq ?_
    refine SC.seq ?_
    refine SC.region ?_
    refine SL.op (OpT.plain rfl (OpOk.move (Typ.tmp rfl))) rfl rfl ?_
    refine SL.op (OpT.plain rfl (OpOk.fieldAddrRef fld_24_1 (Typ.tmp rfl))) rfl rfl ?_
    refine SL.op (OpT.plain rfl (OpOk.loadRef ty_22 (Typ.tmp rfl))) rfl rfl ?_
    refine SL.op (OpT.plain rfl (OpOk.lenList Tryz.underlying22 (Typ.tmp rfl))) rfl rfl ?_
    refine SL.op (OpT.plain rfl (OpOk.lss (Typ.tmp rfl) (Typ.tmp rfl))) rfl rfl ?_
    refine SL.nil ?_
    refine SK.code ?_
    refine SC.cond rfl (fun _ _ h => V_bool h) (fun h3 => ?_) (fun h3 => ?_)
    · skip
      try simp only [decide_eq_true_eq, decide_eq_false_iff_not, Bool.and_eq_true, Bool.or_eq_true, Bool.not_eq_true', Bool.not_eq_false', Bool.and_eq_false_iff, Bool.or_eq_false_iff, Bool.not_not, Bool.not_true, Bool.not_false, ne_eq, Classical.not_not, Decidable.not_not] at h3
      have hi : (i : Int) < x.lines.length := (by assumption)
      have hph : (closeN x i).phase = 0 := (by simp only [closeN]; rw [if_neg (by omega)])
      have hnx : (closeN x i).next = i := rfl
      have hpl : (closeN x i).player = x.player := rfl
      have hll : (nth x.lines (i : Int)).length ≤ 100000 := Nat.le_trans (hf.2 _ (nth_mem (by omega) hi)) (by omega)
      have hof := openS_facts (closeN x i) hph
      refine SC.skip ?_
      refine SK.code ?_
      refine SC.seq ?_
      refine SC.block ?_
      refine SC.seq ?_
      refine SC.seq ?_
      refine SC.region ?_
      refine SL.op (OpT.plain rfl (OpOk.fieldAddrOwn fld_38_3 (Typ.tmp rfl))) rfl rfl ?_
      refine SL.op (OpT.plain rfl (OpOk.loadOwn ty_3 Sess.l_phase (k := 0) rfl rfl (Typ.tmp rfl))) rfl rfl ?_
      refine SL.op (OpT.plain rfl (OpOk.neq (Typ.tmp rfl) Typ.cint)) rfl rfl ?_
      refine SL.op (OpT.plain rfl (OpOk.move (Typ.tmp rfl))) rfl rfl ?_
      refine SL.op (OpT.guard rfl rfl rfl (fun _ _ h => V_bool h) (fun hg => OpOk.fieldAddrOwn fld_38_2 (Typ.tmp rfl))) rfl rfl ?_
      refine SL.op (OpT.guard rfl rfl rfl (fun _ _ h => V_bool h) (fun hg => OpOk.loadOwn ty_3 Sess.l_next (k := 0) rfl rfl (Typ.cond hg rfl))) rfl rfl ?_
      refine SL.op (OpT.guard rfl rfl rfl (fun _ _ h => V_bool h) (fun hg => OpOk.move (Typ.tmp rfl))) rfl rfl ?_
      refine SL.op (OpT.guard rfl rfl rfl (fun _ _ h => V_bool h) (fun hg => OpOk.neq (Typ.cond hg rfl) (Typ.cond hg rfl))) rfl rfl ?_
      refine SL.op (OpT.plain rfl (OpOk.pickOr (Typ.tmp rfl) (fun hb => Typ.cond hb rfl))) rfl rfl ?_
      refine SL.op (OpT.plain rfl (OpOk.move (Typ.tmp rfl))) rfl rfl ?_
      refine SL.op (OpT.guard rfl rfl rfl (fun _ _ h => V_bool h) (fun hg => OpOk.fieldAddrOwn fld_38_0 (Typ.tmp rfl))) rfl rfl ?_
      refine SL.op (OpT.guard rfl rfl rfl (fun _ _ h => V_bool h) (fun hg => OpOk.loadOwn ty_3 Sess.l_player (k := 0) rfl rfl (Typ.cond hg rfl))) rfl rfl ?_
      refine SL.op (OpT.guard rfl rfl rfl (fun _ _ h => V_bool h) (fun hg => OpOk.fieldAddrRef fld_24_0 (Typ.tmp rfl))) rfl rfl ?_
      refine SL.op (OpT.guard rfl rfl rfl (fun _ _ h => V_bool h) (fun hg => OpOk.loadRef ty_3 (Typ.cond hg rfl))) rfl rfl ?_
      refine SL.op (OpT.guard rfl rfl rfl (fun _ _ h => V_bool h) (fun hg => OpOk.neq (Typ.cond hg rfl) (Typ.cond hg rfl))) rfl rfl ?_
      refine SL.op (OpT.plain rfl (OpOk.pickOr (Typ.tmp rfl) (fun hb => Typ.cond hb rfl))) rfl rfl ?_
      refine SL.nil ?_
      refine SK.code ?_
      refine SC.cond rfl (fun _ _ h => V_bool h) (fun h4 => ?_) (fun h4 => ?_)
      · skip
        try simp only [decide_eq_true_eq, decide_eq_false_iff_not, Bool.and_eq_true, Bool.or_eq_true, Bool.not_eq_true', Bool.not_eq_false', Bool.and_eq_false_iff, Bool.or_eq_false_iff, Bool.not_not, Bool.not_true, Bool.not_false, ne_eq, Classical.not_not, Decidable.not_not] at h4
        (exfalso; simp_all; done)
      · skip
        try simp only [decide_eq_true_eq, decide_eq_false_iff_not, Bool.and_eq_true, Bool.or_eq_true, Bool.not_eq_true', Bool.not_eq_false', Bool.and_eq_false_iff, Bool.or_eq_false_iff, Bool.not_not, Bool.not_true, Bool.not_false, ne_eq, Classical.not_not, Decidable.not_not] at h4
        refine SC.skip ?_
        refine SK.code ?_
        refine SC.seq ?_
        refine SC.region ?_
        refine SL.op (OpT.plain rfl (OpOk.loadOwn ty_38 (Lens.id _) (k := 0) rfl rfl (Typ.tmp rfl))) rfl rfl ?_
        refine SL.op (OpT.plain rfl (OpOk.call Tryz.call13 Typ.fn (Typs.cons (Typ.tmp rfl) Typs.nil) (s_sess_Open _ (by rw [hnx]; omega) (by rw [hnx]; exact hi) hll))) rfl rfl ?_
        refine SL.opW (OpW.storeOwn ty_38 (Lens.id _) (i := 0) rfl rfl (Typ.tmp rfl) (Typ.tmp rfl)) ?_
        refine SL.nil ?_
        refine SK.code ?_
        refine SC.seq ?_
        refine SC.region ?_
        refine SL.op (OpT.plain rfl (OpOk.fieldAddrRef fld_24_1 (Typ.tmp rfl))) rfl rfl ?_
        refine SL.op (OpT.plain rfl (OpOk.loadRef ty_22 (Typ.tmp rfl))) rfl rfl ?_
        refine SL.op (OpT.plain rfl (OpOk.move (Typ.tmp rfl))) rfl rfl ?_
        refine SL.op (OpT.plain rfl (OpOk.indexAddr Tryz.underlying22 ty_9 (Typ.tmp rfl) (Typ.tmp rfl) (by first | omega | (simp only [decide_eq_true_eq, decide_eq_false_iff_not] at *; omega) | (simp at *; omega)) (by first | omega | (simp only [decide_eq_true_eq, decide_eq_false_iff_not] at *; omega) | (simp at *; omega)))) rfl rfl ?_
        refine SL.op (OpT.plain rfl (OpOk.loadRef ty_9 (Typ.tmp rfl))) rfl rfl ?_
        refine SL.op (OpT.plain rfl (OpOk.call Tryz.call14 Typ.fn (Typs.cons (Typ.tmp rfl) Typs.nil) (s_ref04_Get_C _ hll))) rfl rfl ?_
        refine SL.op (OpT.plain rfl (OpOk.move (Typ.tmp rfl))) rfl rfl ?_
        refine SL.op (OpT.plain rfl (OpOk.extract (Typ.tmp rfl) rfl)) rfl rfl ?_
        refine SL.op (OpT.plain rfl (OpOk.extract (Typ.tmp rfl) rfl)) rfl rfl ?_
        refine SL.allocOwn tyz_29 rfl fun b5 => ?_
        refine SL.opW (OpW.storeOwn ty_29 (Lens.id _) (i := 1) rfl rfl (Typ.tmp rfl) (Typ.tmp rfl)) ?_
        refine SL.op (OpT.plain rfl (OpOk.assign (Typ.tmp rfl))) rfl rfl ?_
        refine SL.nil ?_
        refine SK.code ?_
        refine SC.seq ?_
        refine SC.seq ?_
        refine SC.region ?_
        refine SL.op (OpT.plain rfl (OpOk.fieldAddrOwn fld_38_5 (Typ.tmp rfl))) rfl rfl ?_
        refine SL.op (OpT.plain rfl (OpOk.loadOwn ty_29 Sess.l_cmd (k := 0) rfl rfl (Typ.tmp rfl))) rfl rfl ?_
        refine SL.op (OpT.plain rfl (OpOk.loadOwn ty_29 (Lens.id _) (k := 1) rfl rfl (Typ.tmp rfl))) rfl rfl ?_
        refine SL.op (OpT.plain rfl (OpOk.call Tryz.call15 Typ.fn (Typs.cons (Typ.tmp rfl) (Typs.cons (Typ.tmp rfl) Typs.nil)) (s_innkeepref03_Same _ _))) rfl rfl ?_
        refine SL.op (OpT.plain rfl (OpOk.not (Typ.tmp rfl))) rfl rfl ?_
        refine SL.op (OpT.plain rfl (OpOk.move (Typ.tmp rfl))) rfl rfl ?_
        refine SL.op (OpT.guard rfl rfl rfl (fun _ _ h => V_bool h) (fun hg => OpOk.move (Typ.tmp rfl))) rfl rfl ?_
        refine SL.op (OpT.guard rfl rfl rfl (fun _ _ h => V_bool h) (fun hg => OpOk.neq (Typ.cond hg rfl) Typ.cint)) rfl rfl ?_
        refine SL.op (OpT.guard rfl rfl rfl (fun _ _ h => V_bool h) (fun hg => OpOk.fieldAddrOwn fld_38_3 (Typ.tmp rfl))) rfl rfl ?_
        refine SL.op (OpT.guard rfl rfl rfl (fun _ _ h => V_bool h) (fun hg => OpOk.loadOwn ty_3 Sess.l_phase (k := 0) rfl rfl (Typ.cond hg rfl))) rfl rfl ?_
        refine SL.op (OpT.guard rfl rfl rfl (fun _ _ h => V_bool h) (fun hg => OpOk.eql (Typ.cond hg rfl) Typ.cint)) rfl rfl ?_
        refine SL.op (OpT.guard rfl rfl rfl (fun _ _ h => V_bool h) (fun hg => OpOk.neb Tryz.underlying4 (Typ.cond hg rfl) (Typ.cond hg rfl))) rfl rfl ?_
        refine SL.op (OpT.plain rfl (OpOk.pickOr (Typ.tmp rfl) (fun hb => Typ.cond hb rfl))) rfl rfl ?_
        refine SL.op (OpT.plain rfl (OpOk.move (Typ.tmp rfl))) rfl rfl ?_
        refine SL.op (OpT.guard rfl rfl rfl (fun _ _ h => V_bool h) (fun hg => OpOk.move (Typ.tmp rfl))) rfl rfl ?_
        refine SL.op (OpT.guard rfl rfl rfl (fun _ _ h => V_bool h) (fun hg => OpOk.neq (Typ.cond hg rfl) Typ.cint)) rfl rfl ?_
        refine SL.op (OpT.guard rfl rfl rfl (fun _ _ h => V_bool h) (fun hg => OpOk.move (Typ.cond hg rfl))) rfl rfl ?_
        refine SL.op (OpT.guard2 rfl rfl rfl (fun _ _ h => V_bool h) (fun hc hg => OpOk.fieldAddrOwn fld_38_9 (Typ.tmp rfl))) rfl rfl ?_
        refine SL.op (OpT.guard2 rfl rfl rfl (fun _ _ h => V_bool h) (fun hc hg => OpOk.loadOwn ty_35 Sess.l_reply (k := 0) rfl rfl (Typ.cond ⟨hc, hg⟩ rfl))) rfl rfl ?_
        refine SL.op (OpT.guard2 rfl rfl rfl (fun _ _ h => V_bool h) (fun hc hg => OpOk.build tys_35 (Parts.cons Reply.l_err rfl Typ.cint Parts.nil))) rfl rfl ?_
        refine SL.op (OpT.guard2 rfl rfl rfl (fun _ _ h => V_bool h) (fun hc hg => OpOk.call Tryz.call16 Typ.fn (Typs.cons (Typ.cond ⟨hc, hg⟩ rfl) (Typs.cons (Typ.cond ⟨hc, hg⟩ rfl) Typs.nil)) (s_innkeepref05_Same _ _))) rfl rfl ?_
        refine SL.op (OpT.guard2 rfl rfl rfl (fun _ _ h => V_bool h) (fun hc hg => OpOk.not (Typ.cond ⟨hc, hg⟩ rfl))) rfl rfl ?_
        refine SL.op (OpT.guard rfl rfl rfl (fun _ _ h => V_bool h) (fun hg => OpOk.pickAnd (Typ.cond hg rfl) (fun hb => Typ.cond ⟨hg, hb⟩ rfl))) rfl rfl ?_
        refine SL.op (OpT.plain rfl (OpOk.pickOr (Typ.tmp rfl) (fun hb => Typ.cond hb rfl))) rfl rfl ?_
        refine SL.nil ?_
        refine SK.code ?_
        refine SC.cond rfl (fun _ _ h => V_bool h) (fun h6 => ?_) (fun h6 => ?_)
        · skip
          try simp only [decide_eq_true_eq, decide_eq_false_iff_not, Bool.and_eq_true, Bool.or_eq_true, Bool.not_eq_true', Bool.not_eq_false', Bool.and_eq_false_iff, Bool.or_eq_false_iff, Bool.not_not, Bool.not_true, Bool.not_false, ne_eq, Classical.not_not, Decidable.not_not] at h6
          (exfalso; exact ends_dead hof (by assumption))
        · skip
          try simp only [decide_eq_true_eq, decide_eq_false_iff_not, Bool.and_eq_true, Bool.or_eq_true, Bool.not_eq_true', Bool.not_eq_false', Bool.and_eq_false_iff, Bool.or_eq_false_iff, Bool.not_not, Bool.not_true, Bool.not_false, ne_eq, Classical.not_not, Decidable.not_not] at h6
          refine SC.skip ?_
          refine SK.code ?_
          refine SC.seq ?_
          refine SC.region ?_
          refine SL.op (OpT.plain rfl (OpOk.loadOwn ty_38 (Lens.id _) (k := 0) rfl rfl (Typ.tmp rfl))) rfl rfl ?_
          refine SL.op (OpT.plain rfl (OpOk.call Tryz.call17 Typ.fn (Typs.cons (Typ.tmp rfl) Typs.nil) (s_sess_Close _ (by rw [hof.2.2.2.1, hnx]; omega)))) rfl rfl ?_
          refine SL.opW (OpW.storeOwn ty_38 (Lens.id _) (i := 0) rfl rfl (Typ.tmp rfl) (Typ.tmp rfl)) ?_
          refine SL.nil ?_
          refine SK.code ?_
          refine SC.seq ?_
          refine SC.region ?_
          refine SL.op (OpT.plain rfl (OpOk.fieldAddrOwn fld_38_5 (Typ.tmp rfl))) rfl rfl ?_
          refine SL.op (OpT.plain rfl (OpOk.loadOwn ty_29 Sess.l_cmd (k := 0) rfl rfl (Typ.tmp rfl))) rfl rfl ?_
          refine SL.op (OpT.plain rfl (OpOk.build tys_29 Parts.nil)) rfl rfl ?_
          refine SL.op (OpT.plain rfl (OpOk.call Tryz.call15 Typ.fn (Typs.cons (Typ.tmp rfl) (Typs.cons (Typ.tmp rfl) Typs.nil)) (s_innkeepref03_Same _ _))) rfl rfl ?_
          refine SL.op (OpT.plain rfl (OpOk.not (Typ.tmp rfl))) rfl rfl ?_
          refine SL.op (OpT.plain rfl (OpOk.move (Typ.tmp rfl))) rfl rfl ?_
          refine SL.op (OpT.guard rfl rfl rfl (fun _ _ h => V_bool h) (fun hg => OpOk.fieldAddrOwn fld_38_9 (Typ.tmp rfl))) rfl rfl ?_
          refine SL.op (OpT.guard rfl rfl rfl (fun _ _ h => V_bool h) (fun hg => OpOk.loadOwn ty_35 Sess.l_reply (k := 0) rfl rfl (Typ.cond hg rfl))) rfl rfl ?_
          refine SL.op (OpT.guard rfl rfl rfl (fun _ _ h => V_bool h) (fun hg => OpOk.build tys_35 Parts.nil)) rfl rfl ?_
          refine SL.op (OpT.guard rfl rfl rfl (fun _ _ h => V_bool h) (fun hg => OpOk.call Tryz.call16 Typ.fn (Typs.cons (Typ.cond hg rfl) (Typs.cons (Typ.cond hg rfl) Typs.nil)) (s_innkeepref05_Same _ _))) rfl rfl ?_
          refine SL.op (OpT.guard rfl rfl rfl (fun _ _ h => V_bool h) (fun hg => OpOk.not (Typ.cond hg rfl))) rfl rfl ?_
          refine SL.op (OpT.plain rfl (OpOk.pickOr (Typ.tmp rfl) (fun hb => Typ.cond hb rfl))) rfl rfl ?_
          refine SL.op (OpT.plain rfl (OpOk.move (Typ.tmp rfl))) rfl rfl ?_
          refine SL.op (OpT.guard rfl rfl rfl (fun _ _ h => V_bool h) (fun hg => OpOk.fieldAddrOwn fld_38_4 (Typ.tmp rfl))) rfl rfl ?_
          refine SL.op (OpT.guard rfl rfl rfl (fun _ _ h => V_bool h) (fun hg => OpOk.loadOwn ty_3 Sess.l_step (k := 0) rfl rfl (Typ.cond hg rfl))) rfl rfl ?_
          refine SL.op (OpT.guard rfl rfl rfl (fun _ _ h => V_bool h) (fun hg => OpOk.neq (Typ.cond hg rfl) Typ.cint)) rfl rfl ?_
          refine SL.op (OpT.plain rfl (OpOk.pickOr (Typ.tmp rfl) (fun hb => Typ.cond hb rfl))) rfl rfl ?_
          refine SL.op (OpT.plain rfl (OpOk.move (Typ.tmp rfl))) rfl rfl ?_
          refine SL.op (OpT.guard rfl rfl rfl (fun _ _ h => V_bool h) (fun hg => OpOk.fieldAddrOwn fld_38_11 (Typ.tmp rfl))) rfl rfl ?_
          refine SL.op (OpT.guard rfl rfl rfl (fun _ _ h => V_bool h) (fun hg => OpOk.loadOwn ty_3 Sess.l_tries (k := 0) rfl rfl (Typ.cond hg rfl))) rfl rfl ?_
          refine SL.op (OpT.guard rfl rfl rfl (fun _ _ h => V_bool h) (fun hg => OpOk.neq (Typ.cond hg rfl) Typ.cint)) rfl rfl ?_
          refine SL.op (OpT.plain rfl (OpOk.pickOr (Typ.tmp rfl) (fun hb => Typ.cond hb rfl))) rfl rfl ?_
          refine SL.nil ?_
          refine SK.code ?_
          refine SC.cond rfl (fun _ _ h => V_bool h) (fun h7 => ?_) (fun h7 => ?_)
          · skip
            try simp only [decide_eq_true_eq, decide_eq_false_iff_not, Bool.and_eq_true, Bool.or_eq_true, Bool.not_eq_true', Bool.not_eq_false', Bool.and_eq_false_iff, Bool.or_eq_false_iff, Bool.not_not, Bool.not_true, Bool.not_false, ne_eq, Classical.not_not, Decidable.not_not] at h7
            (exfalso; exact ends_dead2 (by assumption))
          · skip
            try simp only [decide_eq_true_eq, decide_eq_false_iff_not, Bool.and_eq_true, Bool.or_eq_true, Bool.not_eq_true', Bool.not_eq_false', Bool.and_eq_false_iff, Bool.or_eq_false_iff, Bool.not_not, Bool.not_true, Bool.not_false, ne_eq, Classical.not_not, Decidable.not_not] at h7
            refine SC.skip ?_
            refine SK.blk ?_
            refine SK.code ?_
            refine SC.region ?_
            refine SL.op (OpT.plain rfl (OpOk.move (Typ.tmp rfl))) rfl rfl ?_
            refine SL.op (OpT.plain rfl (OpOk.add (Typ.tmp rfl) Typ.cint (by unfold in64; first | omega | (simp at *; omega)))) rfl rfl ?_
            refine SL.op (OpT.plain rfl (OpOk.assign (Typ.tmp rfl))) rfl rfl ?_
            refine SL.nil ?_
            refine SK.takeOwn 1 ?_
            refine SK.roundK (i + 1) (by omega) (by omega) (by rw [← closeS_open]; rfl) rfl (Subs.eq rfl (by first | rfl | omega | (simp; done) | (simp_all; done) | (simp_all; omega)) Subs.nil)
    · skip
      try simp only [decide_eq_true_eq, decide_eq_false_iff_not, Bool.and_eq_true, Bool.or_eq_true, Bool.not_eq_true', Bool.not_eq_false', Bool.and_eq_false_iff, Bool.or_eq_false_iff, Bool.not_not, Bool.not_true, Bool.not_false, ne_eq, Classical.not_not, Decidable.not_not] at h3
      refine SC.exit rfl ?_
      refine SK.code ?_
      refine SC.seq ?_
      have hij : i = x.lines.length := by omega
      refine SC.region ?_
      refine SL.op (OpT.plain rfl (OpOk.fieldAddrOwn fld_38_3 (Typ.tmp rfl))) rfl rfl ?_
      refine SL.op (OpT.plain rfl (OpOk.loadOwn ty_3 Sess.l_phase (k := 0) rfl rfl (Typ.tmp rfl))) rfl rfl ?_
      refine SL.op (OpT.plain rfl (OpOk.eql (Typ.tmp rfl) Typ.cint)) rfl rfl ?_
      refine SL.op (OpT.plain rfl (OpOk.move (Typ.tmp rfl))) rfl rfl ?_
      refine SL.op (OpT.guard rfl rfl rfl (fun _ _ h => V_bool h) (fun hg => OpOk.fieldAddrOwn fld_38_2 (Typ.tmp rfl))) rfl rfl ?_
      refine SL.op (OpT.guard rfl rfl rfl (fun _ _ h => V_bool h) (fun hg => OpOk.loadOwn ty_3 Sess.l_next (k := 0) rfl rfl (Typ.cond hg rfl))) rfl rfl ?_
      refine SL.op (OpT.guard rfl rfl rfl (fun _ _ h => V_bool h) (fun hg => OpOk.fieldAddrRef fld_24_1 (Typ.tmp rfl))) rfl rfl ?_
      refine SL.op (OpT.guard rfl rfl rfl (fun _ _ h => V_bool h) (fun hg => OpOk.loadRef ty_22 (Typ.cond hg rfl))) rfl rfl ?_
      refine SL.op (OpT.guard rfl rfl rfl (fun _ _ h => V_bool h) (fun hg => OpOk.lenList Tryz.underlying22 (Typ.cond hg rfl))) rfl rfl ?_
      refine SL.op (OpT.guard rfl rfl rfl (fun _ _ h => V_bool h) (fun hg => OpOk.eql (Typ.cond hg rfl) (Typ.cond hg rfl))) rfl rfl ?_
      refine SL.op (OpT.plain rfl (OpOk.pickAnd (Typ.tmp rfl) (fun hb => Typ.cond hb rfl))) rfl rfl ?_
      refine SL.op (OpT.plain rfl (OpOk.assign (Typ.tmp rfl))) rfl rfl ?_
      refine SL.nil ?_
      refine SK.code ?_
      refine SC.ret ?_
      exact SR.one rfl (ResT.eq rfl (by first | ((subst hij; simp [closeN]; done)) | rfl | (simp_all []; done) | (simp_all []; rfl) | (simp_all []; omega)))
end Go.Proofs.YtgnblhmejecgfaaGreatDoor
