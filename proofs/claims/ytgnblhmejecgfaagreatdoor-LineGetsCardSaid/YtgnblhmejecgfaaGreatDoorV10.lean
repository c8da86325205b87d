/- Layer 19: the law SessOpens. -/
import Derived.Test.YtgnblhmejecgfaaGreatDoorV9
set_option linter.all false

namespace Go.Proofs.YtgnblhmejecgfaaGreatDoor
open Go Go.RowKit Go.Inn
set_option linter.unusedSimpArgs false
set_option linter.unusedVariables false
set_option maxRecDepth 100000
/-- a session that has closed so often -/
def closeN (x : Script) (i : Nat) : Sess := { player := x.player, lines := x.lines, next := i, phase := if (x.lines.length : Int) ≤ i then 12 else 0 }
theorem closeN_zero (x : Script) : newS x = closeN x 0 := rfl
theorem closeN_succ (x : Script) (i : Nat) : closeS (closeN x i) = closeN x (i + 1) := rfl
theorem few_lines {s : Sess} (h : fewS s = true) : s.lines.length ≤ 40 ∧ ∀ y, y ∈ s.lines → y.length ≤ 20000 := by
  unfold fewS at h
  simp only [Bool.and_eq_true, decide_eq_true_eq] at h
  obtain ⟨⟨⟨⟨⟨⟨⟨h1, h2⟩, _⟩, _⟩, _⟩, _⟩, _⟩, _⟩ := h
  refine ⟨h1, fun y hy => ?_⟩
  rw [List.take_of_length_le (by omega)] at h2
  have key : ∀ (l : List Str), y ∈ l → (y.length : Int) ≤ sumL l ∧ 0 ≤ sumL l := by
    intro l
    induction l with
    | nil => intro h; cases h
    | cons z l ih =>
      intro h
      have nn : ∀ l : List Str, 0 ≤ sumL l := by
        intro l
        induction l with
        | nil => simp [sumL]
        | cons a l ih => simp only [sumL, List.map_cons, List.sum_cons] at ih ⊢; omega
      have e : sumL (z :: l) = z.length + sumL l := by simp [sumL]
      rw [e]
      have := nn l
      rcases List.mem_cons.1 h with rfl | h
      · omega
      · have := ih h; omega
  have := key _ hy
  omega
theorem tmodL {k : UInt8} {n : Nat} (h : n ≠ 0) : ∃ j : Nat, ((k.toNat : Int).tmod n) = j ∧ j < n ∧ j = k.toNat % n := by
  refine ⟨k.toNat % n, ?_, Nat.mod_lt _ (Nat.pos_of_ne_zero h), rfl⟩
  rw [Int.tmod_eq_emod_of_nonneg (by omega)]
  exact (Int.natCast_emod _ _).symm
theorem openS_back (s : Sess) : ((((openS s).s_cmd s.cmd).s_phase s.phase).s_reply s.reply) = s := by
  unfold openS
  split
  · rfl
  · split <;> rfl
theorem getC_err (s : Str) : (getC s).2 ≠ 0 → (getC s).1 = {} := by
  unfold getC
  split
  · intro _; rfl
  · split
    · intro h; exact absurd rfl h
    · intro _; rfl
theorem getC_may (s : Str) (h : (getC s).2 = 0) : mayC (getC s).1 = true := by
  unfold getC at h ⊢
  split
  · rename_i e; rw [if_pos e] at h; cases h
  · rename_i e
    rw [if_neg e] at h
    split
    · rename_i q; exact q.2.2
    · rename_i q; rw [if_neg q] at h; cases h
theorem may_kind {c : Cmd} (h : mayC c = true) : c.kind ≠ 0 := by
  intro e
  unfold mayC at h
  rw [e] at h
  simp [nameK, nameIn, kindsL, nth] at h
theorem openS_kinds (s : Sess) (h9 : s.phase = 0) : ((openS s).phase = 9 ↔ ((openS s).cmd.kind = 9 ∨ (openS s).cmd.kind = 10)) ∧ ((openS s).phase = 8 ↔ (openS s).cmd.kind = 0) ∧ ((openS s).phase = 1 ↔ (¬ (openS s).cmd.kind = 0 ∧ ¬ ((openS s).cmd.kind = 9 ∨ (openS s).cmd.kind = 10))) := by
  unfold openS
  split
  · rename_i h
    have e := getC_err _ h
    simp [e]
  · rename_i h
    have e := may_kind (getC_may _ (by simpa using h))
    split
    · rename_i q; simp [q, e]
    · rename_i q; simp [q, e]
theorem opens_dead {s : Sess} (hp : s.phase = 0) (h : ((decide ((openS s).phase = 9) == (decide ((openS s).cmd.kind = 9) || decide ((openS s).cmd.kind = 10))) = false ∨ (decide ((openS s).phase = 8) == decide ((openS s).cmd.kind = 0)) = false) ∨
    (decide ((openS s).phase = 1) == (decide (¬ (openS s).cmd.kind = 0) && !(decide ((openS s).cmd.kind = 9) || decide ((openS s).cmd.kind = 10)))) = false) : False := by
  obtain ⟨q1, q2, q3⟩ := openS_kinds s hp
  generalize openS s = o at *
  have e1 : decide (o.phase = 9) = (decide (o.cmd.kind = 9) || decide (o.cmd.kind = 10)) := by rw [Bool.eq_iff_iff]; simp [q1]
  have e2 : decide (o.phase = 8) = decide (o.cmd.kind = 0) := by rw [decide_eq_decide]; exact q2
  have e3 : decide (o.phase = 1) = (decide (¬ o.cmd.kind = 0) && !(decide (o.cmd.kind = 9) || decide (o.cmd.kind = 10))) := by rw [Bool.eq_iff_iff]; simp [q3]
  rw [e1, e2, e3] at h
  simp at h

/-! innkeep/innkeeplaw19.SessOpens -/
theorem s_innkeeplaw19_SessOpens (x : Script) (k : UInt8) (hsm : ∀ y, y ∈ x.lines → y.length ≤ 140737488351232) : FnSpec Tryz.prog glob 5 [V x, V k] (V true) := by
  refine FnSpec.enter Tryz.func5 rfl rfl rfl fun m0 w0 => ?_
  refine SC.seq ?_
  refine SC.region ?_
  refine SL.op (OpT.plain rfl (OpOk.boxRef (Typ.tmp rfl))) rfl rfl ?_
  refine SL.op (OpT.plain rfl (OpOk.assign Typ.cbool)) rfl rfl ?_
  refine SL.nil ?_
  refine SK.code ?_
  refine SC.seq ?_
  refine SC.seq ?_
  refine SC.region ?_
  refine SL.op (OpT.plain rfl (OpOk.call Tryz.call10 Typ.fn Typs.nil (s_innkeeplaw19_awake))) rfl rfl ?_
  refine SL.op (OpT.plain rfl (OpOk.not (Typ.tmp rfl))) rfl rfl ?_
  refine SL.op (OpT.plain rfl (OpOk.move (Typ.tmp rfl))) rfl rfl ?_
  refine SL.op (OpT.guard rfl rfl rfl (fun _ _ h => V_bool h) (fun hg => OpOk.loadRef ty_24 (Typ.tmp rfl))) rfl rfl ?_
  refine SL.op (OpT.guard rfl rfl rfl (fun _ _ h => V_bool h) (fun hg => OpOk.call Tryz.call11 Typ.fn (Typs.cons (Typ.cond hg rfl) Typs.nil) (s_innkeeplaw19_few _ hsm))) rfl rfl ?_
  refine SL.op (OpT.guard rfl rfl rfl (fun _ _ h => V_bool h) (fun hg => OpOk.not (Typ.cond hg rfl))) rfl rfl ?_
  refine SL.op (OpT.plain rfl (OpOk.pickOr (Typ.tmp rfl) (fun hb => Typ.cond hb rfl))) rfl rfl ?_
  refine SL.op (OpT.plain rfl (OpOk.move (Typ.tmp rfl))) rfl rfl ?_
  refine SL.op (OpT.guard rfl rfl rfl (fun _ _ h => V_bool h) (fun hg => OpOk.fieldAddrRef fld_24_1 (Typ.tmp rfl))) rfl rfl ?_
  refine SL.op (OpT.guard rfl rfl rfl (fun _ _ h => V_bool h) (fun hg => OpOk.loadRef ty_22 (Typ.cond hg rfl))) rfl rfl ?_
  refine SL.op (OpT.guard rfl rfl rfl (fun _ _ h => V_bool h) (fun hg => OpOk.lenList Tryz.underlying22 (Typ.cond hg rfl))) rfl rfl ?_
  refine SL.op (OpT.guard rfl rfl rfl (fun _ _ h => V_bool h) (fun hg => OpOk.eql (Typ.cond hg rfl) Typ.cint)) rfl rfl ?_
  refine SL.op (OpT.plain rfl (OpOk.pickOr (Typ.tmp rfl) (fun hb => Typ.cond hb rfl))) rfl rfl ?_
  refine SL.nil ?_
  refine SK.code ?_
  refine SC.cond rfl (fun _ _ h => V_bool h) (fun h1 => ?_) (fun h1 => ?_)
  · skip
    try simp only [decide_eq_true_eq, decide_eq_false_iff_not, Bool.and_eq_true, Bool.or_eq_true, Bool.not_eq_true', Bool.not_eq_false', Bool.and_eq_false_iff, Bool.or_eq_false_iff, Bool.not_not, Bool.not_true, Bool.not_false, ne_eq, Classical.not_not, Decidable.not_not] at h1
    refine SC.seq ?_
    refine SC.region ?_
    refine SL.op (OpT.plain rfl (OpOk.call Tryz.call10 Typ.fn Typs.nil (s_innkeeplaw19_awake))) rfl rfl ?_
    refine SL.op (OpT.plain rfl (OpOk.assign (Typ.tmp rfl))) rfl rfl ?_
    refine SL.nil ?_
    refine SK.code ?_
    refine SC.ret ?_
    exact SR.one rfl (ResT.eq rfl (by first | ((rw [openS_back]; simp_all [closeN]; done)) | rfl | (simp_all []; done) | (simp_all []; rfl) | (simp_all []; omega)))
  · skip
    try simp only [decide_eq_true_eq, decide_eq_false_iff_not, Bool.and_eq_true, Bool.or_eq_true, Bool.not_eq_true', Bool.not_eq_false', Bool.and_eq_false_iff, Bool.or_eq_false_iff, Bool.not_not, Bool.not_true, Bool.not_false, ne_eq, Classical.not_not, Decidable.not_not] at h1
    have hf := few_lines (s := { lines := x.lines }) (by simp_all)
    have hf1 := hf.1
    dsimp only at hf hf1
    have hne : x.lines.length ≠ 0 := by omega
    obtain ⟨j, hj, hj2, _⟩ := tmodL (k := k) hne
    refine SC.skip ?_
    refine SK.code ?_
    refine SC.seq ?_
    refine SC.region ?_
    refine SL.op (OpT.plain rfl (OpOk.loadRef ty_24 (Typ.tmp rfl))) rfl rfl ?_
    refine SL.op (OpT.plain rfl (OpOk.call Tryz.call12 Typ.fn (Typs.cons (Typ.tmp rfl) Typs.nil) (s_sess_New _))) rfl rfl ?_
    refine SL.allocOwn tyz_38 rfl fun b2 => ?_
    refine SL.opW (OpW.storeOwn ty_38 (Lens.id _) (i := 0) rfl rfl (Typ.tmp rfl) (Typ.tmp rfl)) ?_
    refine SL.nil ?_
    refine SK.code ?_
    refine SC.seq ?_
    refine SC.seq ?_
    refine SC.region ?_
    refine SL.op (OpT.plain rfl (OpOk.assign Typ.cint)) rfl rfl ?_
    refine SL.nil ?_
    refine SK.code ?_
    refine SC.block ?_
    refine SC.loopK (σ := Nat) [1, 2, 4, 5] (fun i => [(6, V (i : Int))]) (fun i Δ => [Own.var b2 38 (closeN x i)]) (fun i => j - i) (fun i => i ≤ j) (0) (by omega) rfl (Subs.eq rfl (by first | rfl | omega | (simp; done) | (simp_all; done) | (simp_all; omega)) Subs.nil) (fun i hs => ?_)
    refine SC.seq ?_
    refine SC.seq ?_
    refine SC.region ?_
    refine SL.op (OpT.plain rfl (OpOk.move (Typ.tmp rfl))) rfl rfl ?_
    refine SL.op (OpT.plain rfl (OpOk.move (Typ.tmp rfl))) rfl rfl ?_
    refine SL.op (OpT.plain rfl (OpOk.convU8 ⟨_, Tryz.underlying5⟩ Tryz.underlying3 (Typ.tmp rfl))) rfl rfl ?_
    refine SL.op (OpT.plain rfl (OpOk.fieldAddrRef fld_24_1 (Typ.tmp rfl))) rfl rfl ?_
    refine SL.op (OpT.plain rfl (OpOk.loadRef ty_22 (Typ.tmp rfl))) rfl rfl ?_
    refine SL.op (OpT.plain rfl (OpOk.lenList Tryz.underlying22 (Typ.tmp rfl))) rfl rfl ?_
    refine SL.op (OpT.plain rfl (OpOk.rem (Typ.tmp rfl) (Typ.tmp rfl) (by omega) (by first | (unfold in64; omega) | (rw [hj]; unfold in64; omega)))) rfl rfl ?_
    refine SL.op (OpT.plain rfl (OpOk.lss (Typ.tmp rfl) (Typ.tmp rfl))) rfl rfl ?_
    refine SL.nil ?_
    refine SK.code ?_
    refine SC.cond rfl (fun _ _ h => V_bool h) (fun h3 => ?_) (fun h3 => ?_)
    · skip
      try simp only [decide_eq_true_eq, decide_eq_false_iff_not, Bool.and_eq_true, Bool.or_eq_true, Bool.not_eq_true', Bool.not_eq_false', Bool.and_eq_false_iff, Bool.or_eq_false_iff, Bool.not_not, Bool.not_true, Bool.not_false, ne_eq, Classical.not_not, Decidable.not_not] at h3
      refine SC.skip ?_
      refine SK.code ?_
      refine SC.seq ?_
      refine SC.block ?_
      refine SC.region ?_
      refine SL.op (OpT.plain rfl (OpOk.loadOwn ty_38 (Lens.id _) (k := 0) rfl rfl (Typ.tmp rfl))) rfl rfl ?_
      refine SL.op (OpT.plain rfl (OpOk.call Tryz.call17 Typ.fn (Typs.cons (Typ.tmp rfl) Typs.nil) (s_sess_Close _ (by simp only [closeN]; omega)))) rfl rfl ?_
      refine SL.opW (OpW.storeOwn ty_38 (Lens.id _) (i := 0) rfl rfl (Typ.tmp rfl) (Typ.tmp rfl)) ?_
      refine SL.nil ?_
      refine SK.blk ?_
      refine SK.code ?_
      refine SC.region ?_
      refine SL.op (OpT.plain rfl (OpOk.move (Typ.tmp rfl))) rfl rfl ?_
      refine SL.op (OpT.plain rfl (OpOk.add (Typ.tmp rfl) Typ.cint (by first | (unfold in64; omega) | (rw [hj]; unfold in64; omega)))) rfl rfl ?_
      refine SL.op (OpT.plain rfl (OpOk.assign (Typ.tmp rfl))) rfl rfl ?_
      refine SL.nil ?_
      refine SK.roundK (i + 1) (by omega) (by omega) rfl rfl (Subs.eq rfl (by first | rfl | omega | (simp; done) | (simp_all; done) | (simp_all; omega)) Subs.nil)
    · skip
      try simp only [decide_eq_true_eq, decide_eq_false_iff_not, Bool.and_eq_true, Bool.or_eq_true, Bool.not_eq_true', Bool.not_eq_false', Bool.and_eq_false_iff, Bool.or_eq_false_iff, Bool.not_not, Bool.not_true, Bool.not_false, ne_eq, Classical.not_not, Decidable.not_not] at h3
      refine SC.exit rfl ?_
      refine SK.code ?_
      refine SC.seq ?_
      have hij : (i : Int) = j := by omega
      refine SC.region ?_
      refine SL.op (OpT.plain rfl (OpOk.loadOwn ty_38 (Lens.id _) (k := 0) rfl rfl (Typ.tmp rfl))) rfl rfl ?_
      refine SL.op (OpT.plain rfl (OpOk.call Tryz.call13 Typ.fn (Typs.cons (Typ.tmp rfl) Typs.nil) (s_sess_Open _ (by simp only [closeN]; omega) (by simp only [closeN]; omega) (by simp only [closeN]; exact Nat.le_trans (hf.2 _ (nth_mem (by omega) (by omega))) (by omega))))) rfl rfl ?_
      refine SL.allocOwn tyz_38 rfl fun b4 => ?_
      refine SL.opW (OpW.storeOwn ty_38 (Lens.id _) (i := 1) rfl rfl (Typ.tmp rfl) (Typ.tmp rfl)) ?_
      refine SL.nil ?_
      refine SK.code ?_
      refine SC.seq ?_
      refine SC.region ?_
      refine SL.op (OpT.plain rfl (OpOk.fieldAddrOwn fld_38_5 (Typ.tmp rfl))) rfl rfl ?_
      refine SL.op (OpT.plain rfl (OpOk.fieldAddrOwn fld_29_0 (Typ.tmp rfl))) rfl rfl ?_
      refine SL.op (OpT.plain rfl (OpOk.loadOwn ty_3 (Sess.l_cmd.comp Cmd.l_kind) (k := 1) rfl rfl (Typ.tmp rfl))) rfl rfl ?_
      refine SL.op (OpT.plain rfl (OpOk.eql (Typ.tmp rfl) Typ.cint)) rfl rfl ?_
      refine SL.op (OpT.plain rfl (OpOk.move (Typ.tmp rfl))) rfl rfl ?_
      refine SL.op (OpT.guard rfl rfl rfl (fun _ _ h => V_bool h) (fun hg => OpOk.fieldAddrOwn fld_38_5 (Typ.tmp rfl))) rfl rfl ?_
      refine SL.op (OpT.guard rfl rfl rfl (fun _ _ h => V_bool h) (fun hg => OpOk.fieldAddrOwn fld_29_0 (Typ.cond hg rfl))) rfl rfl ?_
      refine SL.op (OpT.guard rfl rfl rfl (fun _ _ h => V_bool h) (fun hg => OpOk.loadOwn ty_3 (Sess.l_cmd.comp Cmd.l_kind) (k := 1) rfl rfl (Typ.cond hg rfl))) rfl rfl ?_
      refine SL.op (OpT.guard rfl rfl rfl (fun _ _ h => V_bool h) (fun hg => OpOk.eql (Typ.cond hg rfl) Typ.cint)) rfl rfl ?_
      refine SL.op (OpT.plain rfl (OpOk.pickOr (Typ.tmp rfl) (fun hb => Typ.cond hb rfl))) rfl rfl ?_
      refine SL.op (OpT.plain rfl (OpOk.assign (Typ.tmp rfl))) rfl rfl ?_
      refine SL.nil ?_
      refine SK.code ?_
      refine SC.seq ?_
      refine SC.seq ?_
      refine SC.region ?_
      refine SL.op (OpT.plain rfl (OpOk.fieldAddrOwn fld_38_3 (Typ.tmp rfl))) rfl rfl ?_
      refine SL.op (OpT.plain rfl (OpOk.loadOwn ty_3 Sess.l_phase (k := 1) rfl rfl (Typ.tmp rfl))) rfl rfl ?_
      refine SL.op (OpT.plain rfl (OpOk.eql (Typ.tmp rfl) Typ.cint)) rfl rfl ?_
      refine SL.op (OpT.plain rfl (OpOk.move (Typ.tmp rfl))) rfl rfl ?_
      refine SL.op (OpT.plain rfl (OpOk.neb Tryz.underlying4 (Typ.tmp rfl) (Typ.tmp rfl))) rfl rfl ?_
      refine SL.op (OpT.plain rfl (OpOk.move (Typ.tmp rfl))) rfl rfl ?_
      refine SL.op (OpT.guard rfl rfl rfl (fun _ _ h => V_bool h) (fun hg => OpOk.fieldAddrOwn fld_38_3 (Typ.tmp rfl))) rfl rfl ?_
      refine SL.op (OpT.guard rfl rfl rfl (fun _ _ h => V_bool h) (fun hg => OpOk.loadOwn ty_3 Sess.l_phase (k := 1) rfl rfl (Typ.cond hg rfl))) rfl rfl ?_
      refine SL.op (OpT.guard rfl rfl rfl (fun _ _ h => V_bool h) (fun hg => OpOk.eql (Typ.cond hg rfl) Typ.cint)) rfl rfl ?_
      refine SL.op (OpT.guard rfl rfl rfl (fun _ _ h => V_bool h) (fun hg => OpOk.fieldAddrOwn fld_38_5 (Typ.tmp rfl))) rfl rfl ?_
      refine SL.op (OpT.guard rfl rfl rfl (fun _ _ h => V_bool h) (fun hg => OpOk.fieldAddrOwn fld_29_0 (Typ.cond hg rfl))) rfl rfl ?_
      refine SL.op (OpT.guard rfl rfl rfl (fun _ _ h => V_bool h) (fun hg => OpOk.loadOwn ty_3 (Sess.l_cmd.comp Cmd.l_kind) (k := 1) rfl rfl (Typ.cond hg rfl))) rfl rfl ?_
      refine SL.op (OpT.guard rfl rfl rfl (fun _ _ h => V_bool h) (fun hg => OpOk.eql (Typ.cond hg rfl) Typ.cint)) rfl rfl ?_
      refine SL.op (OpT.guard rfl rfl rfl (fun _ _ h => V_bool h) (fun hg => OpOk.neb Tryz.underlying4 (Typ.cond hg rfl) (Typ.cond hg rfl))) rfl rfl ?_
      refine SL.op (OpT.plain rfl (OpOk.pickOr (Typ.tmp rfl) (fun hb => Typ.cond hb rfl))) rfl rfl ?_
      refine SL.op (OpT.plain rfl (OpOk.move (Typ.tmp rfl))) rfl rfl ?_
      refine SL.op (OpT.guard rfl rfl rfl (fun _ _ h => V_bool h) (fun hg => OpOk.fieldAddrOwn fld_38_3 (Typ.tmp rfl))) rfl rfl ?_
      refine SL.op (OpT.guard rfl rfl rfl (fun _ _ h => V_bool h) (fun hg => OpOk.loadOwn ty_3 Sess.l_phase (k := 1) rfl rfl (Typ.cond hg rfl))) rfl rfl ?_
      refine SL.op (OpT.guard rfl rfl rfl (fun _ _ h => V_bool h) (fun hg => OpOk.eql (Typ.cond hg rfl) Typ.cint)) rfl rfl ?_
      refine SL.op (OpT.guard rfl rfl rfl (fun _ _ h => V_bool h) (fun hg => OpOk.fieldAddrOwn fld_38_5 (Typ.tmp rfl))) rfl rfl ?_
      refine SL.op (OpT.guard rfl rfl rfl (fun _ _ h => V_bool h) (fun hg => OpOk.fieldAddrOwn fld_29_0 (Typ.cond hg rfl))) rfl rfl ?_
      refine SL.op (OpT.guard rfl rfl rfl (fun _ _ h => V_bool h) (fun hg => OpOk.loadOwn ty_3 (Sess.l_cmd.comp Cmd.l_kind) (k := 1) rfl rfl (Typ.cond hg rfl))) rfl rfl ?_
      refine SL.op (OpT.guard rfl rfl rfl (fun _ _ h => V_bool h) (fun hg => OpOk.neq (Typ.cond hg rfl) Typ.cint)) rfl rfl ?_
      refine SL.op (OpT.guard rfl rfl rfl (fun _ _ h => V_bool h) (fun hg => OpOk.move (Typ.cond hg rfl))) rfl rfl ?_
      refine SL.op (OpT.guard2 rfl rfl rfl (fun _ _ h => V_bool h) (fun hc hg => OpOk.move (Typ.tmp rfl))) rfl rfl ?_
      refine SL.op (OpT.guard2 rfl rfl rfl (fun _ _ h => V_bool h) (fun hc hg => OpOk.not (Typ.cond ⟨hc, hg⟩ rfl))) rfl rfl ?_
      refine SL.op (OpT.guard rfl rfl rfl (fun _ _ h => V_bool h) (fun hg => OpOk.pickAnd (Typ.cond hg rfl) (fun hb => Typ.cond ⟨hg, hb⟩ rfl))) rfl rfl ?_
      refine SL.op (OpT.guard rfl rfl rfl (fun _ _ h => V_bool h) (fun hg => OpOk.neb Tryz.underlying4 (Typ.cond hg rfl) (Typ.cond hg rfl))) rfl rfl ?_
      refine SL.op (OpT.plain rfl (OpOk.pickOr (Typ.tmp rfl) (fun hb => Typ.cond hb rfl))) rfl rfl ?_
      refine SL.nil ?_
      refine SK.code ?_
      refine SC.cond rfl (fun _ _ h => V_bool h) (fun h5 => ?_) (fun h5 => ?_)
      · skip
        try simp only [decide_eq_true_eq, decide_eq_false_iff_not, Bool.and_eq_true, Bool.or_eq_true, Bool.not_eq_true', Bool.not_eq_false', Bool.and_eq_false_iff, Bool.or_eq_false_iff, Bool.not_not, Bool.not_true, Bool.not_false, ne_eq, Classical.not_not, Decidable.not_not] at h5
        (exfalso; have hp : (closeN x i).phase = 0 := (by simp only [closeN]; rw [if_neg (by omega)]); exact opens_dead hp h5)
      · skip
        try simp only [decide_eq_true_eq, decide_eq_false_iff_not, Bool.and_eq_true, Bool.or_eq_true, Bool.not_eq_true', Bool.not_eq_false', Bool.and_eq_false_iff, Bool.or_eq_false_iff, Bool.not_not, Bool.not_true, Bool.not_false, ne_eq, Classical.not_not, Decidable.not_not] at h5
        refine SC.skip ?_
        refine SK.code ?_
        refine SC.seq ?_
        refine SC.region ?_
        refine SL.op (OpT.plain rfl (OpOk.fieldAddrOwn fld_38_5 (Typ.tmp rfl))) rfl rfl ?_
        refine SL.op (OpT.plain rfl (OpOk.loadOwn ty_29 Sess.l_cmd (k := 0) rfl rfl (Typ.tmp rfl))) rfl rfl ?_
        refine SL.op (OpT.plain rfl (OpOk.fieldAddrOwn fld_38_5 (Typ.tmp rfl))) rfl rfl ?_
        refine SL.opW (OpW.storeOwn ty_29 Sess.l_cmd (i := 1) rfl rfl (Typ.tmp rfl) (Typ.tmp rfl)) ?_
        refine SL.nil ?_
        refine SK.code ?_
        refine SC.seq ?_
        refine SC.region ?_
        refine SL.op (OpT.plain rfl (OpOk.fieldAddrOwn fld_38_3 (Typ.tmp rfl))) rfl rfl ?_
        refine SL.op (OpT.plain rfl (OpOk.loadOwn ty_3 Sess.l_phase (k := 0) rfl rfl (Typ.tmp rfl))) rfl rfl ?_
        refine SL.op (OpT.plain rfl (OpOk.fieldAddrOwn fld_38_3 (Typ.tmp rfl))) rfl rfl ?_
        refine SL.opW (OpW.storeOwn ty_3 Sess.l_phase (i := 1) rfl rfl (Typ.tmp rfl) (Typ.tmp rfl)) ?_
        refine SL.nil ?_
        refine SK.code ?_
        refine SC.seq ?_
        refine SC.region ?_
        refine SL.op (OpT.plain rfl (OpOk.fieldAddrOwn fld_38_9 (Typ.tmp rfl))) rfl rfl ?_
        refine SL.op (OpT.plain rfl (OpOk.loadOwn ty_35 Sess.l_reply (k := 0) rfl rfl (Typ.tmp rfl))) rfl rfl ?_
        refine SL.op (OpT.plain rfl (OpOk.fieldAddrOwn fld_38_9 (Typ.tmp rfl))) rfl rfl ?_
        refine SL.opW (OpW.storeOwn ty_35 Sess.l_reply (i := 1) rfl rfl (Typ.tmp rfl) (Typ.tmp rfl)) ?_
        refine SL.nil ?_
        refine SK.code ?_
        refine SC.seq ?_
        refine DR.start ?_
        refine DR.opR (OpT.plain rfl (OpOk.loadOwn ty_38 (Lens.id _) (k := 1) rfl rfl (Typ.tmp rfl))) rfl rfl ?_
        refine DR.opR (OpT.plain rfl (OpOk.loadOwn ty_38 (Lens.id _) (k := 0) rfl rfl (Typ.tmp rfl))) rfl rfl ?_
        refine DR.op (fun _ => (OpT.plain rfl (OpOk.call Tryz.call20 Typ.fn (Typs.cons (Typ.tmp rfl) (Typs.cons (Typ.tmp rfl) Typs.nil)) (s_sess_Same _ _)))) rfl rfl ?_
        refine DR.op (fun _ => (OpT.plain rfl (OpOk.move (Typ.tmp rfl)))) rfl rfl ?_
        refine DR.op (fun _ => (OpT.guard rfl rfl rfl (fun _ _ h => V_bool h) (fun hg => OpOk.fieldAddrOwn fld_38_2 (Typ.tmp rfl)))) rfl rfl ?_
        refine DR.opR (OpT.guard rfl rfl rfl (fun _ _ h => V_bool h) (fun hg => OpOk.loadOwn ty_3 Sess.l_next (k := 0) rfl rfl (Typ.cond hg rfl))) rfl rfl ?_
        refine DR.op (fun _ => (OpT.guard rfl rfl rfl (fun _ _ h => V_bool h) (fun hg => OpOk.move (Typ.tmp rfl)))) rfl rfl ?_
        refine DR.op (fun _ => (OpT.guard rfl rfl rfl (fun _ _ h => V_bool h) (fun hg => OpOk.convU8 ⟨_, Tryz.underlying5⟩ Tryz.underlying3 (Typ.cond hg rfl)))) rfl rfl ?_
        refine DR.op (fun _ => (OpT.guard rfl rfl rfl (fun _ _ h => V_bool h) (fun hg => OpOk.fieldAddrRef fld_24_1 (Typ.tmp rfl)))) rfl rfl ?_
        refine DR.op (fun _ => (OpT.guard rfl rfl rfl (fun _ _ h => V_bool h) (fun hg => OpOk.loadRef ty_22 (Typ.cond hg rfl)))) rfl rfl ?_
        refine DR.op (fun _ => (OpT.guard rfl rfl rfl (fun _ _ h => V_bool h) (fun hg => OpOk.lenList Tryz.underlying22 (Typ.cond hg rfl)))) rfl rfl ?_
        refine DR.op (fun _ => (OpT.guard rfl rfl rfl (fun _ _ h => V_bool h) (fun hg => OpOk.rem (Typ.cond hg rfl) (Typ.cond hg rfl) (by omega) (by first | (unfold in64; omega) | (rw [hj]; unfold in64; omega))))) rfl rfl ?_
        refine DR.op (fun _ => (OpT.guard rfl rfl rfl (fun _ _ h => V_bool h) (fun hg => OpOk.eql (Typ.cond hg rfl) (Typ.cond hg rfl)))) rfl rfl ?_
        refine DR.op (fun _ => (OpT.plain rfl (OpOk.pickAnd (Typ.tmp rfl) (fun hb => Typ.cond hb rfl)))) rfl rfl ?_
        refine DR.tail rfl (by decide +kernel) (show dstBelow _ 101 = true by decide +kernel) rfl ?_
        refine SL.op (OpT.plain rfl (OpOk.assign (Typ.tmp rfl))) rfl rfl ?_
        refine SL.nil ?_
        refine SK.code ?_
        refine SC.ret ?_
        exact SR.one rfl (ResT.eq rfl (by first | ((rw [openS_back]; simp_all [closeN]; done)) | rfl | (simp_all []; done) | (simp_all []; rfl) | (simp_all []; omega)))
end Go.Proofs.YtgnblhmejecgfaaGreatDoor
