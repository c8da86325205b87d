/- Layer 4: the law LineKinds. -/
import Derived.Test.YtgnblhmejecgfaaGreatDoorV16
import Derived.Test.YtgnblhmejecgfaaGreatDoorKG
set_option linter.all false

namespace Go.Proofs.YtgnblhmejecgfaaGreatDoor
open Go Go.RowKit Go.Inn
set_option linter.unusedSimpArgs false
set_option linter.unusedVariables false
set_option maxRecDepth 100000
/-! innkeep/innkeepref02.Cut -/
theorem s_CutRow (s : Str) (hs0 : s.length ≤ 100000000000) : FnSpecW Tryz.prog glob 28 [V s] 9 (words s) := by
  refine FnSpecW.enter Tryz.func28 rfl rfl rfl fun m0 w0 => ?_
  refine SC.learnStr (t := 0) rfl fun hp0 => ?_
  refine SC.seq ?_
  refine SC.region ?_
  refine SL.op (OpT.plain rfl (OpOk.assign (Typ.cnil (α := Str)))) rfl rfl ?_
  refine SL.nil ?_
  refine SK.code ?_
  refine SC.seq ?_
  refine SC.region ?_
  refine SL.nilRow (Str) 9 ?_
  refine SL.op (F := .eq (.slice none 0 0)) (OpT.plain rfl (OpOk.assign (Typ.con fun _ => rfl))) rfl rfl ?_
  refine SL.nil ?_
  refine SK.code ?_
  refine SC.seq ?_
  refine SC.region ?_
  refine SL.op (OpT.plain rfl (OpOk.assign Typ.cint)) rfl rfl ?_
  refine SL.nil ?_
  refine SK.code ?_
  refine SC.seq ?_
  refine SC.block ?_
  refine SC.loopK (σ := Nat × List Str × Value) [0, 2] (fun st => [(4, V (st.1 : Int)), (3, .eq st.2.2)]) (fun st Δ => [Own.row st.2.2 9 st.2.1]) (fun st => s.length - st.1) (fun st => CutInv s st.1 st.2.1) ((0, [], .slice none 0 0)) (CutInv.zero s) rfl (Subs.eq rfl (by first | rfl | omega | (simp; done) | (simp_all; done) | (simp_all; omega)) (Subs.one rfl Subs.nil)) (fun st hs => ?_)
  obtain ⟨i, acc, v⟩ := st
  dsimp only at hs ⊢
  have q1 := hs.le
  have q2 := hs.len
  refine SC.seq ?_
  refine SC.seq ?_
  refine SC.region ?_
  refine SL.op (OpT.plain rfl (OpOk.move (Typ.tmp rfl))) rfl rfl ?_
  refine SL.op (OpT.plain rfl (OpOk.move (Typ.tmp rfl))) rfl rfl ?_
  refine SL.op (OpT.plain rfl (OpOk.lenStr Tryz.underlying9 (Typ.tmp rfl))) rfl rfl ?_
  refine SL.op (OpT.plain rfl (OpOk.lss (Typ.tmp rfl) (Typ.tmp rfl))) rfl rfl ?_
  refine SL.nil ?_
  refine SK.code ?_
  refine SC.cond rfl (fun _ _ h => V_bool h) (fun h1 => ?_) (fun h1 => ?_)
  · skip
    try simp only [decide_eq_true_eq, decide_eq_false_iff_not, Bool.and_eq_true, Bool.or_eq_true, Bool.not_eq_true', Bool.not_eq_false', Bool.and_eq_false_iff, Bool.or_eq_false_iff, Bool.not_not, Bool.not_true, Bool.not_false, ne_eq, Classical.not_not, Decidable.not_not] at h1
    refine SC.skip ?_
    refine SK.code ?_
    refine SC.block ?_
    refine SC.seq ?_
    refine SC.seq ?_
    refine SC.region ?_
    refine SL.op (OpT.plain rfl (OpOk.move (Typ.tmp rfl))) rfl rfl ?_
    refine SL.op (OpT.plain rfl (OpOk.move (Typ.tmp rfl))) rfl rfl ?_
    refine SL.op (OpT.plain rfl (OpOk.indexStr Tryz.underlying9 (Typ.tmp rfl) (Typ.tmp rfl) (by first | omega | (simp only [decide_eq_true_eq, decide_eq_false_iff_not] at *; omega) | (simp at *; omega)) (by first | omega | (simp only [decide_eq_true_eq, decide_eq_false_iff_not] at *; omega) | (simp at *; omega)))) rfl rfl ?_
    refine SL.op (OpT.plain rfl (OpOk.eqlU8 (Typ.tmp rfl) (Typ.cu8n 32))) rfl rfl ?_
    refine SL.nil ?_
    refine SK.code ?_
    refine SC.cond rfl (fun _ _ h => V_bool h) (fun h2 => ?_) (fun h2 => ?_)
    · skip
      try simp only [decide_eq_true_eq, decide_eq_false_iff_not, Bool.and_eq_true, Bool.or_eq_true, Bool.not_eq_true', Bool.not_eq_false', Bool.and_eq_false_iff, Bool.or_eq_false_iff, Bool.not_not, Bool.not_true, Bool.not_false, ne_eq, Classical.not_not, Decidable.not_not] at h2
      refine SC.seq ?_
      refine SC.region ?_
      refine SL.op (OpT.plain rfl (OpOk.move (Typ.tmp rfl))) rfl rfl ?_
      refine SL.op (OpT.plain rfl (OpOk.add (Typ.tmp rfl) Typ.cint (by unfold in64; first | omega | (simp at *; omega)))) rfl rfl ?_
      refine SL.op (OpT.plain rfl (OpOk.assign (Typ.tmp rfl))) rfl rfl ?_
      refine SL.nil ?_
      refine SK.code ?_
      refine SC.exit rfl ?_
      refine SK.roundK ((i + 1, acc, v)) (by simp only; omega) (by first | exact hs.gap (by assumption) (by assumption) | exact hw.2) rfl rfl (Subs.eq rfl (by first | rfl | omega | (simp; done) | (simp_all; done) | (simp_all; omega)) (Subs.one rfl Subs.nil))
    · skip
      try simp only [decide_eq_true_eq, decide_eq_false_iff_not, Bool.and_eq_true, Bool.or_eq_true, Bool.not_eq_true', Bool.not_eq_false', Bool.and_eq_false_iff, Bool.or_eq_false_iff, Bool.not_not, Bool.not_true, Bool.not_false, ne_eq, Classical.not_not, Decidable.not_not] at h2
      refine SC.skip ?_
      refine SK.code ?_
      refine SC.seq ?_
      refine SC.region ?_
      refine SL.op (OpT.plain rfl (OpOk.move (Typ.tmp rfl))) rfl rfl ?_
      refine SL.op (OpT.plain rfl (OpOk.assign (Typ.tmp rfl))) rfl rfl ?_
      refine SL.nil ?_
      refine SK.code ?_
      refine SC.seq ?_
      refine SC.block ?_
      refine SC.loopK (σ := Nat) [0, 2, 3, 4] (fun k => [(5, V (k : Int))]) (fun k Δ => Δ) (fun k => s.length - k) (fun k => KInv s i k) (i) (KInv.zero q1) rfl (Subs.eq rfl (by first | rfl | omega | (simp; done) | (simp_all; done) | (simp_all; omega)) Subs.nil) (fun k hk => ?_)
      have k1 := hk.ik
      have k2 := hk.le
      refine SC.seq ?_
      refine SC.seq ?_
      refine SC.region ?_
      refine SL.op (OpT.plain rfl (OpOk.move (Typ.tmp rfl))) rfl rfl ?_
      refine SL.op (OpT.plain rfl (OpOk.move (Typ.tmp rfl))) rfl rfl ?_
      refine SL.op (OpT.plain rfl (OpOk.lenStr Tryz.underlying9 (Typ.tmp rfl))) rfl rfl ?_
      refine SL.op (OpT.plain rfl (OpOk.lss (Typ.tmp rfl) (Typ.tmp rfl))) rfl rfl ?_
      refine SL.op (OpT.plain rfl (OpOk.move (Typ.tmp rfl))) rfl rfl ?_
      refine SL.op (OpT.guard rfl rfl rfl (fun _ _ h => V_bool h) (fun hg => OpOk.move (Typ.tmp rfl))) rfl rfl ?_
      refine SL.op (OpT.guard rfl rfl rfl (fun _ _ h => V_bool h) (fun hg => OpOk.move (Typ.tmp rfl))) rfl rfl ?_
      refine SL.op (OpT.guard rfl rfl rfl (fun _ _ h => V_bool h) (fun hg => OpOk.indexStr Tryz.underlying9 (Typ.cond hg rfl) (Typ.cond hg rfl) (by first | omega | (simp only [decide_eq_true_eq, decide_eq_false_iff_not] at *; omega) | (simp at *; omega)) (by first | omega | (simp only [decide_eq_true_eq, decide_eq_false_iff_not] at *; omega) | (simp at *; omega)))) rfl rfl ?_
      refine SL.op (OpT.guard rfl rfl rfl (fun _ _ h => V_bool h) (fun hg => OpOk.neqU8 (Typ.cond hg rfl) (Typ.cu8n 32))) rfl rfl ?_
      refine SL.op (OpT.plain rfl (OpOk.pickAnd (Typ.tmp rfl) (fun hb => Typ.cond hb rfl))) rfl rfl ?_
      refine SL.nil ?_
      refine SK.code ?_
      refine SC.cond rfl (fun _ _ h => V_bool h) (fun h3 => ?_) (fun h3 => ?_)
      · skip
        try simp only [decide_eq_true_eq, decide_eq_false_iff_not, Bool.and_eq_true, Bool.or_eq_true, Bool.not_eq_true', Bool.not_eq_false', Bool.and_eq_false_iff, Bool.or_eq_false_iff, Bool.not_not, Bool.not_true, Bool.not_false, ne_eq, Classical.not_not, Decidable.not_not] at h3
        refine SC.skip ?_
        refine SK.code ?_
        refine SC.block ?_
        refine SC.region ?_
        refine SL.op (OpT.plain rfl (OpOk.move (Typ.tmp rfl))) rfl rfl ?_
        refine SL.op (OpT.plain rfl (OpOk.add (Typ.tmp rfl) Typ.cint (by unfold in64; first | omega | (simp at *; omega)))) rfl rfl ?_
        refine SL.op (OpT.plain rfl (OpOk.assign (Typ.tmp rfl))) rfl rfl ?_
        refine SL.nil ?_
        refine SK.blk ?_
        refine SK.roundK (k + 1) (by omega) (hk.step (by simp_all) (by simp_all)) rfl rfl (Subs.eq rfl (by first | rfl | omega | (simp; done) | (simp_all; done) | (simp_all; omega)) Subs.nil)
      · skip
        try simp only [decide_eq_true_eq, decide_eq_false_iff_not, Bool.and_eq_true, Bool.or_eq_true, Bool.not_eq_true', Bool.not_eq_false', Bool.and_eq_false_iff, Bool.or_eq_false_iff, Bool.not_not, Bool.not_true, Bool.not_false, ne_eq, Classical.not_not, Decidable.not_not] at h3
        refine SC.exit rfl ?_
        refine SK.code ?_
        refine SC.seq ?_
        have hw := hs.word hk (by assumption) (by assumption) (by first | (simp_all; done) | (simp_all; omega))
        refine SC.region ?_
        refine SL.op (OpT.plain rfl (OpOk.move (Typ.tmp rfl))) rfl rfl ?_
        refine SL.op (OpT.plain rfl (OpOk.move (Typ.tmp rfl))) rfl rfl ?_
        refine SL.op (OpT.plain rfl (OpOk.move (Typ.tmp rfl))) rfl rfl ?_
        refine SL.op (OpT.plain rfl (OpOk.move (Typ.tmp rfl))) rfl rfl ?_
        refine SL.op (OpT.plain rfl (OpOk.cutStr Tryz.underlying9 (Typ.tmp rfl) (Lo.s (Typ.tmp rfl)) (Lo.s (Typ.tmp rfl)) (by first | omega | (simp only [decide_eq_true_eq, decide_eq_false_iff_not] at *; omega) | (simp at *; omega)) (by first | omega | (simp only [decide_eq_true_eq, decide_eq_false_iff_not] at *; omega) | (simp at *; omega)) (by first | omega | (simp only [decide_eq_true_eq, decide_eq_false_iff_not] at *; omega) | (simp at *; omega)))) rfl rfl ?_
        refine SL.op (OpT.plain rfl (OpOk.buildSlice lit_22_1 (parts := [(0, Operand.tmp 33)]) rfl (TypL.cons (Typ.tmp rfl) TypL.nil))) rfl rfl ?_
        obtain ⟨by_, hby, htyi⟩ := tyi_22
        refine SL.append Tryz.underlying22 htyi (i := 0) rfl (Typ.tmp rfl) (Typ.tmp rfl) (by simp) ?_ ?_ rfl fun v4 => ?_
        · exact (by refine Nat.le_trans (Nat.mul_le_mul (Nat.le_refl _) hby) ?_; first | omega | (simp; done) | (simp; omega) | (simp only [Cmd.s_kind, Cmd.s_dir, Cmd.s_item, Cmd.s_box, Cmd.s_who, Cmd.s_gives, Cmd.s_pay, Cmd.s_wants, Cmd.s_fee]; simp; omega) | (simp at *; omega))
        · exact (by unfold maxLen; first | omega | (simp; done) | (simp; omega) | (simp only [Cmd.s_kind, Cmd.s_dir, Cmd.s_item, Cmd.s_box, Cmd.s_who, Cmd.s_gives, Cmd.s_pay, Cmd.s_wants, Cmd.s_fee]; simp; omega) | (simp at *; omega))
        clear htyi hby
        refine SL.op (OpT.plain rfl (OpOk.assign (Typ.tmp rfl))) rfl rfl ?_
        refine SL.nil ?_
        refine SK.code ?_
        refine SC.region ?_
        refine SL.op (OpT.plain rfl (OpOk.move (Typ.tmp rfl))) rfl rfl ?_
        refine SL.op (OpT.plain rfl (OpOk.assign (Typ.tmp rfl))) rfl rfl ?_
        refine SL.nil ?_
        refine SK.blk ?_
        refine SK.roundK ((k, acc ++ [(s.take ((k : Int)).toNat).drop ((i : Int)).toNat], v4)) (by simp only; omega) (by first | exact hs.gap (by assumption) (by assumption) | exact hw.2) rfl rfl (Subs.eq rfl (by first | rfl | omega | (simp; done) | (simp_all; done) | (simp_all; omega)) (Subs.one rfl Subs.nil))
  · skip
    try simp only [decide_eq_true_eq, decide_eq_false_iff_not, Bool.and_eq_true, Bool.or_eq_true, Bool.not_eq_true', Bool.not_eq_false', Bool.and_eq_false_iff, Bool.or_eq_false_iff, Bool.not_not, Bool.not_true, Bool.not_false, ne_eq, Classical.not_not, Decidable.not_not] at h1
    refine SC.exit rfl ?_
    refine SK.code ?_
    refine SC.seq ?_
    have hdone := hs.done (by assumption)
    refine SC.region ?_
    refine SL.op (OpT.plain rfl (OpOk.move (Typ.tmp rfl))) rfl rfl ?_
    refine SL.op (OpT.plain rfl (OpOk.assign (Typ.tmp rfl))) rfl rfl ?_
    refine SL.nil ?_
    refine SK.code ?_
    refine SC.ret ?_
    exact SR.oneRow 0 rfl rfl rfl (by first | (exact hdone) | rfl | (simp_all []; done) | (simp_all []; rfl) | (simp_all []; omega))

theorem kinds_first (c : Cmd) : nth (wordsR c) ((0 : Nat) : Int) = nameK c.kind := rfl
theorem kinds_len (c : Cmd) : 0 < (wordsR c).length := by simp [wordsR]
theorem mod10 (k : UInt8) : (k % 10).toNat < 10 := by
  rw [UInt8.toNat_mod]; exact Nat.mod_lt _ (by decide)
theorem kinds_words {c : Cmd} (hm : mayR c = true) {k : Int} (hk : 1 ≤ k ∧ k ≤ 10) : words (join ((wordsR c).set 0 (nameK k))) = (wordsR c).set 0 (nameK k) :=
  words_join fun w hw => by
    rcases List.mem_or_eq_of_mem_set hw with h | h
    · exact wordsR_plain hm w h
    · rw [h]; exact name_plain hk
theorem nameK_short {k : Int} (hk : 1 ≤ k ∧ k ≤ 10) : (nameK k).length ≤ 100 := by
  obtain ⟨n, rfl⟩ : ∃ n : Nat, k = n := ⟨k.toNat, by omega⟩
  match n, hk with
  | 1, _ | 2, _ | 3, _ | 4, _ | 5, _ | 6, _ | 7, _ | 8, _ | 9, _ | 10, _ => decide
  | 0, h => omega
  | n + 11, h => omega
theorem kinds_le {c : Cmd} (hm : mayR c = true) {k : Int} (hk : 1 ≤ k ∧ k ≤ 10) : (join ((wordsR c).set 0 (nameK k))).length ≤ 10100 := by
  obtain ⟨h1, h2⟩ := wordsR_le hm
  refine Nat.le_trans (join_bound fun x hx => ?_) (by rw [List.length_set]; omega)
  rcases List.mem_or_eq_of_mem_set hx with h | h
  · exact h1 x h
  · rw [h]; exact nameK_short hk
theorem kinds_close {c : Cmd} (hm : mayR c = true) {k : Int} (hk : 1 ≤ k ∧ k ≤ 10) {s : Str} (hs : s = join ((wordsR c).set 0 (nameK k))) :
    (decide ((getC s).2 ≠ 0) || (decide ((getC s).1.kind = k) && (decide (k = c.kind) == decide (c = (getC s).1)))) = true := by
  by_cases h0 : (getC s).2 = 0
  · obtain ⟨h1, h2⟩ := getC_zero h0
    rw [hs, kinds_words hm hk, ← hs] at h2
    have e1 : nameK (getC s).1.kind = nameK k := by
      have : nth (wordsR (getC s).1) ((0 : Nat) : Int) = nth ((wordsR c).set 0 (nameK k)) ((0 : Nat) : Int) := by rw [h2]
      exact this
    have e2 := nameK_inj (may_kind1 h1) hk e1
    have e3 : (k = c.kind) ↔ (c = (getC s).1) := by
      constructor
      · intro e
        refine wordsR_inj hm h1 ?_
        rw [h2, e]
        rfl
      · intro e; rw [← e2, ← e]
    have e4 : decide (k = c.kind) = decide (c = (getC s).1) := decide_eq_decide.2 e3
    rw [e4]
    simp [e2]
  · simp [h0]

/-! innkeep/innkeeplaw04.LineKinds -/
theorem s_innkeeplaw04_LineKinds (c : Cmd) (k : UInt8) : FnSpec Tryz.prog glob 9 [V c, V k] (V true) := by
  refine FnSpec.enter Tryz.func9 rfl rfl rfl fun m0 w0 => ?_
  refine SC.seq ?_
  refine SC.region ?_
  refine SL.op (OpT.plain rfl (OpOk.boxRef (Typ.tmp rfl))) rfl rfl ?_
  refine SL.op (OpT.plain rfl (OpOk.assign Typ.cbool)) rfl rfl ?_
  refine SL.nil ?_
  refine SK.code ?_
  refine SC.seq ?_
  refine SC.seq ?_
  refine SC.region ?_
  refine SL.op (OpT.plain rfl (OpOk.call Tryz.call21 Typ.fn Typs.nil (s_innkeeplaw04_awake))) rfl rfl ?_
  refine SL.op (OpT.plain rfl (OpOk.not (Typ.tmp rfl))) rfl rfl ?_
  refine SL.op (OpT.plain rfl (OpOk.move (Typ.tmp rfl))) rfl rfl ?_
  refine SL.op (OpT.guard rfl rfl rfl (fun _ _ h => V_bool h) (fun hg => OpOk.loadRef ty_29 (Typ.tmp rfl))) rfl rfl ?_
  refine SL.op (OpT.guard rfl rfl rfl (fun _ _ h => V_bool h) (fun hg => OpOk.call Tryz.call22 Typ.fn (Typs.cons (Typ.cond hg rfl) Typs.nil) (s_innkeepref03_Few _))) rfl rfl ?_
  refine SL.op (OpT.guard rfl rfl rfl (fun _ _ h => V_bool h) (fun hg => OpOk.not (Typ.cond hg rfl))) rfl rfl ?_
  refine SL.op (OpT.plain rfl (OpOk.pickOr (Typ.tmp rfl) (fun hb => Typ.cond hb rfl))) rfl rfl ?_
  refine SL.op (OpT.plain rfl (OpOk.move (Typ.tmp rfl))) rfl rfl ?_
  refine SL.op (OpT.guard rfl rfl rfl (fun _ _ h => V_bool h) (fun hg => OpOk.loadRef ty_29 (Typ.tmp rfl))) rfl rfl ?_
  refine SL.op (OpT.guard rfl rfl rfl (fun _ _ h => V_bool h) (fun hg => OpOk.call Tryz.call26 Typ.fn (Typs.cons (Typ.cond hg rfl) Typs.nil) (s_innkeepref03_May _))) rfl rfl ?_
  refine SL.op (OpT.guard rfl rfl rfl (fun _ _ h => V_bool h) (fun hg => OpOk.not (Typ.cond hg rfl))) rfl rfl ?_
  refine SL.op (OpT.plain rfl (OpOk.pickOr (Typ.tmp rfl) (fun hb => Typ.cond hb rfl))) rfl rfl ?_
  refine SL.nil ?_
  refine SK.code ?_
  refine SC.cond rfl (fun _ _ h => V_bool h) (fun h1 => ?_) (fun h1 => ?_)
  · skip
    try simp only [decide_eq_true_eq, decide_eq_false_iff_not, Bool.and_eq_true, Bool.or_eq_true, Bool.not_eq_true', Bool.not_eq_false', Bool.and_eq_false_iff, Bool.or_eq_false_iff, Bool.not_not, Bool.not_true, Bool.not_false, ne_eq, Classical.not_not, Decidable.not_not] at h1
    refine SC.seq ?_
    refine SC.region ?_
    refine SL.op (OpT.plain rfl (OpOk.call Tryz.call21 Typ.fn Typs.nil (s_innkeeplaw04_awake))) rfl rfl ?_
    refine SL.op (OpT.plain rfl (OpOk.assign (Typ.tmp rfl))) rfl rfl ?_
    refine SL.nil ?_
    refine SK.code ?_
    refine SC.ret ?_
    exact SR.one rfl (ResT.eq rfl (by first | (exact kinds_close hm hkk rfl) | rfl | (simp_all []; done) | (simp_all []; rfl) | (simp_all []; omega)))
  · skip
    try simp only [decide_eq_true_eq, decide_eq_false_iff_not, Bool.and_eq_true, Bool.or_eq_true, Bool.not_eq_true', Bool.not_eq_false', Bool.and_eq_false_iff, Bool.or_eq_false_iff, Bool.not_not, Bool.not_true, Bool.not_false, ne_eq, Classical.not_not, Decidable.not_not] at h1
    have hm : mayR c = true := by simp_all
    have hkm := mod10 k
    have hkk : 1 ≤ 1 + ((k % 10).toNat : Int) ∧ 1 + ((k % 10).toNat : Int) ≤ 10 := by omega
    refine SC.skip ?_
    refine SK.code ?_
    refine SC.seq ?_
    refine SC.region ?_
    refine SL.op (OpT.plain rfl (OpOk.loadRef ty_29 (Typ.tmp rfl))) rfl rfl ?_
    refine SL.op (OpT.plain rfl (OpOk.call Tryz.call23 Typ.fn (Typs.cons (Typ.tmp rfl) Typs.nil) (FnSpec.eqv2 (putR_ok hm) (s_line_Put _)))) rfl rfl ?_
    refine SL.op (OpT.plain rfl (OpOk.move (Typ.tmp rfl))) rfl rfl ?_
    refine SL.op (OpT.plain rfl (OpOk.extract (Typ.tmp rfl) rfl)) rfl rfl ?_
    refine SL.op (OpT.plain rfl (OpOk.extract (Typ.tmp rfl) rfl)) rfl rfl ?_
    refine SL.op (OpT.plain rfl (OpOk.assign (Typ.tmp rfl))) rfl rfl ?_
    refine SL.op (OpT.plain rfl (OpOk.assign (Typ.tmp rfl))) rfl rfl ?_
    refine SL.nil ?_
    refine SK.code ?_
    refine SC.seq ?_
    refine SC.region ?_
    refine SL.op (OpT.plain rfl (OpOk.move (Typ.tmp rfl))) rfl rfl ?_
    refine SL.callRow (Enters.fn Tryz.call28 Typ.fn (Typs.cons (Typ.tmp rfl) Typs.nil)) (FnSpecW.eqv (words_join (wordsR_plain hm)) (s_CutRow _ (Nat.le_trans (join_words_le hm) (by omega)))) rfl fun v2 => ?_
    refine SL.op (OpT.plain rfl (OpOk.assign (Typ.tmp rfl))) rfl rfl ?_
    refine SL.nil ?_
    refine SK.code ?_
    refine SC.seq ?_
    refine SC.region ?_
    refine SL.op (OpT.plain rfl (OpOk.move (Typ.tmp rfl))) rfl rfl ?_
    refine SL.op (OpT.plain rfl (OpOk.remU8 (Typ.tmp rfl) (Typ.cu8n 10) (by decide))) rfl rfl ?_
    refine SL.op (OpT.plain rfl (OpOk.convU8 ⟨_, Tryz.underlying5⟩ Tryz.underlying3 (Typ.tmp rfl))) rfl rfl ?_
    refine SL.op (OpT.plain rfl (OpOk.add Typ.cint (Typ.tmp rfl) (by unfold in64; first | omega | (simp at *; omega)))) rfl rfl ?_
    refine SL.op (OpT.plain rfl (OpOk.assign (Typ.tmp rfl))) rfl rfl ?_
    refine SL.nil ?_
    refine SK.code ?_
    refine SC.seq ?_
    refine SC.seq ?_
    refine SC.rowShape (i := 0) rfl (by simp [wordsR]) fun g cap hv => ?_
    subst hv
    refine DR.start ?_
    refine DR.op (fun _ => (OpT.plain rfl (OpOk.move (Typ.tmp rfl)))) rfl rfl ?_
    refine DR.opR (OpT.plain rfl (OpOk.lenOwnR Tryz.underlying22 (k := 0) rfl (Typ.tmp rfl))) rfl rfl ?_
    refine DR.op (fun _ => (OpT.plain rfl (OpOk.eql (Typ.tmp rfl) Typ.cint))) rfl rfl ?_
    refine DR.op (fun _ => (OpT.plain rfl (OpOk.move (Typ.tmp rfl)))) rfl rfl ?_
    refine DR.op (fun _ => (OpT.guard rfl rfl rfl (fun _ _ h => V_bool h) (fun hg => OpOk.move (Typ.tmp rfl)))) rfl rfl ?_
    refine DR.opR (OpT.guard rfl rfl rfl (fun _ _ h => V_bool h) (fun hg => OpOk.indexAddrOwnR Str Tryz.underlying22 ty_9 (Typ.cond hg rfl) Typ.cint (by omega) (by have := kinds_len c; omega))) rfl rfl ?_
    refine DR.opR (OpT.guard rfl rfl rfl (fun _ _ h => V_bool h) (fun hg => OpOk.loadOwnR ty_9 0 (k := 0) rfl (kinds_len c) rfl (Typ.cond hg rfl))) rfl rfl ?_
    refine DR.op (fun _ => (OpT.guard rfl rfl rfl (fun _ _ h => V_bool h) (fun hg => OpOk.fieldAddrRef fld_29_0 (Typ.tmp rfl)))) rfl rfl ?_
    refine DR.op (fun _ => (OpT.guard rfl rfl rfl (fun _ _ h => V_bool h) (fun hg => OpOk.loadRef ty_3 (Typ.cond hg rfl)))) rfl rfl ?_
    refine DR.op (fun _ => (OpT.guard rfl rfl rfl (fun _ _ h => V_bool h) (fun hg => OpOk.call Tryz.call30 Typ.fn (Typs.cons (Typ.cond hg rfl) Typs.nil) (s_innkeepref03_Name _)))) rfl rfl ?_
    refine DR.op (fun _ => (OpT.guard rfl rfl rfl (fun _ _ h => V_bool h) (fun hg => OpOk.neqS (Typ.cond hg rfl) (Typ.cond hg rfl)))) rfl rfl ?_
    refine DR.op (fun _ => (OpT.plain rfl (OpOk.pickOr (Typ.tmp rfl) (fun hb => Typ.cond hb rfl)))) rfl rfl ?_
    refine DR.tail rfl (by decide +kernel) (show dstBelow _ 75 = true by decide +kernel) rfl ?_
    refine SL.nil ?_
    refine SK.code ?_
    refine SC.cond rfl (fun _ _ h => V_bool h) (fun h3 => ?_) (fun h3 => ?_)
    · skip
      try simp only [decide_eq_true_eq, decide_eq_false_iff_not, Bool.and_eq_true, Bool.or_eq_true, Bool.not_eq_true', Bool.not_eq_false', Bool.and_eq_false_iff, Bool.or_eq_false_iff, Bool.not_not, Bool.not_true, Bool.not_false, ne_eq, Classical.not_not, Decidable.not_not] at h3
      (exfalso; have := kinds_len c; rw [kinds_first] at *; simp_all; done)
    · skip
      try simp only [decide_eq_true_eq, decide_eq_false_iff_not, Bool.and_eq_true, Bool.or_eq_true, Bool.not_eq_true', Bool.not_eq_false', Bool.and_eq_false_iff, Bool.or_eq_false_iff, Bool.not_not, Bool.not_true, Bool.not_false, ne_eq, Classical.not_not, Decidable.not_not] at h3
      refine SC.skip ?_
      refine SK.code ?_
      refine SC.seq ?_
      refine SC.region ?_
      refine SL.op (OpT.plain rfl (OpOk.move (Typ.tmp rfl))) rfl rfl ?_
      refine SL.op (OpT.plain rfl (OpOk.move (Typ.tmp rfl))) rfl rfl ?_
      refine SL.op (OpT.plain rfl (OpOk.call Tryz.call30 Typ.fn (Typs.cons (Typ.tmp rfl) Typs.nil) (s_innkeepref03_Name _))) rfl rfl ?_
      refine SL.op (OpT.plain rfl (OpOk.indexAddrOwnR Str Tryz.underlying22 ty_9 (Typ.tmp rfl) Typ.cint (by omega) (by have := kinds_len c; omega))) rfl rfl ?_
      refine SL.opW (OpW.storeRow ty_9 (i := 0) (j := 0) rfl (kinds_len c) rfl (Typ.tmp rfl) (Typ.tmp rfl)) ?_
      refine SL.nil ?_
      refine SK.code ?_
      refine SC.seq ?_
      refine SC.region ?_
      refine SL.op (OpT.plain rfl (OpOk.move (Typ.tmp rfl))) rfl rfl ?_
      refine SL.publishRow (t := 52) (i := 0) rfl rfl ?_
      refine SL.op (OpT.plain rfl (OpOk.call Tryz.call29 Typ.fn (Typs.cons (Typ.tmp rfl) Typs.nil) (s_innkeepref02_Join _ (Nat.le_trans (kinds_le hm hkk) (by omega))))) rfl rfl ?_
      refine SL.op (OpT.plain rfl (OpOk.call Tryz.call25 Typ.fn (Typs.cons (Typ.tmp rfl) Typs.nil) (s_line_Get _ (Nat.le_trans (kinds_le hm hkk) (by omega))))) rfl rfl ?_
      refine SL.op (OpT.plain rfl (OpOk.move (Typ.tmp rfl))) rfl rfl ?_
      refine SL.op (OpT.plain rfl (OpOk.extract (Typ.tmp rfl) rfl)) rfl rfl ?_
      refine SL.op (OpT.plain rfl (OpOk.extract (Typ.tmp rfl) rfl)) rfl rfl ?_
      refine SL.allocOwn tyz_29 rfl fun b4 => ?_
      refine SL.opW (OpW.storeOwn ty_29 (Lens.id _) (i := 1) rfl rfl (Typ.tmp rfl) (Typ.tmp rfl)) ?_
      refine SL.op (OpT.plain rfl (OpOk.assign (Typ.tmp rfl))) rfl rfl ?_
      refine SL.nil ?_
      refine SK.code ?_
      refine SC.seq ?_
      refine DR.start ?_
      refine DR.op (fun _ => (OpT.plain rfl (OpOk.move (Typ.tmp rfl)))) rfl rfl ?_
      refine DR.op (fun _ => (OpT.plain rfl (OpOk.neq (Typ.tmp rfl) Typ.cint))) rfl rfl ?_
      refine DR.op (fun _ => (OpT.plain rfl (OpOk.move (Typ.tmp rfl)))) rfl rfl ?_
      refine DR.op (fun _ => (OpT.guard rfl rfl rfl (fun _ _ h => V_bool h) (fun hg => OpOk.fieldAddrOwn fld_29_0 (Typ.tmp rfl)))) rfl rfl ?_
      refine DR.opR (OpT.guard rfl rfl rfl (fun _ _ h => V_bool h) (fun hg => OpOk.loadOwn ty_3 Cmd.l_kind (k := 1) rfl rfl (Typ.cond hg rfl))) rfl rfl ?_
      refine DR.op (fun _ => (OpT.guard rfl rfl rfl (fun _ _ h => V_bool h) (fun hg => OpOk.move (Typ.tmp rfl)))) rfl rfl ?_
      refine DR.op (fun _ => (OpT.guard rfl rfl rfl (fun _ _ h => V_bool h) (fun hg => OpOk.eql (Typ.cond hg rfl) (Typ.cond hg rfl)))) rfl rfl ?_
      refine DR.op (fun _ => (OpT.guard rfl rfl rfl (fun _ _ h => V_bool h) (fun hg => OpOk.move (Typ.cond hg rfl)))) rfl rfl ?_
      refine DR.op (fun _ => (OpT.guard2 rfl rfl rfl (fun _ _ h => V_bool h) (fun hc hg => OpOk.move (Typ.tmp rfl)))) rfl rfl ?_
      refine DR.op (fun _ => (OpT.guard2 rfl rfl rfl (fun _ _ h => V_bool h) (fun hc hg => OpOk.fieldAddrRef fld_29_0 (Typ.tmp rfl)))) rfl rfl ?_
      refine DR.op (fun _ => (OpT.guard2 rfl rfl rfl (fun _ _ h => V_bool h) (fun hc hg => OpOk.loadRef ty_3 (Typ.cond ⟨hc, hg⟩ rfl)))) rfl rfl ?_
      refine DR.op (fun _ => (OpT.guard2 rfl rfl rfl (fun _ _ h => V_bool h) (fun hc hg => OpOk.eql (Typ.cond ⟨hc, hg⟩ rfl) (Typ.cond ⟨hc, hg⟩ rfl)))) rfl rfl ?_
      refine DR.op (fun _ => (OpT.guard2 rfl rfl rfl (fun _ _ h => V_bool h) (fun hc hg => OpOk.loadRef ty_29 (Typ.tmp rfl)))) rfl rfl ?_
      refine DR.opR (OpT.guard2 rfl rfl rfl (fun _ _ h => V_bool h) (fun hc hg => OpOk.loadOwn ty_29 (Lens.id _) (k := 1) rfl rfl (Typ.tmp rfl))) rfl rfl ?_
      refine DR.op (fun _ => (OpT.guard2 rfl rfl rfl (fun _ _ h => V_bool h) (fun hc hg => OpOk.call Tryz.call15 Typ.fn (Typs.cons (Typ.cond ⟨hc, hg⟩ rfl) (Typs.cons (Typ.cond ⟨hc, hg⟩ rfl) Typs.nil)) (s_innkeepref03_Same _ _)))) rfl rfl ?_
      refine DR.op (fun _ => (OpT.guard2 rfl rfl rfl (fun _ _ h => V_bool h) (fun hc hg => OpOk.eqb Tryz.underlying4 (Typ.cond ⟨hc, hg⟩ rfl) (Typ.cond ⟨hc, hg⟩ rfl)))) rfl rfl ?_
      refine DR.op (fun _ => (OpT.guard rfl rfl rfl (fun _ _ h => V_bool h) (fun hg => OpOk.pickAnd (Typ.cond hg rfl) (fun hb => Typ.cond ⟨hg, hb⟩ rfl)))) rfl rfl ?_
      refine DR.op (fun _ => (OpT.plain rfl (OpOk.pickOr (Typ.tmp rfl) (fun hb => Typ.cond hb rfl)))) rfl rfl ?_
      refine DR.tail rfl (by decide +kernel) (show dstBelow _ 75 = true by decide +kernel) rfl ?_
      refine SL.op (OpT.plain rfl (OpOk.assign (Typ.tmp rfl))) rfl rfl ?_
      refine SL.nil ?_
      refine SK.code ?_
      refine SC.ret ?_
      exact SR.one rfl (ResT.eq rfl (by first | (exact kinds_close hm hkk rfl) | rfl | (simp_all []; done) | (simp_all []; rfl) | (simp_all []; omega)))
end Go.Proofs.YtgnblhmejecgfaaGreatDoor
