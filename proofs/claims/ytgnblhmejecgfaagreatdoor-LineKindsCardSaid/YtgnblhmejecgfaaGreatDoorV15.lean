/- Layer 4: line.Put answers as the document does. -/
import Derived.Test.YtgnblhmejecgfaaGreatDoorV14
set_option linter.all false

namespace Go.Proofs.YtgnblhmejecgfaaGreatDoor
open Go Go.RowKit Go.Inn
set_option linter.unusedSimpArgs false
set_option linter.unusedVariables false
set_option maxRecDepth 100000
theorem map_wordT {l : List Int} (h : ∀ x, x ∈ l → fit x) : l.map wordT = l.map wordR := List.map_congr_left fun n hn => wordT_eq (h n hn).1
theorem put_trade {c : Cmd} (hm : mayR c = true) (hk : c.kind = 8) : [[nameK c.kind], [[wordT c.who, [103, 105, 118, 101]], c.gives.map wordT, [[99, 111, 105, 110, 115], wordT c.pay, [102, 111, 114]], c.wants.map wordT, [[99, 111, 105, 110, 115], wordT c.fee]].flatten].flatten = wordsR c := by
  rcases may_shape hm with ⟨d, hd, rfl⟩ | ⟨w, d, hw, hd, rfl⟩ | ⟨k, i, hk2, hi, rfl⟩ | ⟨k, i, b, hk2, hi, hb, rfl⟩ | ⟨i, w, hi, hw, rfl⟩ | ⟨w, g, p, q, f, hw, hg, hp, hq, hf, rfl⟩ | ⟨k, hk2, rfl⟩
  · dsimp only at hk; omega
  · dsimp only at hk; omega
  · dsimp only at hk; omega
  · dsimp only at hk; omega
  · dsimp only at hk; omega
  · simp [wordsR, map_wordT hg.1, map_wordT hq.1, wordT_eq hw.1, wordT_eq hp.1, wordT_eq hf.1]
  · dsimp only at hk; omega
def putK (c : Cmd) : List (Int × List Str) := [(1, [wayD c.dir]), (2, [wordT c.who, wayD c.dir]), (3, [wordT c.item]), (4, [wordT c.item]), (5, [wordT c.item, [105, 110], wordT c.box]), (6, [wordT c.item, [102, 114, 111, 109], wordT c.box]), (7, [wordT c.item, [116, 111], wordT c.who])]
theorem put_other {c : Cmd} (hm : mayR c = true) (hk : ¬ c.kind = 8) {kvs : List (Int × List Str)} (h : ∀ key, mget kvs key = mget (putK c) key) : [[nameK c.kind], (mget kvs c.kind).getD []].flatten = wordsR c := by
  rw [h]
  rcases may_shape hm with ⟨d, hd, rfl⟩ | ⟨w, d, hw, hd, rfl⟩ | ⟨k, i, hk2, hi, rfl⟩ | ⟨k, i, b, hk2, hi, hb, rfl⟩ | ⟨i, w, hi, hw, rfl⟩ | ⟨w, g, p, q, f, hw, hg, hp, hq, hf, rfl⟩ | ⟨k, hk2, rfl⟩
  · simp [wordsR, putK, mget]
  · simp [wordsR, putK, mget, wordT_eq hw.1]
  · rcases hk2 with rfl | rfl <;> simp [wordsR, putK, mget, wordT_eq hi.1]
  · rcases hk2 with rfl | rfl <;> simp [wordsR, putK, mget, wordT_eq hi.1, wordT_eq hb.1]
  · simp [wordsR, putK, mget, wordT_eq hi.1, wordT_eq hw.1]
  · exact absurd rfl hk
  · rcases hk2 with rfl | rfl <;> simp [wordsR, putK, mget]

/-! innkeep/line.Put -/
theorem s_line_Put (c : Cmd) : FnSpec Tryz.prog glob 23 [V c] (.tup [V (putR c).1, V (putR c).2]) := by
  refine FnSpec.enter Tryz.func23 rfl rfl rfl fun m0 w0 => ?_
  refine SC.seq ?_
  refine SC.region ?_
  refine SL.op (OpT.plain rfl (OpOk.boxRef (Typ.tmp rfl))) rfl rfl ?_
  refine SL.op (OpT.plain rfl (OpOk.assign (Typ.cstr (l := [])))) rfl rfl ?_
  refine SL.op (OpT.plain rfl (OpOk.assign Typ.cint)) rfl rfl ?_
  refine SL.nil ?_
  refine SK.code ?_
  refine SC.seq ?_
  refine SC.seq ?_
  refine SC.region ?_
  refine SL.op (OpT.plain rfl (OpOk.loadRef ty_29 (Typ.tmp rfl))) rfl rfl ?_
  refine SL.op (OpT.plain rfl (OpOk.call Tryz.call48 Typ.fn (Typs.cons (Typ.tmp rfl) Typs.nil) (s_cmd_May _))) rfl rfl ?_
  refine SL.op (OpT.plain rfl (OpOk.not (Typ.tmp rfl))) rfl rfl ?_
  refine SL.nil ?_
  refine SK.code ?_
  refine SC.cond rfl (fun _ _ h => V_bool h) (fun h1 => ?_) (fun h1 => ?_)
  · skip
    try simp only [decide_eq_true_eq, decide_eq_false_iff_not, Bool.and_eq_true, Bool.or_eq_true, Bool.not_eq_true', Bool.not_eq_false', Bool.and_eq_false_iff, Bool.or_eq_false_iff, Bool.not_not, Bool.not_true, Bool.not_false, ne_eq, Classical.not_not, Decidable.not_not] at h1
    have hm : mayR c = false := by rw [← may_eq]; simp_all
    refine SC.seq ?_
    refine SC.region ?_
    refine SL.op (OpT.plain rfl (OpOk.assign (Typ.cstr (l := [])))) rfl rfl ?_
    refine SL.op (OpT.plain rfl (OpOk.assign Typ.cint)) rfl rfl ?_
    refine SL.nil ?_
    refine SK.code ?_
    refine SC.ret ?_
    exact SR.two rfl (ResT.eq rfl (by first | (rw [putR_no hm]) | (rw [putR_ok hm, hx]) | (rw [putR_ok hm]) | rfl | (simp_all []; done) | (simp_all []; rfl) | (simp_all []; omega))) (ResT.eq rfl (by first | (rw [putR_no hm]) | (rw [putR_ok hm, hx]) | (rw [putR_ok hm]) | rfl | (simp_all []; done) | (simp_all []; rfl) | (simp_all []; omega)))
  · skip
    try simp only [decide_eq_true_eq, decide_eq_false_iff_not, Bool.and_eq_true, Bool.or_eq_true, Bool.not_eq_true', Bool.not_eq_false', Bool.and_eq_false_iff, Bool.or_eq_false_iff, Bool.not_not, Bool.not_true, Bool.not_false, ne_eq, Classical.not_not, Decidable.not_not] at h1
    have hm : mayR c = true := by rw [← may_eq]; simp_all
    have hl := mayR_len hm
    have hl1 := hl.1
    have hl2 := hl.2
    refine SC.skip ?_
    refine SK.code ?_
    refine SC.seq ?_
    refine SC.region ?_
    refine SL.op (OpT.plain rfl (OpOk.assign Typ.fn)) rfl rfl ?_
    refine SL.nil ?_
    refine SK.code ?_
    refine SC.seq ?_
    refine DM.start (List Str) 0 57 9 59 86 ?_
    refine DM.mk rfl ?_
    refine DM.op (fun _ => (OpT.plain rfl (OpOk.fieldAddrRef fld_29_1 (Typ.tmp rfl)))) rfl rfl (by decide) ?_
    refine DM.op (fun _ => (OpT.plain rfl (OpOk.loadRef ty_3 (Typ.tmp rfl)))) rfl rfl (by decide) ?_
    refine DM.op (fun _ => (OpT.plain rfl (OpOk.call Tryz.call50 Typ.fn (Typs.cons (Typ.tmp rfl) Typs.nil) (s_cmd_Way _)))) rfl rfl (by decide) ?_
    refine DM.op (fun _ => (OpT.plain rfl (OpOk.buildSlice lit_22_1 (parts := [(0, Operand.tmp 12)]) rfl (TypL.cons (Typ.tmp rfl) TypL.nil)))) rfl rfl (by decide) ?_
    refine DM.ins rfl (by decide) ⟨_, rfl, by decide⟩ (by unfold in64; omega) (by simp) (by simp) (Typ.tmp rfl) ?_
    refine DM.op (fun _ => (OpT.plain rfl (OpOk.move (Typ.tmp rfl)))) rfl rfl (by decide) ?_
    refine DM.op (fun _ => (OpT.plain rfl (OpOk.fieldAddrRef fld_29_4 (Typ.tmp rfl)))) rfl rfl (by decide) ?_
    refine DM.op (fun _ => (OpT.plain rfl (OpOk.loadRef ty_3 (Typ.tmp rfl)))) rfl rfl (by decide) ?_
    refine DM.op (fun _ => (OpT.plain rfl (OpOk.call Tryz.call49 (Typ.tmp rfl) (Typs.cons (Typ.tmp rfl) Typs.nil) (s_token_Word _)))) rfl rfl (by decide) ?_
    refine DM.op (fun _ => (OpT.plain rfl (OpOk.fieldAddrRef fld_29_1 (Typ.tmp rfl)))) rfl rfl (by decide) ?_
    refine DM.op (fun _ => (OpT.plain rfl (OpOk.loadRef ty_3 (Typ.tmp rfl)))) rfl rfl (by decide) ?_
    refine DM.op (fun _ => (OpT.plain rfl (OpOk.call Tryz.call50 Typ.fn (Typs.cons (Typ.tmp rfl) Typs.nil) (s_cmd_Way _)))) rfl rfl (by decide) ?_
    refine DM.op (fun _ => (OpT.plain rfl (OpOk.buildSlice lit_22_2 (parts := [(0, Operand.tmp 17), (1, Operand.tmp 20)]) rfl (TypL.cons (Typ.tmp rfl) (TypL.cons (Typ.tmp rfl) TypL.nil))))) rfl rfl (by decide) ?_
    refine DM.ins rfl (by decide) ⟨_, rfl, by decide⟩ (by unfold in64; omega) (by simp) (by simp) (Typ.tmp rfl) ?_
    refine DM.op (fun _ => (OpT.plain rfl (OpOk.move (Typ.tmp rfl)))) rfl rfl (by decide) ?_
    refine DM.op (fun _ => (OpT.plain rfl (OpOk.fieldAddrRef fld_29_2 (Typ.tmp rfl)))) rfl rfl (by decide) ?_
    refine DM.op (fun _ => (OpT.plain rfl (OpOk.loadRef ty_3 (Typ.tmp rfl)))) rfl rfl (by decide) ?_
    refine DM.op (fun _ => (OpT.plain rfl (OpOk.call Tryz.call49 (Typ.tmp rfl) (Typs.cons (Typ.tmp rfl) Typs.nil) (s_token_Word _)))) rfl rfl (by decide) ?_
    refine DM.op (fun _ => (OpT.plain rfl (OpOk.buildSlice lit_22_1 (parts := [(0, Operand.tmp 25)]) rfl (TypL.cons (Typ.tmp rfl) TypL.nil)))) rfl rfl (by decide) ?_
    refine DM.ins rfl (by decide) ⟨_, rfl, by decide⟩ (by unfold in64; omega) (by simp) (by simp) (Typ.tmp rfl) ?_
    refine DM.op (fun _ => (OpT.plain rfl (OpOk.move (Typ.tmp rfl)))) rfl rfl (by decide) ?_
    refine DM.op (fun _ => (OpT.plain rfl (OpOk.fieldAddrRef fld_29_2 (Typ.tmp rfl)))) rfl rfl (by decide) ?_
    refine DM.op (fun _ => (OpT.plain rfl (OpOk.loadRef ty_3 (Typ.tmp rfl)))) rfl rfl (by decide) ?_
    refine DM.op (fun _ => (OpT.plain rfl (OpOk.call Tryz.call49 (Typ.tmp rfl) (Typs.cons (Typ.tmp rfl) Typs.nil) (s_token_Word _)))) rfl rfl (by decide) ?_
    refine DM.op (fun _ => (OpT.plain rfl (OpOk.buildSlice lit_22_1 (parts := [(0, Operand.tmp 30)]) rfl (TypL.cons (Typ.tmp rfl) TypL.nil)))) rfl rfl (by decide) ?_
    refine DM.ins rfl (by decide) ⟨_, rfl, by decide⟩ (by unfold in64; omega) (by simp) (by simp) (Typ.tmp rfl) ?_
    refine DM.op (fun _ => (OpT.plain rfl (OpOk.move (Typ.tmp rfl)))) rfl rfl (by decide) ?_
    refine DM.op (fun _ => (OpT.plain rfl (OpOk.fieldAddrRef fld_29_2 (Typ.tmp rfl)))) rfl rfl (by decide) ?_
    refine DM.op (fun _ => (OpT.plain rfl (OpOk.loadRef ty_3 (Typ.tmp rfl)))) rfl rfl (by decide) ?_
    refine DM.op (fun _ => (OpT.plain rfl (OpOk.call Tryz.call49 (Typ.tmp rfl) (Typs.cons (Typ.tmp rfl) Typs.nil) (s_token_Word _)))) rfl rfl (by decide) ?_
    refine DM.op (fun _ => (OpT.plain rfl (OpOk.move (Typ.tmp rfl)))) rfl rfl (by decide) ?_
    refine DM.op (fun _ => (OpT.plain rfl (OpOk.fieldAddrRef fld_29_3 (Typ.tmp rfl)))) rfl rfl (by decide) ?_
    refine DM.op (fun _ => (OpT.plain rfl (OpOk.loadRef ty_3 (Typ.tmp rfl)))) rfl rfl (by decide) ?_
    refine DM.op (fun _ => (OpT.plain rfl (OpOk.call Tryz.call49 (Typ.tmp rfl) (Typs.cons (Typ.tmp rfl) Typs.nil) (s_token_Word _)))) rfl rfl (by decide) ?_
    refine DM.op (fun _ => (OpT.plain rfl (OpOk.buildSlice lit_22_3 (parts := [(0, Operand.tmp 35), (1, Operand.const (Value.string ⟨[105, 110].toArray⟩)), (2, Operand.tmp 39)]) rfl (TypL.cons (Typ.tmp rfl) (TypL.cons (Typ.cstr (l := [105, 110])) (TypL.cons (Typ.tmp rfl) TypL.nil)))))) rfl rfl (by decide) ?_
    refine DM.ins rfl (by decide) ⟨_, rfl, by decide⟩ (by unfold in64; omega) (by simp) (by simp) (Typ.tmp rfl) ?_
    refine DM.op (fun _ => (OpT.plain rfl (OpOk.move (Typ.tmp rfl)))) rfl rfl (by decide) ?_
    refine DM.op (fun _ => (OpT.plain rfl (OpOk.fieldAddrRef fld_29_2 (Typ.tmp rfl)))) rfl rfl (by decide) ?_
    refine DM.op (fun _ => (OpT.plain rfl (OpOk.loadRef ty_3 (Typ.tmp rfl)))) rfl rfl (by decide) ?_
    refine DM.op (fun _ => (OpT.plain rfl (OpOk.call Tryz.call49 (Typ.tmp rfl) (Typs.cons (Typ.tmp rfl) Typs.nil) (s_token_Word _)))) rfl rfl (by decide) ?_
    refine DM.op (fun _ => (OpT.plain rfl (OpOk.move (Typ.tmp rfl)))) rfl rfl (by decide) ?_
    refine DM.op (fun _ => (OpT.plain rfl (OpOk.fieldAddrRef fld_29_3 (Typ.tmp rfl)))) rfl rfl (by decide) ?_
    refine DM.op (fun _ => (OpT.plain rfl (OpOk.loadRef ty_3 (Typ.tmp rfl)))) rfl rfl (by decide) ?_
    refine DM.op (fun _ => (OpT.plain rfl (OpOk.call Tryz.call49 (Typ.tmp rfl) (Typs.cons (Typ.tmp rfl) Typs.nil) (s_token_Word _)))) rfl rfl (by decide) ?_
    refine DM.op (fun _ => (OpT.plain rfl (OpOk.buildSlice lit_22_3 (parts := [(0, Operand.tmp 44), (1, Operand.const (Value.string ⟨[102, 114, 111, 109].toArray⟩)), (2, Operand.tmp 48)]) rfl (TypL.cons (Typ.tmp rfl) (TypL.cons (Typ.cstr (l := [102, 114, 111, 109])) (TypL.cons (Typ.tmp rfl) TypL.nil)))))) rfl rfl (by decide) ?_
    refine DM.ins rfl (by decide) ⟨_, rfl, by decide⟩ (by unfold in64; omega) (by simp) (by simp) (Typ.tmp rfl) ?_
    refine DM.op (fun _ => (OpT.plain rfl (OpOk.move (Typ.tmp rfl)))) rfl rfl (by decide) ?_
    refine DM.op (fun _ => (OpT.plain rfl (OpOk.fieldAddrRef fld_29_2 (Typ.tmp rfl)))) rfl rfl (by decide) ?_
    refine DM.op (fun _ => (OpT.plain rfl (OpOk.loadRef ty_3 (Typ.tmp rfl)))) rfl rfl (by decide) ?_
    refine DM.op (fun _ => (OpT.plain rfl (OpOk.call Tryz.call49 (Typ.tmp rfl) (Typs.cons (Typ.tmp rfl) Typs.nil) (s_token_Word _)))) rfl rfl (by decide) ?_
    refine DM.op (fun _ => (OpT.plain rfl (OpOk.move (Typ.tmp rfl)))) rfl rfl (by decide) ?_
    refine DM.op (fun _ => (OpT.plain rfl (OpOk.fieldAddrRef fld_29_4 (Typ.tmp rfl)))) rfl rfl (by decide) ?_
    refine DM.op (fun _ => (OpT.plain rfl (OpOk.loadRef ty_3 (Typ.tmp rfl)))) rfl rfl (by decide) ?_
    refine DM.op (fun _ => (OpT.plain rfl (OpOk.call Tryz.call49 (Typ.tmp rfl) (Typs.cons (Typ.tmp rfl) Typs.nil) (s_token_Word _)))) rfl rfl (by decide) ?_
    refine DM.op (fun _ => (OpT.plain rfl (OpOk.buildSlice lit_22_3 (parts := [(0, Operand.tmp 53), (1, Operand.const (Value.string ⟨[116, 111].toArray⟩)), (2, Operand.tmp 57)]) rfl (TypL.cons (Typ.tmp rfl) (TypL.cons (Typ.cstr (l := [116, 111])) (TypL.cons (Typ.tmp rfl) TypL.nil)))))) rfl rfl (by decide) ?_
    refine DM.ins rfl (by decide) ⟨_, rfl, by decide⟩ (by unfold in64; omega) (by simp) (by simp) (Typ.tmp rfl) ?_
    refine DM.mv rfl ⟨_, rfl, by decide⟩ ?_
    refine DM.op (fun _ => (OpT.plain rfl (OpOk.fieldAddrRef fld_29_0 (Typ.tmp rfl)))) rfl rfl (by decide) ?_
    refine DM.op (fun _ => (OpT.plain rfl (OpOk.loadRef ty_3 (Typ.tmp rfl)))) rfl rfl (by decide) ?_
    refine DM.tail rfl (by decide +kernel) (show dstBelow _ 97 = true by decide +kernel) (show _ ∧ _ < 97 ∧ _ < 97 by decide) (by decide) Tryz.underlying86 Tryz.underlying3 rfl fun b kvs hkv => ?_
    refine SL.publishMap (t := 59) (i := 0) rfl rfl ?_
    refine SL.op (OpT.plain rfl (OpOk.lookupMap Tryz.underlying86 Tryz.underlying3 tyz_22 (Typ.tmp rfl) (Typ.tmp rfl))) rfl rfl ?_
    refine SL.op (OpT.plain rfl (OpOk.assign (Typ.tmp rfl))) rfl rfl ?_
    refine SL.nil ?_
    refine SK.code ?_
    refine SC.seq ?_
    refine SC.seq ?_
    refine SC.region ?_
    refine SL.op (OpT.plain rfl (OpOk.fieldAddrRef fld_29_0 (Typ.tmp rfl))) rfl rfl ?_
    refine SL.op (OpT.plain rfl (OpOk.loadRef ty_3 (Typ.tmp rfl))) rfl rfl ?_
    refine SL.op (OpT.plain rfl (OpOk.eql (Typ.tmp rfl) Typ.cint)) rfl rfl ?_
    refine SL.nil ?_
    refine SK.code ?_
    refine SC.cond rfl (fun _ _ h => V_bool h) (fun h2 => ?_) (fun h2 => ?_)
    · skip
      try simp only [decide_eq_true_eq, decide_eq_false_iff_not, Bool.and_eq_true, Bool.or_eq_true, Bool.not_eq_true', Bool.not_eq_false', Bool.and_eq_false_iff, Bool.or_eq_false_iff, Bool.not_not, Bool.not_true, Bool.not_false, ne_eq, Classical.not_not, Decidable.not_not] at h2
      have hx := put_trade hm (by assumption)
      refine DR.start ?_
      refine DR.op (fun _ => (OpT.plain rfl (OpOk.move (Typ.tmp rfl)))) rfl rfl ?_
      refine DR.op (fun _ => (OpT.plain rfl (OpOk.fieldAddrRef fld_29_4 (Typ.tmp rfl)))) rfl rfl ?_
      refine DR.op (fun _ => (OpT.plain rfl (OpOk.loadRef ty_3 (Typ.tmp rfl)))) rfl rfl ?_
      refine DR.op (fun _ => (OpT.plain rfl (OpOk.call Tryz.call49 (Typ.tmp rfl) (Typs.cons (Typ.tmp rfl) Typs.nil) (s_token_Word _)))) rfl rfl ?_
      refine DR.op (fun _ => (OpT.plain rfl (OpOk.buildSlice lit_22_2 (parts := [(0, Operand.tmp 69), (1, Operand.const (Value.string ⟨[103, 105, 118, 101].toArray⟩))]) rfl (TypL.cons (Typ.tmp rfl) (TypL.cons (Typ.cstr (l := [103, 105, 118, 101])) TypL.nil))))) rfl rfl ?_
      refine DR.op (fun _ => (OpT.plain rfl (OpOk.fieldAddrRef fld_29_5 (Typ.tmp rfl)))) rfl rfl ?_
      refine DR.op (fun _ => (OpT.plain rfl (OpOk.loadRef ty_27 (Typ.tmp rfl)))) rfl rfl ?_
      refine DR.op (fun _ => (OpT.plain rfl (OpOk.call Tryz.call52 Typ.fn (Typs.cons (Typ.tmp rfl) Typs.nil) (s_line_rows _ (by omega))))) rfl rfl ?_
      refine DR.op (fun _ => (OpT.plain rfl (OpOk.move (Typ.tmp rfl)))) rfl rfl ?_
      refine DR.op (fun _ => (OpT.plain rfl (OpOk.fieldAddrRef fld_29_6 (Typ.tmp rfl)))) rfl rfl ?_
      refine DR.op (fun _ => (OpT.plain rfl (OpOk.loadRef ty_3 (Typ.tmp rfl)))) rfl rfl ?_
      refine DR.op (fun _ => (OpT.plain rfl (OpOk.call Tryz.call49 (Typ.tmp rfl) (Typs.cons (Typ.tmp rfl) Typs.nil) (s_token_Word _)))) rfl rfl ?_
      refine DR.op (fun _ => (OpT.plain rfl (OpOk.buildSlice lit_22_3 (parts := [(0, Operand.const (Value.string ⟨[99, 111, 105, 110, 115].toArray⟩)), (1, Operand.tmp 77), (2, Operand.const (Value.string ⟨[102, 111, 114].toArray⟩))]) rfl (TypL.cons (Typ.cstr (l := [99, 111, 105, 110, 115])) (TypL.cons (Typ.tmp rfl) (TypL.cons (Typ.cstr (l := [102, 111, 114])) TypL.nil)))))) rfl rfl ?_
      refine DR.op (fun _ => (OpT.plain rfl (OpOk.fieldAddrRef fld_29_7 (Typ.tmp rfl)))) rfl rfl ?_
      refine DR.op (fun _ => (OpT.plain rfl (OpOk.loadRef ty_27 (Typ.tmp rfl)))) rfl rfl ?_
      refine DR.op (fun _ => (OpT.plain rfl (OpOk.call Tryz.call52 Typ.fn (Typs.cons (Typ.tmp rfl) Typs.nil) (s_line_rows _ (by omega))))) rfl rfl ?_
      refine DR.op (fun _ => (OpT.plain rfl (OpOk.move (Typ.tmp rfl)))) rfl rfl ?_
      refine DR.op (fun _ => (OpT.plain rfl (OpOk.fieldAddrRef fld_29_8 (Typ.tmp rfl)))) rfl rfl ?_
      refine DR.op (fun _ => (OpT.plain rfl (OpOk.loadRef ty_3 (Typ.tmp rfl)))) rfl rfl ?_
      refine DR.op (fun _ => (OpT.plain rfl (OpOk.call Tryz.call49 (Typ.tmp rfl) (Typs.cons (Typ.tmp rfl) Typs.nil) (s_token_Word _)))) rfl rfl ?_
      refine DR.op (fun _ => (OpT.plain rfl (OpOk.buildSlice lit_22_2 (parts := [(0, Operand.const (Value.string ⟨[99, 111, 105, 110, 115].toArray⟩)), (1, Operand.tmp 85)]) rfl (TypL.cons (Typ.cstr (l := [99, 111, 105, 110, 115])) (TypL.cons (Typ.tmp rfl) TypL.nil))))) rfl rfl ?_
      refine DR.op (fun _ => (OpT.plain rfl (OpOk.buildSlice lit_130_5 (parts := [(0, Operand.tmp 70), (1, Operand.tmp 73), (2, Operand.tmp 78), (3, Operand.tmp 81), (4, Operand.tmp 86)]) rfl (TypL.cons (Typ.tmp rfl) (TypL.cons (Typ.tmp rfl) (TypL.cons (Typ.tmp rfl) (TypL.cons (Typ.tmp rfl) (TypL.cons (Typ.tmp rfl) TypL.nil)))))))) rfl rfl ?_
      refine DR.op (fun _ => (OpT.plain rfl (OpOk.call Tryz.call51 Typ.fn (Typs.cons (Typ.tmp rfl) Typs.nil) (s_Concat_string _ (by simp; omega) (by simp))))) rfl rfl ?_
      refine DR.tail rfl (by decide +kernel) (show dstBelow _ 97 = true by decide +kernel) rfl ?_
      refine SL.op (OpT.plain rfl (OpOk.assign (Typ.tmp rfl))) rfl rfl ?_
      refine SL.nil ?_
      refine SK.code ?_
      refine SC.seq ?_
      refine SC.region ?_
      refine SL.op (OpT.plain rfl (OpOk.fieldAddrRef fld_29_0 (Typ.tmp rfl))) rfl rfl ?_
      refine SL.op (OpT.plain rfl (OpOk.loadRef ty_3 (Typ.tmp rfl))) rfl rfl ?_
      refine SL.op (OpT.plain rfl (OpOk.call Tryz.call54 Typ.fn (Typs.cons (Typ.tmp rfl) Typs.nil) (s_cmd_Name _))) rfl rfl ?_
      refine SL.op (OpT.plain rfl (OpOk.buildSlice lit_22_1 (parts := [(0, Operand.tmp 91)]) rfl (TypL.cons (Typ.tmp rfl) TypL.nil))) rfl rfl ?_
      refine SL.op (OpT.plain rfl (OpOk.move (Typ.tmp rfl))) rfl rfl ?_
      refine SL.op (OpT.plain rfl (OpOk.buildSlice lit_130_2 (parts := [(0, Operand.tmp 92), (1, Operand.tmp 93)]) rfl (TypL.cons (Typ.tmp rfl) (TypL.cons (Typ.tmp rfl) TypL.nil)))) rfl rfl ?_
      refine SL.op (OpT.plain rfl (OpOk.call Tryz.call51 Typ.fn (Typs.cons (Typ.tmp rfl) Typs.nil) (s_Concat_string _ (by rw [hx]; exact Nat.le_trans (wordsR_le hm).2 (by omega)) (by simp)))) rfl rfl ?_
      refine SL.op (OpT.plain rfl (OpOk.call Tryz.call53 Typ.fn (Typs.cons (Typ.tmp rfl) Typs.nil) (s_token_Join _ (by rw [hx]; exact Nat.le_trans (join_words_le hm) (by omega))))) rfl rfl ?_
      refine SL.op (OpT.plain rfl (OpOk.assign (Typ.tmp rfl))) rfl rfl ?_
      refine SL.op (OpT.plain rfl (OpOk.assign Typ.cint)) rfl rfl ?_
      refine SL.nil ?_
      refine SK.code ?_
      refine SC.ret ?_
      exact SR.two rfl (ResT.eq rfl (by first | (rw [putR_no hm]) | (rw [putR_ok hm, hx]) | (rw [putR_ok hm]) | rfl | (simp_all []; done) | (simp_all []; rfl) | (simp_all []; omega))) (ResT.eq rfl (by first | (rw [putR_no hm]) | (rw [putR_ok hm, hx]) | (rw [putR_ok hm]) | rfl | (simp_all []; done) | (simp_all []; rfl) | (simp_all []; omega)))
    · skip
      try simp only [decide_eq_true_eq, decide_eq_false_iff_not, Bool.and_eq_true, Bool.or_eq_true, Bool.not_eq_true', Bool.not_eq_false', Bool.and_eq_false_iff, Bool.or_eq_false_iff, Bool.not_not, Bool.not_true, Bool.not_false, ne_eq, Classical.not_not, Decidable.not_not] at h2
      have hx := put_other (kvs := kvs) hm (by assumption) (fun key => hkv key)
      refine SC.skip ?_
      refine SK.code ?_
      refine SC.seq ?_
      refine SC.region ?_
      refine SL.op (OpT.plain rfl (OpOk.fieldAddrRef fld_29_0 (Typ.tmp rfl))) rfl rfl ?_
      refine SL.op (OpT.plain rfl (OpOk.loadRef ty_3 (Typ.tmp rfl))) rfl rfl ?_
      refine SL.op (OpT.plain rfl (OpOk.call Tryz.call54 Typ.fn (Typs.cons (Typ.tmp rfl) Typs.nil) (s_cmd_Name _))) rfl rfl ?_
      refine SL.op (OpT.plain rfl (OpOk.buildSlice lit_22_1 (parts := [(0, Operand.tmp 91)]) rfl (TypL.cons (Typ.tmp rfl) TypL.nil))) rfl rfl ?_
      refine SL.op (OpT.plain rfl (OpOk.move (Typ.tmp rfl))) rfl rfl ?_
      refine SL.op (OpT.plain rfl (OpOk.buildSlice lit_130_2 (parts := [(0, Operand.tmp 92), (1, Operand.tmp 93)]) rfl (TypL.cons (Typ.tmp rfl) (TypL.cons (Typ.tmp rfl) TypL.nil)))) rfl rfl ?_
      refine SL.op (OpT.plain rfl (OpOk.call Tryz.call51 Typ.fn (Typs.cons (Typ.tmp rfl) Typs.nil) (s_Concat_string _ (by rw [hx]; exact Nat.le_trans (wordsR_le hm).2 (by omega)) (by simp)))) rfl rfl ?_
      refine SL.op (OpT.plain rfl (OpOk.call Tryz.call53 Typ.fn (Typs.cons (Typ.tmp rfl) Typs.nil) (s_token_Join _ (by rw [hx]; exact Nat.le_trans (join_words_le hm) (by omega))))) rfl rfl ?_
      refine SL.op (OpT.plain rfl (OpOk.assign (Typ.tmp rfl))) rfl rfl ?_
      refine SL.op (OpT.plain rfl (OpOk.assign Typ.cint)) rfl rfl ?_
      refine SL.nil ?_
      refine SK.code ?_
      refine SC.ret ?_
      exact SR.two rfl (ResT.eq rfl (by first | (rw [putR_no hm]) | (rw [putR_ok hm, hx]) | (rw [putR_ok hm]) | rfl | (simp_all []; done) | (simp_all []; rfl) | (simp_all []; omega))) (ResT.eq rfl (by first | (rw [putR_no hm]) | (rw [putR_ok hm, hx]) | (rw [putR_ok hm]) | rfl | (simp_all []; done) | (simp_all []; rfl) | (simp_all []; omega)))
end Go.Proofs.YtgnblhmejecgfaaGreatDoor
