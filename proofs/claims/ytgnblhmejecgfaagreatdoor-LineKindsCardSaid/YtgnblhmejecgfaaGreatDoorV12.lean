/- The document's own answer of layer 4: a line's command. -/
import Derived.Test.YtgnblhmejecgfaaGreatDoorV11
set_option linter.all false

namespace Go.Proofs.YtgnblhmejecgfaaGreatDoor
open Go Go.RowKit Go.Inn
set_option linter.unusedSimpArgs false
set_option linter.unusedVariables false
set_option maxRecDepth 100000
def coins : Str := [99, 111, 105, 110, 115]
/-- numbers, up to the word coins -/
def scanR : List Str → List Int × Nat
  | [] => ([], 0)
  | w :: r => if w = coins then ([], 0) else ((numR w).1 :: (scanR r).1, (scanR r).2 + 1)
structure ScanInv (ws : List Str) (a i : Nat) (acc : List Int) : Prop where
  le : a ≤ i
  up : i ≤ ws.length ∨ i = a
  len : acc.length = i - a
  eq : scanR (ws.drop a) = (acc ++ (scanR (ws.drop i)).1, i - a + (scanR (ws.drop i)).2)
theorem ScanInv.zero (ws : List Str) (a : Nat) : ScanInv ws a a [] := ⟨Nat.le_refl _, .inr rfl, by simp, by simp⟩
theorem ScanInv.step {ws : List Str} {a i : Nat} {acc : List Int} (h : ScanInv ws a i acc) (k : (i : Int) < ws.length ∧ ¬ nth ws (i : Int) = coins) : ScanInv ws a (i + 1) (acc ++ [atR ws (i : Int)]) := by
  obtain ⟨h1, h2, h3, h4⟩ := h
  refine ⟨by omega, by omega, by simp; omega, ?_⟩
  have e : atR ws (i : Int) = (numR (nth ws (i : Int))).1 := by unfold atR; rw [if_neg (by omega)]
  rw [h4, drop_nth k.1, e]
  have e2 : scanR (nth ws (i : Int) :: ws.drop (i + 1)) = ((numR (nth ws (i : Int))).1 :: (scanR (ws.drop (i + 1))).1, (scanR (ws.drop (i + 1))).2 + 1) := by rw [scanR, if_neg k.2]
  rw [e2]
  simp; omega
theorem ScanInv.done {ws : List Str} {a i : Nat} {acc : List Int} (h : ScanInv ws a i acc) (k : ¬ (i : Int) < ws.length ∨ nth ws (i : Int) = coins) : scanR (ws.drop a) = (acc, i - a) := by
  obtain ⟨h1, h2, h3, h4⟩ := h
  have e : scanR (ws.drop i) = ([], 0) := by
    by_cases hi : (i : Int) < ws.length
    · rcases k with k | k
      · exact absurd hi k
      · rw [drop_nth hi, k, scanR, if_pos rfl]
    · rw [List.drop_of_length_le (by omega)]; rfl
  rw [h4, e]; simp
def tradeR (k : Int) (ws : List Str) : Cmd :=
  { kind := k, who := atR ws 1, gives := (scanR (ws.drop 3)).1, pay := atR ws (((3 + (scanR (ws.drop 3)).2 : Nat) : Int) + 1), wants := (scanR (ws.drop (3 + (scanR (ws.drop 3)).2 + 3))).1, fee := atR ws (((3 + (scanR (ws.drop 3)).2 + 3 + (scanR (ws.drop (3 + (scanR (ws.drop 3)).2 + 3))).2 : Nat) : Int) + 1) }
/-- what ref04.Get takes out of the words -/
def fillR (k : Int) (ws : List Str) : Cmd :=
  if k = 1 then (if 1 < (ws.length : Int) then { kind := k, dir := (dirOf (nth ws 1)).1 } else { kind := k })
  else if k = 2 then (if 2 < (ws.length : Int) then { kind := k, who := atR ws 1, dir := (dirOf (nth ws 2)).1 } else { kind := k, who := atR ws 1 })
  else if k = 3 ∨ k = 4 then { kind := k, item := atR ws 1 }
  else if k = 5 ∨ k = 6 then { kind := k, item := atR ws 1, box := atR ws 3 }
  else if k = 7 then { kind := k, item := atR ws 1, who := atR ws 3 }
  else if k = 8 then tradeR k ws else { kind := k }
theorem trade_is {k : Int} {ws : List Str} {i j : Nat} {g w : List Int} (h1 : scanR (ws.drop 3) = (g, i - 3)) (hi : 3 ≤ i) (h2 : scanR (ws.drop (i + 3)) = (w, j - (i + 3))) (hj : i + 3 ≤ j) :
    (((((({ kind := k } : Cmd).s_who (atR ws 1)).s_gives g).s_pay (atR ws ((i : Int) + 1))).s_wants w).s_fee (atR ws ((j : Int) + 1))) = tradeR k ws := by
  unfold tradeR
  have e1 : 3 + (scanR (ws.drop 3)).2 = i := by rw [h1]; simp; omega
  rw [e1]
  have e2 : i + 3 + (scanR (ws.drop (i + 3))).2 = j := by rw [h2]; simp; omega
  rw [e2, h1, h2]
  rfl
/-- ref04.Get -/
def getR (s : Str) : Cmd × Int :=
  if words s = [] then ({}, 2) else
    if mayR (fillR (kindOf (nth (words s) 0)).1 (words s)) = true ∧ wordsR (fillR (kindOf (nth (words s) 0)).1 (words s)) = words s then (fillR (kindOf (nth (words s) 0)).1 (words s), 0) else ({}, 2)
theorem getR_nil {s : Str} (h : ((words s).length : Int) = 0) : getR s = ({}, 2) := by unfold getR; rw [if_pos (len0 h)]
theorem getR_no {s : Str} (h : ¬ ((words s).length : Int) = 0) (k : mayR (fillR (kindOf (nth (words s) 0)).1 (words s)) = false ∨ ¬ wordsR (fillR (kindOf (nth (words s) 0)).1 (words s)) = words s) : getR s = ({}, 2) := by
  unfold getR
  rw [if_neg (len0' h), if_neg]
  rintro ⟨a, b⟩
  rcases k with k | k
  · rw [a] at k; cases k
  · exact k b
theorem getR_ok {s : Str} (h : ¬ ((words s).length : Int) = 0) (k : mayR (fillR (kindOf (nth (words s) 0)).1 (words s)) = true ∧ wordsR (fillR (kindOf (nth (words s) 0)).1 (words s)) = words s) : getR s = (fillR (kindOf (nth (words s) 0)).1 (words s), 0) := by
  unfold getR
  rw [if_neg (len0' h), if_pos k]

/-! innkeep/innkeepref04.Get -/
theorem s_innkeepref04_Get (s : Str) (hs0 : s.length ≤ 100000) : FnSpec Tryz.prog glob 14 [V s] (.tup [V (getR s).1, V (getR s).2]) := by
  refine FnSpec.enter Tryz.func14 rfl rfl rfl fun m0 w0 => ?_
  refine SC.learnStr (t := 0) rfl fun hp0 => ?_
  refine SC.seq ?_
  refine SC.region ?_
  refine SL.allocOwn tyz_29 rfl fun b1 => ?_
  refine SL.op (OpT.plain rfl (OpOk.assign Typ.cint)) rfl rfl ?_
  refine SL.nil ?_
  refine SK.code ?_
  refine SC.seq ?_
  refine SC.region ?_
  refine SL.op (OpT.plain rfl (OpOk.move (Typ.tmp rfl))) rfl rfl ?_
  refine SL.op (OpT.plain rfl (OpOk.call Tryz.call28 Typ.fn (Typs.cons (Typ.tmp rfl) Typs.nil) (s_innkeepref02_Cut _ (by omega)))) rfl rfl ?_
  refine SL.op (OpT.plain rfl (OpOk.assign (Typ.tmp rfl))) rfl rfl ?_
  refine SL.nil ?_
  refine SK.code ?_
  refine SC.seq ?_
  refine SC.seq ?_
  refine SC.region ?_
  refine SL.op (OpT.plain rfl (OpOk.move (Typ.tmp rfl))) rfl rfl ?_
  refine SL.op (OpT.plain rfl (OpOk.lenList Tryz.underlying22 (Typ.tmp rfl))) rfl rfl ?_
  refine SL.op (OpT.plain rfl (OpOk.eql (Typ.tmp rfl) Typ.cint)) rfl rfl ?_
  refine SL.nil ?_
  refine SK.code ?_
  refine SC.cond rfl (fun _ _ h => V_bool h) (fun h2 => ?_) (fun h2 => ?_)
  · skip
    try simp only [decide_eq_true_eq, decide_eq_false_iff_not, Bool.and_eq_true, Bool.or_eq_true, Bool.not_eq_true', Bool.not_eq_false', Bool.and_eq_false_iff, Bool.or_eq_false_iff, Bool.not_not, Bool.not_true, Bool.not_false, ne_eq, Classical.not_not, Decidable.not_not] at h2
    refine SC.seq ?_
    refine SC.region ?_
    refine SL.op (OpT.plain rfl (OpOk.build tys_29 Parts.nil)) rfl rfl ?_
    refine SL.opW (OpW.storeOwn ty_29 (Lens.id _) (i := 0) rfl rfl (Typ.tmp rfl) (Typ.tmp rfl)) ?_
    refine SL.op (OpT.plain rfl (OpOk.assign Typ.cint)) rfl rfl ?_
    refine SL.nil ?_
    refine SK.code ?_
    refine SC.ret ?_
    exact SR.two rfl (ResT.own ty_29 rfl (k := 0) rfl (by first | (rw [getR_nil (by assumption)]) | (rw [getR_ok (by assumption) (by assumption)]) | (rw [getR_no (by assumption) (by assumption)]) | rfl | (simp_all []; done) | (simp_all []; rfl) | (simp_all []; omega))) (ResT.eq rfl (by first | (rw [getR_nil (by assumption)]) | (rw [getR_ok (by assumption) (by assumption)]) | (rw [getR_no (by assumption) (by assumption)]) | rfl | (simp_all []; done) | (simp_all []; rfl) | (simp_all []; omega)))
  · skip
    try simp only [decide_eq_true_eq, decide_eq_false_iff_not, Bool.and_eq_true, Bool.or_eq_true, Bool.not_eq_true', Bool.not_eq_false', Bool.and_eq_false_iff, Bool.or_eq_false_iff, Bool.not_not, Bool.not_true, Bool.not_false, ne_eq, Classical.not_not, Decidable.not_not] at h2
    refine SC.skip ?_
    refine SK.code ?_
    refine SC.seq ?_
    have hwn : (words s).length ≤ 100001 := Nat.le_trans (kw_len _) (Nat.le_trans (pieces_len s) (by omega))
    refine SC.region ?_
    refine SL.op (OpT.plain rfl (OpOk.move (Typ.tmp rfl))) rfl rfl ?_
    refine SL.op (OpT.plain rfl (OpOk.indexAddr Tryz.underlying22 ty_9 (Typ.tmp rfl) Typ.cint (by first | omega | (simp only [decide_eq_true_eq, decide_eq_false_iff_not] at *; omega) | (simp at *; omega)) (by first | omega | (simp only [decide_eq_true_eq, decide_eq_false_iff_not] at *; omega) | (simp at *; omega)))) rfl rfl ?_
    refine SL.op (OpT.plain rfl (OpOk.loadRef ty_9 (Typ.tmp rfl))) rfl rfl ?_
    refine SL.op (OpT.plain rfl (OpOk.call Tryz.call32 Typ.fn (Typs.cons (Typ.tmp rfl) Typs.nil) (s_innkeepref03_Kind _))) rfl rfl ?_
    refine SL.op (OpT.plain rfl (OpOk.move (Typ.tmp rfl))) rfl rfl ?_
    refine SL.op (OpT.plain rfl (OpOk.extract (Typ.tmp rfl) rfl)) rfl rfl ?_
    refine SL.op (OpT.plain rfl (OpOk.extract (Typ.tmp rfl) rfl)) rfl rfl ?_
    refine SL.op (OpT.plain rfl (OpOk.assign (Typ.tmp rfl))) rfl rfl ?_
    refine SL.op (OpT.plain rfl (OpOk.assign (Typ.tmp rfl))) rfl rfl ?_
    refine SL.nil ?_
    refine SK.code ?_
    refine SC.seq ?_
    refine SC.region ?_
    refine SL.op (OpT.plain rfl (OpOk.move (Typ.tmp rfl))) rfl rfl ?_
    refine SL.op (OpT.plain rfl (OpOk.build tysR (Parts.cons CmdR.l_kind rfl (Typ.tmp rfl) Parts.nil))) rfl rfl ?_
    refine SL.allocOwn tyzR rfl fun b3 => ?_
    refine SL.opW (OpW.storeOwn tyR (Lens.id _) (i := 1) rfl rfl (Typ.tmp rfl) (Typ.tmp rfl)) ?_
    refine SL.nil ?_
    refine SK.code ?_
    refine SC.seq (SC.meetK (σ := Cmd × Value × Value) [2, 4, 5, 7] (fun st => []) (fun st Δ => [Own.var b1 29 ({} : Cmd)] ++ cmdOwn 29 3 b3 st.1 st.2.1 st.2.2) (fun st => st.1 = fillR (kindOf (nth (words s) 0)).1 (words s)) ?_ (fun st hc => ?_))
    · skip
      refine SC.seq ?_
      refine SC.nilRow Int 3 ?_
      refine SC.nilRow Int 3 ?_
      refine SC.region ?_
      refine SL.op (OpT.plain rfl (OpOk.move (Typ.tmp rfl))) rfl rfl ?_
      refine SL.nil ?_
      refine SK.code ?_
      refine SC.block ?_
      refine SC.seq ?_
      refine SC.region ?_
      refine SL.op (OpT.plain rfl (OpOk.eql (Typ.tmp rfl) Typ.cint)) rfl rfl ?_
      refine SL.op (OpT.plain rfl (OpOk.assign (Typ.tmp rfl))) rfl rfl ?_
      refine SL.nil ?_
      refine SK.code ?_
      refine SC.cond rfl (fun _ _ h => V_bool h) (fun h4 => ?_) (fun h4 => ?_)
      · skip
        try simp only [decide_eq_true_eq, decide_eq_false_iff_not, Bool.and_eq_true, Bool.or_eq_true, Bool.not_eq_true', Bool.not_eq_false', Bool.and_eq_false_iff, Bool.or_eq_false_iff, Bool.not_not, Bool.not_true, Bool.not_false, ne_eq, Classical.not_not, Decidable.not_not] at h4
        refine SC.seq ?_
        refine SC.region ?_
        refine SL.op (OpT.plain rfl (OpOk.move (Typ.tmp rfl))) rfl rfl ?_
        refine SL.op (OpT.plain rfl (OpOk.lenList Tryz.underlying22 (Typ.tmp rfl))) rfl rfl ?_
        refine SL.op (OpT.plain rfl (OpOk.gtr (Typ.tmp rfl) Typ.cint)) rfl rfl ?_
        refine SL.nil ?_
        refine SK.code ?_
        refine SC.cond rfl (fun _ _ h => V_bool h) (fun h5 => ?_) (fun h5 => ?_)
        · skip
          try simp only [decide_eq_true_eq, decide_eq_false_iff_not, Bool.and_eq_true, Bool.or_eq_true, Bool.not_eq_true', Bool.not_eq_false', Bool.and_eq_false_iff, Bool.or_eq_false_iff, Bool.not_not, Bool.not_true, Bool.not_false, ne_eq, Classical.not_not, Decidable.not_not] at h5
          refine SC.region ?_
          refine SL.op (OpT.plain rfl (OpOk.move (Typ.tmp rfl))) rfl rfl ?_
          refine SL.op (OpT.plain rfl (OpOk.indexAddr Tryz.underlying22 ty_9 (Typ.tmp rfl) Typ.cint (by first | omega | (simp only [decide_eq_true_eq, decide_eq_false_iff_not] at *; omega) | (simp at *; omega)) (by first | omega | (simp only [decide_eq_true_eq, decide_eq_false_iff_not] at *; omega) | (simp at *; omega)))) rfl rfl ?_
          refine SL.op (OpT.plain rfl (OpOk.loadRef ty_9 (Typ.tmp rfl))) rfl rfl ?_
          refine SL.op (OpT.plain rfl (OpOk.call Tryz.call33 Typ.fn (Typs.cons (Typ.tmp rfl) Typs.nil) (s_innkeepref03_Dir _))) rfl rfl ?_
          refine SL.op (OpT.plain rfl (OpOk.move (Typ.tmp rfl))) rfl rfl ?_
          refine SL.op (OpT.plain rfl (OpOk.extract (Typ.tmp rfl) rfl)) rfl rfl ?_
          refine SL.op (OpT.plain rfl (OpOk.extract (Typ.tmp rfl) rfl)) rfl rfl ?_
          refine SL.op (OpT.plain rfl (OpOk.fieldAddrOwn fldR_29_1 (Typ.tmp rfl))) rfl rfl ?_
          refine SL.opW (OpW.storeOwn ty_3 CmdR.l_dir (i := 1) rfl rfl (Typ.tmp rfl) (Typ.tmp rfl)) ?_
          refine SL.nil ?_
          refine SK.blk ?_
          refine SK.metK (((({ kind := (kindOf (nth (words s) 0)).1 } : Cmd)).s_dir (dirOf (nth (words s) 1)).1, .slice none 0 0, .slice none 0 0)) (by first | (rw [trade_is hd1 p1 hd2 r1]; simp [fillR, *]; done) | (simp [fillR, *, Cmd.s_dir, Cmd.s_who, Cmd.s_item, Cmd.s_box]; done)) rfl rfl Subs.nil
        · skip
          try simp only [decide_eq_true_eq, decide_eq_false_iff_not, Bool.and_eq_true, Bool.or_eq_true, Bool.not_eq_true', Bool.not_eq_false', Bool.and_eq_false_iff, Bool.or_eq_false_iff, Bool.not_not, Bool.not_true, Bool.not_false, ne_eq, Classical.not_not, Decidable.not_not] at h5
          refine SC.skip ?_
          refine SK.blk ?_
          refine SK.metK ((({ kind := (kindOf (nth (words s) 0)).1 } : Cmd), .slice none 0 0, .slice none 0 0)) (by first | (rw [trade_is hd1 p1 hd2 r1]; simp [fillR, *]; done) | (simp [fillR, *, Cmd.s_dir, Cmd.s_who, Cmd.s_item, Cmd.s_box]; done)) rfl rfl Subs.nil
      · skip
        try simp only [decide_eq_true_eq, decide_eq_false_iff_not, Bool.and_eq_true, Bool.or_eq_true, Bool.not_eq_true', Bool.not_eq_false', Bool.and_eq_false_iff, Bool.or_eq_false_iff, Bool.not_not, Bool.not_true, Bool.not_false, ne_eq, Classical.not_not, Decidable.not_not] at h4
        refine SC.seq ?_
        refine SC.region ?_
        refine SL.op (OpT.plain rfl (OpOk.eql (Typ.tmp rfl) Typ.cint)) rfl rfl ?_
        refine SL.op (OpT.plain rfl (OpOk.assign (Typ.tmp rfl))) rfl rfl ?_
        refine SL.nil ?_
        refine SK.code ?_
        refine SC.cond rfl (fun _ _ h => V_bool h) (fun h6 => ?_) (fun h6 => ?_)
        · skip
          try simp only [decide_eq_true_eq, decide_eq_false_iff_not, Bool.and_eq_true, Bool.or_eq_true, Bool.not_eq_true', Bool.not_eq_false', Bool.and_eq_false_iff, Bool.or_eq_false_iff, Bool.not_not, Bool.not_true, Bool.not_false, ne_eq, Classical.not_not, Decidable.not_not] at h6
          refine SC.seq ?_
          refine SC.region ?_
          refine SL.op (OpT.plain rfl (OpOk.move (Typ.tmp rfl))) rfl rfl ?_
          refine SL.op (OpT.plain rfl (OpOk.call Tryz.call34 Typ.fn (Typs.cons (Typ.tmp rfl) (Typs.cons Typ.cint Typs.nil)) (s_innkeepref04_at _ _))) rfl rfl ?_
          refine SL.op (OpT.plain rfl (OpOk.fieldAddrOwn fldR_29_4 (Typ.tmp rfl))) rfl rfl ?_
          refine SL.opW (OpW.storeOwn ty_3 CmdR.l_who (i := 1) rfl rfl (Typ.tmp rfl) (Typ.tmp rfl)) ?_
          refine SL.nil ?_
          refine SK.code ?_
          refine SC.seq ?_
          refine SC.region ?_
          refine SL.op (OpT.plain rfl (OpOk.move (Typ.tmp rfl))) rfl rfl ?_
          refine SL.op (OpT.plain rfl (OpOk.lenList Tryz.underlying22 (Typ.tmp rfl))) rfl rfl ?_
          refine SL.op (OpT.plain rfl (OpOk.gtr (Typ.tmp rfl) Typ.cint)) rfl rfl ?_
          refine SL.nil ?_
          refine SK.code ?_
          refine SC.cond rfl (fun _ _ h => V_bool h) (fun h7 => ?_) (fun h7 => ?_)
          · skip
            try simp only [decide_eq_true_eq, decide_eq_false_iff_not, Bool.and_eq_true, Bool.or_eq_true, Bool.not_eq_true', Bool.not_eq_false', Bool.and_eq_false_iff, Bool.or_eq_false_iff, Bool.not_not, Bool.not_true, Bool.not_false, ne_eq, Classical.not_not, Decidable.not_not] at h7
            refine SC.region ?_
            refine SL.op (OpT.plain rfl (OpOk.move (Typ.tmp rfl))) rfl rfl ?_
            refine SL.op (OpT.plain rfl (OpOk.indexAddr Tryz.underlying22 ty_9 (Typ.tmp rfl) Typ.cint (by first | omega | (simp only [decide_eq_true_eq, decide_eq_false_iff_not] at *; omega) | (simp at *; omega)) (by first | omega | (simp only [decide_eq_true_eq, decide_eq_false_iff_not] at *; omega) | (simp at *; omega)))) rfl rfl ?_
            refine SL.op (OpT.plain rfl (OpOk.loadRef ty_9 (Typ.tmp rfl))) rfl rfl ?_
            refine SL.op (OpT.plain rfl (OpOk.call Tryz.call33 Typ.fn (Typs.cons (Typ.tmp rfl) Typs.nil) (s_innkeepref03_Dir _))) rfl rfl ?_
            refine SL.op (OpT.plain rfl (OpOk.move (Typ.tmp rfl))) rfl rfl ?_
            refine SL.op (OpT.plain rfl (OpOk.extract (Typ.tmp rfl) rfl)) rfl rfl ?_
            refine SL.op (OpT.plain rfl (OpOk.extract (Typ.tmp rfl) rfl)) rfl rfl ?_
            refine SL.op (OpT.plain rfl (OpOk.fieldAddrOwn fldR_29_1 (Typ.tmp rfl))) rfl rfl ?_
            refine SL.opW (OpW.storeOwn ty_3 CmdR.l_dir (i := 1) rfl rfl (Typ.tmp rfl) (Typ.tmp rfl)) ?_
            refine SL.nil ?_
            refine SK.blk ?_
            refine SK.metK ((((({ kind := (kindOf (nth (words s) 0)).1 } : Cmd)).s_who (atR (words s) 1)).s_dir (dirOf (nth (words s) 2)).1, .slice none 0 0, .slice none 0 0)) (by first | (rw [trade_is hd1 p1 hd2 r1]; simp [fillR, *]; done) | (simp [fillR, *, Cmd.s_dir, Cmd.s_who, Cmd.s_item, Cmd.s_box]; done)) rfl rfl Subs.nil
          · skip
            try simp only [decide_eq_true_eq, decide_eq_false_iff_not, Bool.and_eq_true, Bool.or_eq_true, Bool.not_eq_true', Bool.not_eq_false', Bool.and_eq_false_iff, Bool.or_eq_false_iff, Bool.not_not, Bool.not_true, Bool.not_false, ne_eq, Classical.not_not, Decidable.not_not] at h7
            refine SC.skip ?_
            refine SK.blk ?_
            refine SK.metK (((({ kind := (kindOf (nth (words s) 0)).1 } : Cmd)).s_who (atR (words s) 1), .slice none 0 0, .slice none 0 0)) (by first | (rw [trade_is hd1 p1 hd2 r1]; simp [fillR, *]; done) | (simp [fillR, *, Cmd.s_dir, Cmd.s_who, Cmd.s_item, Cmd.s_box]; done)) rfl rfl Subs.nil
        · skip
          try simp only [decide_eq_true_eq, decide_eq_false_iff_not, Bool.and_eq_true, Bool.or_eq_true, Bool.not_eq_true', Bool.not_eq_false', Bool.and_eq_false_iff, Bool.or_eq_false_iff, Bool.not_not, Bool.not_true, Bool.not_false, ne_eq, Classical.not_not, Decidable.not_not] at h6
          refine SC.seq ?_
          refine SC.seq ?_
          refine SC.region ?_
          refine SL.op (OpT.plain rfl (OpOk.eql (Typ.tmp rfl) Typ.cint)) rfl rfl ?_
          refine SL.op (OpT.plain rfl (OpOk.assign (Typ.tmp rfl))) rfl rfl ?_
          refine SL.nil ?_
          refine SK.code ?_
          refine SC.cond rfl (fun _ _ h => V_bool h) (fun h8 => ?_) (fun h8 => ?_)
          · skip
            try simp only [decide_eq_true_eq, decide_eq_false_iff_not, Bool.and_eq_true, Bool.or_eq_true, Bool.not_eq_true', Bool.not_eq_false', Bool.and_eq_false_iff, Bool.or_eq_false_iff, Bool.not_not, Bool.not_true, Bool.not_false, ne_eq, Classical.not_not, Decidable.not_not] at h8
            refine SC.skip ?_
            refine SK.code ?_
            refine SC.cond rfl (fun _ _ h => V_bool h) (fun h9 => ?_) (fun h9 => ?_)
            · skip
              try simp only [decide_eq_true_eq, decide_eq_false_iff_not, Bool.and_eq_true, Bool.or_eq_true, Bool.not_eq_true', Bool.not_eq_false', Bool.and_eq_false_iff, Bool.or_eq_false_iff, Bool.not_not, Bool.not_true, Bool.not_false, ne_eq, Classical.not_not, Decidable.not_not] at h9
              refine SC.region ?_
              refine SL.op (OpT.plain rfl (OpOk.move (Typ.tmp rfl))) rfl rfl ?_
              refine SL.op (OpT.plain rfl (OpOk.call Tryz.call34 Typ.fn (Typs.cons (Typ.tmp rfl) (Typs.cons Typ.cint Typs.nil)) (s_innkeepref04_at _ _))) rfl rfl ?_
              refine SL.op (OpT.plain rfl (OpOk.fieldAddrOwn fldR_29_2 (Typ.tmp rfl))) rfl rfl ?_
              refine SL.opW (OpW.storeOwn ty_3 CmdR.l_item (i := 1) rfl rfl (Typ.tmp rfl) (Typ.tmp rfl)) ?_
              refine SL.nil ?_
              refine SK.blk ?_
              refine SK.metK (((({ kind := (kindOf (nth (words s) 0)).1 } : Cmd)).s_item (atR (words s) 1), .slice none 0 0, .slice none 0 0)) (by first | (rw [trade_is hd1 p1 hd2 r1]; simp [fillR, *]; done) | (simp [fillR, *, Cmd.s_dir, Cmd.s_who, Cmd.s_item, Cmd.s_box]; done)) rfl rfl Subs.nil
            · skip
              try simp only [decide_eq_true_eq, decide_eq_false_iff_not, Bool.and_eq_true, Bool.or_eq_true, Bool.not_eq_true', Bool.not_eq_false', Bool.and_eq_false_iff, Bool.or_eq_false_iff, Bool.not_not, Bool.not_true, Bool.not_false, ne_eq, Classical.not_not, Decidable.not_not] at h9
              first | contradiction | (exfalso; omega) | (exfalso; simp_all; done)
          · skip
            try simp only [decide_eq_true_eq, decide_eq_false_iff_not, Bool.and_eq_true, Bool.or_eq_true, Bool.not_eq_true', Bool.not_eq_false', Bool.and_eq_false_iff, Bool.or_eq_false_iff, Bool.not_not, Bool.not_true, Bool.not_false, ne_eq, Classical.not_not, Decidable.not_not] at h8
            refine SC.region ?_
            refine SL.op (OpT.plain rfl (OpOk.eql (Typ.tmp rfl) Typ.cint)) rfl rfl ?_
            refine SL.op (OpT.plain rfl (OpOk.assign (Typ.tmp rfl))) rfl rfl ?_
            refine SL.nil ?_
            refine SK.code ?_
            refine SC.cond rfl (fun _ _ h => V_bool h) (fun h10 => ?_) (fun h10 => ?_)
            · skip
              try simp only [decide_eq_true_eq, decide_eq_false_iff_not, Bool.and_eq_true, Bool.or_eq_true, Bool.not_eq_true', Bool.not_eq_false', Bool.and_eq_false_iff, Bool.or_eq_false_iff, Bool.not_not, Bool.not_true, Bool.not_false, ne_eq, Classical.not_not, Decidable.not_not] at h10
              refine SC.region ?_
              refine SL.op (OpT.plain rfl (OpOk.move (Typ.tmp rfl))) rfl rfl ?_
              refine SL.op (OpT.plain rfl (OpOk.call Tryz.call34 Typ.fn (Typs.cons (Typ.tmp rfl) (Typs.cons Typ.cint Typs.nil)) (s_innkeepref04_at _ _))) rfl rfl ?_
              refine SL.op (OpT.plain rfl (OpOk.fieldAddrOwn fldR_29_2 (Typ.tmp rfl))) rfl rfl ?_
              refine SL.opW (OpW.storeOwn ty_3 CmdR.l_item (i := 1) rfl rfl (Typ.tmp rfl) (Typ.tmp rfl)) ?_
              refine SL.nil ?_
              refine SK.blk ?_
              refine SK.metK (((({ kind := (kindOf (nth (words s) 0)).1 } : Cmd)).s_item (atR (words s) 1), .slice none 0 0, .slice none 0 0)) (by first | (rw [trade_is hd1 p1 hd2 r1]; simp [fillR, *]; done) | (simp [fillR, *, Cmd.s_dir, Cmd.s_who, Cmd.s_item, Cmd.s_box]; done)) rfl rfl Subs.nil
            · skip
              try simp only [decide_eq_true_eq, decide_eq_false_iff_not, Bool.and_eq_true, Bool.or_eq_true, Bool.not_eq_true', Bool.not_eq_false', Bool.and_eq_false_iff, Bool.or_eq_false_iff, Bool.not_not, Bool.not_true, Bool.not_false, ne_eq, Classical.not_not, Decidable.not_not] at h10
              refine SC.seq ?_
              refine SC.seq ?_
              refine SC.region ?_
              refine SL.op (OpT.plain rfl (OpOk.eql (Typ.tmp rfl) Typ.cint)) rfl rfl ?_
              refine SL.op (OpT.plain rfl (OpOk.assign (Typ.tmp rfl))) rfl rfl ?_
              refine SL.nil ?_
              refine SK.code ?_
              refine SC.cond rfl (fun _ _ h => V_bool h) (fun h11 => ?_) (fun h11 => ?_)
              · skip
                try simp only [decide_eq_true_eq, decide_eq_false_iff_not, Bool.and_eq_true, Bool.or_eq_true, Bool.not_eq_true', Bool.not_eq_false', Bool.and_eq_false_iff, Bool.or_eq_false_iff, Bool.not_not, Bool.not_true, Bool.not_false, ne_eq, Classical.not_not, Decidable.not_not] at h11
                refine SC.skip ?_
                refine SK.code ?_
                refine SC.cond rfl (fun _ _ h => V_bool h) (fun h12 => ?_) (fun h12 => ?_)
                · skip
                  try simp only [decide_eq_true_eq, decide_eq_false_iff_not, Bool.and_eq_true, Bool.or_eq_true, Bool.not_eq_true', Bool.not_eq_false', Bool.and_eq_false_iff, Bool.or_eq_false_iff, Bool.not_not, Bool.not_true, Bool.not_false, ne_eq, Classical.not_not, Decidable.not_not] at h12
                  refine SC.seq ?_
                  refine SC.region ?_
                  refine SL.op (OpT.plain rfl (OpOk.move (Typ.tmp rfl))) rfl rfl ?_
                  refine SL.op (OpT.plain rfl (OpOk.call Tryz.call34 Typ.fn (Typs.cons (Typ.tmp rfl) (Typs.cons Typ.cint Typs.nil)) (s_innkeepref04_at _ _))) rfl rfl ?_
                  refine SL.op (OpT.plain rfl (OpOk.fieldAddrOwn fldR_29_2 (Typ.tmp rfl))) rfl rfl ?_
                  refine SL.opW (OpW.storeOwn ty_3 CmdR.l_item (i := 1) rfl rfl (Typ.tmp rfl) (Typ.tmp rfl)) ?_
                  refine SL.nil ?_
                  refine SK.code ?_
                  refine SC.region ?_
                  refine SL.op (OpT.plain rfl (OpOk.move (Typ.tmp rfl))) rfl rfl ?_
                  refine SL.op (OpT.plain rfl (OpOk.call Tryz.call34 Typ.fn (Typs.cons (Typ.tmp rfl) (Typs.cons Typ.cint Typs.nil)) (s_innkeepref04_at _ _))) rfl rfl ?_
                  refine SL.op (OpT.plain rfl (OpOk.fieldAddrOwn fldR_29_3 (Typ.tmp rfl))) rfl rfl ?_
                  refine SL.opW (OpW.storeOwn ty_3 CmdR.l_box (i := 1) rfl rfl (Typ.tmp rfl) (Typ.tmp rfl)) ?_
                  refine SL.nil ?_
                  refine SK.blk ?_
                  refine SK.metK ((((({ kind := (kindOf (nth (words s) 0)).1 } : Cmd)).s_item (atR (words s) 1)).s_box (atR (words s) 3), .slice none 0 0, .slice none 0 0)) (by first | (rw [trade_is hd1 p1 hd2 r1]; simp [fillR, *]; done) | (simp [fillR, *, Cmd.s_dir, Cmd.s_who, Cmd.s_item, Cmd.s_box]; done)) rfl rfl Subs.nil
                · skip
                  try simp only [decide_eq_true_eq, decide_eq_false_iff_not, Bool.and_eq_true, Bool.or_eq_true, Bool.not_eq_true', Bool.not_eq_false', Bool.and_eq_false_iff, Bool.or_eq_false_iff, Bool.not_not, Bool.not_true, Bool.not_false, ne_eq, Classical.not_not, Decidable.not_not] at h12
                  first | contradiction | (exfalso; omega) | (exfalso; simp_all; done)
              · skip
                try simp only [decide_eq_true_eq, decide_eq_false_iff_not, Bool.and_eq_true, Bool.or_eq_true, Bool.not_eq_true', Bool.not_eq_false', Bool.and_eq_false_iff, Bool.or_eq_false_iff, Bool.not_not, Bool.not_true, Bool.not_false, ne_eq, Classical.not_not, Decidable.not_not] at h11
                refine SC.region ?_
                refine SL.op (OpT.plain rfl (OpOk.eql (Typ.tmp rfl) Typ.cint)) rfl rfl ?_
                refine SL.op (OpT.plain rfl (OpOk.assign (Typ.tmp rfl))) rfl rfl ?_
                refine SL.nil ?_
                refine SK.code ?_
                refine SC.cond rfl (fun _ _ h => V_bool h) (fun h13 => ?_) (fun h13 => ?_)
                · skip
                  try simp only [decide_eq_true_eq, decide_eq_false_iff_not, Bool.and_eq_true, Bool.or_eq_true, Bool.not_eq_true', Bool.not_eq_false', Bool.and_eq_false_iff, Bool.or_eq_false_iff, Bool.not_not, Bool.not_true, Bool.not_false, ne_eq, Classical.not_not, Decidable.not_not] at h13
                  refine SC.seq ?_
                  refine SC.region ?_
                  refine SL.op (OpT.plain rfl (OpOk.move (Typ.tmp rfl))) rfl rfl ?_
                  refine SL.op (OpT.plain rfl (OpOk.call Tryz.call34 Typ.fn (Typs.cons (Typ.tmp rfl) (Typs.cons Typ.cint Typs.nil)) (s_innkeepref04_at _ _))) rfl rfl ?_
                  refine SL.op (OpT.plain rfl (OpOk.fieldAddrOwn fldR_29_2 (Typ.tmp rfl))) rfl rfl ?_
                  refine SL.opW (OpW.storeOwn ty_3 CmdR.l_item (i := 1) rfl rfl (Typ.tmp rfl) (Typ.tmp rfl)) ?_
                  refine SL.nil ?_
                  refine SK.code ?_
                  refine SC.region ?_
                  refine SL.op (OpT.plain rfl (OpOk.move (Typ.tmp rfl))) rfl rfl ?_
                  refine SL.op (OpT.plain rfl (OpOk.call Tryz.call34 Typ.fn (Typs.cons (Typ.tmp rfl) (Typs.cons Typ.cint Typs.nil)) (s_innkeepref04_at _ _))) rfl rfl ?_
                  refine SL.op (OpT.plain rfl (OpOk.fieldAddrOwn fldR_29_3 (Typ.tmp rfl))) rfl rfl ?_
                  refine SL.opW (OpW.storeOwn ty_3 CmdR.l_box (i := 1) rfl rfl (Typ.tmp rfl) (Typ.tmp rfl)) ?_
                  refine SL.nil ?_
                  refine SK.blk ?_
                  refine SK.metK ((((({ kind := (kindOf (nth (words s) 0)).1 } : Cmd)).s_item (atR (words s) 1)).s_box (atR (words s) 3), .slice none 0 0, .slice none 0 0)) (by first | (rw [trade_is hd1 p1 hd2 r1]; simp [fillR, *]; done) | (simp [fillR, *, Cmd.s_dir, Cmd.s_who, Cmd.s_item, Cmd.s_box]; done)) rfl rfl Subs.nil
                · skip
                  try simp only [decide_eq_true_eq, decide_eq_false_iff_not, Bool.and_eq_true, Bool.or_eq_true, Bool.not_eq_true', Bool.not_eq_false', Bool.and_eq_false_iff, Bool.or_eq_false_iff, Bool.not_not, Bool.not_true, Bool.not_false, ne_eq, Classical.not_not, Decidable.not_not] at h13
                  refine SC.seq ?_
                  refine SC.region ?_
                  refine SL.op (OpT.plain rfl (OpOk.eql (Typ.tmp rfl) Typ.cint)) rfl rfl ?_
                  refine SL.op (OpT.plain rfl (OpOk.assign (Typ.tmp rfl))) rfl rfl ?_
                  refine SL.nil ?_
                  refine SK.code ?_
                  refine SC.cond rfl (fun _ _ h => V_bool h) (fun h14 => ?_) (fun h14 => ?_)
                  · skip
                    try simp only [decide_eq_true_eq, decide_eq_false_iff_not, Bool.and_eq_true, Bool.or_eq_true, Bool.not_eq_true', Bool.not_eq_false', Bool.and_eq_false_iff, Bool.or_eq_false_iff, Bool.not_not, Bool.not_true, Bool.not_false, ne_eq, Classical.not_not, Decidable.not_not] at h14
                    refine SC.seq ?_
                    refine SC.region ?_
                    refine SL.op (OpT.plain rfl (OpOk.move (Typ.tmp rfl))) rfl rfl ?_
                    refine SL.op (OpT.plain rfl (OpOk.call Tryz.call34 Typ.fn (Typs.cons (Typ.tmp rfl) (Typs.cons Typ.cint Typs.nil)) (s_innkeepref04_at _ _))) rfl rfl ?_
                    refine SL.op (OpT.plain rfl (OpOk.fieldAddrOwn fldR_29_2 (Typ.tmp rfl))) rfl rfl ?_
                    refine SL.opW (OpW.storeOwn ty_3 CmdR.l_item (i := 1) rfl rfl (Typ.tmp rfl) (Typ.tmp rfl)) ?_
                    refine SL.nil ?_
                    refine SK.code ?_
                    refine SC.region ?_
                    refine SL.op (OpT.plain rfl (OpOk.move (Typ.tmp rfl))) rfl rfl ?_
                    refine SL.op (OpT.plain rfl (OpOk.call Tryz.call34 Typ.fn (Typs.cons (Typ.tmp rfl) (Typs.cons Typ.cint Typs.nil)) (s_innkeepref04_at _ _))) rfl rfl ?_
                    refine SL.op (OpT.plain rfl (OpOk.fieldAddrOwn fldR_29_4 (Typ.tmp rfl))) rfl rfl ?_
                    refine SL.opW (OpW.storeOwn ty_3 CmdR.l_who (i := 1) rfl rfl (Typ.tmp rfl) (Typ.tmp rfl)) ?_
                    refine SL.nil ?_
                    refine SK.blk ?_
                    refine SK.metK ((((({ kind := (kindOf (nth (words s) 0)).1 } : Cmd)).s_item (atR (words s) 1)).s_who (atR (words s) 3), .slice none 0 0, .slice none 0 0)) (by first | (rw [trade_is hd1 p1 hd2 r1]; simp [fillR, *]; done) | (simp [fillR, *, Cmd.s_dir, Cmd.s_who, Cmd.s_item, Cmd.s_box]; done)) rfl rfl Subs.nil
                  · skip
                    try simp only [decide_eq_true_eq, decide_eq_false_iff_not, Bool.and_eq_true, Bool.or_eq_true, Bool.not_eq_true', Bool.not_eq_false', Bool.and_eq_false_iff, Bool.or_eq_false_iff, Bool.not_not, Bool.not_true, Bool.not_false, ne_eq, Classical.not_not, Decidable.not_not] at h14
                    refine SC.seq ?_
                    refine SC.region ?_
                    refine SL.op (OpT.plain rfl (OpOk.eql (Typ.tmp rfl) Typ.cint)) rfl rfl ?_
                    refine SL.op (OpT.plain rfl (OpOk.assign (Typ.tmp rfl))) rfl rfl ?_
                    refine SL.nil ?_
                    refine SK.code ?_
                    refine SC.cond rfl (fun _ _ h => V_bool h) (fun h15 => ?_) (fun h15 => ?_)
                    · skip
                      try simp only [decide_eq_true_eq, decide_eq_false_iff_not, Bool.and_eq_true, Bool.or_eq_true, Bool.not_eq_true', Bool.not_eq_false', Bool.and_eq_false_iff, Bool.or_eq_false_iff, Bool.not_not, Bool.not_true, Bool.not_false, ne_eq, Classical.not_not, Decidable.not_not] at h15
                      refine SC.seq ?_
                      refine SC.region ?_
                      refine SL.op (OpT.plain rfl (OpOk.move (Typ.tmp rfl))) rfl rfl ?_
                      refine SL.op (OpT.plain rfl (OpOk.call Tryz.call34 Typ.fn (Typs.cons (Typ.tmp rfl) (Typs.cons Typ.cint Typs.nil)) (s_innkeepref04_at _ _))) rfl rfl ?_
                      refine SL.op (OpT.plain rfl (OpOk.fieldAddrOwn fldR_29_4 (Typ.tmp rfl))) rfl rfl ?_
                      refine SL.opW (OpW.storeOwn ty_3 CmdR.l_who (i := 1) rfl rfl (Typ.tmp rfl) (Typ.tmp rfl)) ?_
                      refine SL.nil ?_
                      refine SK.code ?_
                      refine SC.seq ?_
                      refine SC.region ?_
                      refine SL.op (OpT.plain rfl (OpOk.assign Typ.cint)) rfl rfl ?_
                      refine SL.nil ?_
                      refine SK.code ?_
                      refine SC.seq ?_
                      refine SC.block ?_
                      refine SC.loopK (σ := Nat × List Int × Value) [2, 3, 4, 5, 7] (fun st => [(8, V (st.1 : Int))]) (fun st Δ => [Own.var b1 29 ({} : Cmd)] ++ cmdOwn 29 3 b3 (((({ kind := (kindOf (nth (words s) 0)).1 } : Cmd)).s_who (atR (words s) 1)).s_gives st.2.1) st.2.2 (.slice none 0 0)) (fun st => (words s).length - st.1) (fun st => ScanInv (words s) (3) st.1 st.2.1) ((3, [], .slice none 0 0)) (ScanInv.zero _ _) rfl (Subs.eq rfl (by first | rfl | omega | (simp; done) | (simp_all; done) | (simp_all; omega)) Subs.nil) (fun st hs => ?_)
                      obtain ⟨i, acc, v⟩ := st
                      dsimp only at hs ⊢
                      have p1 := hs.le
                      have p2 := hs.len
                      have p3 := hs.up
                      refine SC.seq ?_
                      refine SC.seq ?_
                      refine SC.region ?_
                      refine SL.op (OpT.plain rfl (OpOk.move (Typ.tmp rfl))) rfl rfl ?_
                      refine SL.op (OpT.plain rfl (OpOk.move (Typ.tmp rfl))) rfl rfl ?_
                      refine SL.op (OpT.plain rfl (OpOk.lenList Tryz.underlying22 (Typ.tmp rfl))) rfl rfl ?_
                      refine SL.op (OpT.plain rfl (OpOk.lss (Typ.tmp rfl) (Typ.tmp rfl))) rfl rfl ?_
                      refine SL.op (OpT.plain rfl (OpOk.move (Typ.tmp rfl))) rfl rfl ?_
                      refine SL.op (OpT.guard rfl rfl rfl (fun _ _ h => V_bool h) (fun hg => OpOk.move (Typ.tmp rfl))) rfl rfl ?_
                      refine SL.op (OpT.guard rfl rfl rfl (fun _ _ h => V_bool h) (fun hg => OpOk.move (Typ.tmp rfl))) rfl rfl ?_
                      refine SL.op (OpT.guard rfl rfl rfl (fun _ _ h => V_bool h) (fun hg => OpOk.indexAddr Tryz.underlying22 ty_9 (Typ.cond hg rfl) (Typ.cond hg rfl) (by first | omega | (simp only [decide_eq_true_eq, decide_eq_false_iff_not] at *; omega) | (simp at *; omega)) (by first | omega | (simp only [decide_eq_true_eq, decide_eq_false_iff_not] at *; omega) | (simp at *; omega)))) rfl rfl ?_
                      refine SL.op (OpT.guard rfl rfl rfl (fun _ _ h => V_bool h) (fun hg => OpOk.loadRef ty_9 (Typ.cond hg rfl))) rfl rfl ?_
                      refine SL.op (OpT.guard rfl rfl rfl (fun _ _ h => V_bool h) (fun hg => OpOk.neqS (Typ.cond hg rfl) (Typ.cstr (l := [99, 111, 105, 110, 115])))) rfl rfl ?_
                      refine SL.op (OpT.plain rfl (OpOk.pickAnd (Typ.tmp rfl) (fun hb => Typ.cond hb rfl))) rfl rfl ?_
                      refine SL.nil ?_
                      refine SK.code ?_
                      refine SC.cond rfl (fun _ _ h => V_bool h) (fun h16 => ?_) (fun h16 => ?_)
                      · skip
                        try simp only [decide_eq_true_eq, decide_eq_false_iff_not, Bool.and_eq_true, Bool.or_eq_true, Bool.not_eq_true', Bool.not_eq_false', Bool.and_eq_false_iff, Bool.or_eq_false_iff, Bool.not_not, Bool.not_true, Bool.not_false, ne_eq, Classical.not_not, Decidable.not_not] at h16
                        refine SC.skip ?_
                        refine SK.code ?_
                        refine SC.block ?_
                        refine SC.seq ?_
                        refine DR.start ?_
                        refine DR.op (fun _ => (OpT.plain rfl (OpOk.fieldAddrOwn fldR_29_5 (Typ.tmp rfl)))) rfl rfl ?_
                        refine DR.opR (OpT.plain rfl (OpOk.loadOwn tyr CmdR.l_gives (k := 1) rfl rfl (Typ.tmp rfl))) rfl rfl ?_
                        refine DR.op (fun _ => (OpT.plain rfl (OpOk.move (Typ.tmp rfl)))) rfl rfl ?_
                        refine DR.op (fun _ => (OpT.plain rfl (OpOk.move (Typ.tmp rfl)))) rfl rfl ?_
                        refine DR.op (fun _ => (OpT.plain rfl (OpOk.call Tryz.call34 Typ.fn (Typs.cons (Typ.tmp rfl) (Typs.cons (Typ.tmp rfl) Typs.nil)) (s_innkeepref04_at _ _)))) rfl rfl ?_
                        refine DR.op (fun _ => (OpT.plain rfl (OpOk.buildSlice lit_27_1 (parts := [(0, Operand.tmp 97)]) rfl (TypL.cons (Typ.tmp rfl) TypL.nil)))) rfl rfl ?_
                        refine DR.tail rfl (by decide +kernel) (show dstBelow _ 148 = true by decide +kernel) rfl ?_
                        obtain ⟨by_, hby, htyi⟩ := tyi_27
                        refine SL.append Tryz.underlying27 htyi (i := 2) rfl (Typ.raw rfl) (Typ.tmp rfl) (by simp) ?_ ?_ rfl fun v17 => ?_
                        · exact (by refine Nat.le_trans (Nat.mul_le_mul (Nat.le_refl _) hby) ?_; first | omega | (simp; done) | (simp; omega) | (simp only [Cmd.s_kind, Cmd.s_dir, Cmd.s_item, Cmd.s_box, Cmd.s_who, Cmd.s_gives, Cmd.s_pay, Cmd.s_wants, Cmd.s_fee]; simp; omega) | (simp at *; omega))
                        · exact (by unfold maxLen; first | omega | (simp; done) | (simp; omega) | (simp only [Cmd.s_kind, Cmd.s_dir, Cmd.s_item, Cmd.s_box, Cmd.s_who, Cmd.s_gives, Cmd.s_pay, Cmd.s_wants, Cmd.s_fee]; simp; omega) | (simp at *; omega))
                        clear htyi hby
                        refine SL.op (OpT.plain rfl (OpOk.fieldAddrOwn fldR_29_5 (Typ.tmp rfl))) rfl rfl ?_
                        refine SL.learnRow (i := 2) rfl fun hone => ?_
                        refine SL.opW (OpW.storeOwn tyr CmdR.l_gives (i := 1) rfl rfl (Typ.tmp rfl) (Typ.toRaw hone rfl)) ?_
                        refine SL.nil ?_
                        refine SK.code ?_
                        refine SC.region ?_
                        refine SL.op (OpT.plain rfl (OpOk.move (Typ.tmp rfl))) rfl rfl ?_
                        refine SL.op (OpT.plain rfl (OpOk.add (Typ.tmp rfl) Typ.cint (by unfold in64; first | omega | (simp at *; omega)))) rfl rfl ?_
                        refine SL.op (OpT.plain rfl (OpOk.assign (Typ.tmp rfl))) rfl rfl ?_
                        refine SL.nil ?_
                        refine SK.blk ?_
                        refine SK.roundK ((i + 1, acc ++ [atR (words s) (i : Int)], v17)) (by simp only; omega) (hs.step (by assumption)) rfl rfl (Subs.eq rfl (by first | rfl | omega | (simp; done) | (simp_all; done) | (simp_all; omega)) Subs.nil)
                      · skip
                        try simp only [decide_eq_true_eq, decide_eq_false_iff_not, Bool.and_eq_true, Bool.or_eq_true, Bool.not_eq_true', Bool.not_eq_false', Bool.and_eq_false_iff, Bool.or_eq_false_iff, Bool.not_not, Bool.not_true, Bool.not_false, ne_eq, Classical.not_not, Decidable.not_not] at h16
                        refine SC.exit rfl ?_
                        refine SK.code ?_
                        refine SC.seq ?_
                        have hd1 := hs.done (by unfold coins; assumption)
                        refine SC.region ?_
                        refine SL.op (OpT.plain rfl (OpOk.move (Typ.tmp rfl))) rfl rfl ?_
                        refine SL.op (OpT.plain rfl (OpOk.move (Typ.tmp rfl))) rfl rfl ?_
                        refine SL.op (OpT.plain rfl (OpOk.add (Typ.tmp rfl) Typ.cint (by unfold in64; first | omega | (simp at *; omega)))) rfl rfl ?_
                        refine SL.op (OpT.plain rfl (OpOk.call Tryz.call34 Typ.fn (Typs.cons (Typ.tmp rfl) (Typs.cons (Typ.tmp rfl) Typs.nil)) (s_innkeepref04_at _ _))) rfl rfl ?_
                        refine SL.op (OpT.plain rfl (OpOk.fieldAddrOwn fldR_29_6 (Typ.tmp rfl))) rfl rfl ?_
                        refine SL.opW (OpW.storeOwn ty_3 CmdR.l_pay (i := 1) rfl rfl (Typ.tmp rfl) (Typ.tmp rfl)) ?_
                        refine SL.nil ?_
                        refine SK.code ?_
                        refine SC.seq ?_
                        refine SC.region ?_
                        refine SL.op (OpT.plain rfl (OpOk.move (Typ.tmp rfl))) rfl rfl ?_
                        refine SL.op (OpT.plain rfl (OpOk.add (Typ.tmp rfl) Typ.cint (by unfold in64; first | omega | (simp at *; omega)))) rfl rfl ?_
                        refine SL.op (OpT.plain rfl (OpOk.assign (Typ.tmp rfl))) rfl rfl ?_
                        refine SL.nil ?_
                        refine SK.code ?_
                        refine SC.seq ?_
                        refine SC.block ?_
                        refine SC.loopK (σ := Nat × List Int × Value) [2, 3, 4, 5, 7] (fun st => [(8, V (st.1 : Int))]) (fun st Δ => [Own.var b1 29 ({} : Cmd)] ++ cmdOwn 29 3 b3 (((((({ kind := (kindOf (nth (words s) 0)).1 } : Cmd)).s_who (atR (words s) 1)).s_gives acc).s_pay (atR (words s) ((i : Int) + 1))).s_wants st.2.1) v st.2.2) (fun st => (words s).length - st.1) (fun st => ScanInv (words s) (i + 3) st.1 st.2.1) ((i + 3, [], .slice none 0 0)) (ScanInv.zero _ _) rfl (Subs.eq rfl (by first | rfl | omega | (simp; done) | (simp_all; done) | (simp_all; omega)) Subs.nil) (fun st hq => ?_)
                        obtain ⟨j, acw, u⟩ := st
                        dsimp only at hq ⊢
                        have r1 := hq.le
                        have r2 := hq.len
                        have r3 := hq.up
                        refine SC.seq ?_
                        refine SC.seq ?_
                        refine SC.region ?_
                        refine SL.op (OpT.plain rfl (OpOk.move (Typ.tmp rfl))) rfl rfl ?_
                        refine SL.op (OpT.plain rfl (OpOk.move (Typ.tmp rfl))) rfl rfl ?_
                        refine SL.op (OpT.plain rfl (OpOk.lenList Tryz.underlying22 (Typ.tmp rfl))) rfl rfl ?_
                        refine SL.op (OpT.plain rfl (OpOk.lss (Typ.tmp rfl) (Typ.tmp rfl))) rfl rfl ?_
                        refine SL.op (OpT.plain rfl (OpOk.move (Typ.tmp rfl))) rfl rfl ?_
                        refine SL.op (OpT.guard rfl rfl rfl (fun _ _ h => V_bool h) (fun hg => OpOk.move (Typ.tmp rfl))) rfl rfl ?_
                        refine SL.op (OpT.guard rfl rfl rfl (fun _ _ h => V_bool h) (fun hg => OpOk.move (Typ.tmp rfl))) rfl rfl ?_
                        refine SL.op (OpT.guard rfl rfl rfl (fun _ _ h => V_bool h) (fun hg => OpOk.indexAddr Tryz.underlying22 ty_9 (Typ.cond hg rfl) (Typ.cond hg rfl) (by first | omega | (simp only [decide_eq_true_eq, decide_eq_false_iff_not] at *; omega) | (simp at *; omega)) (by first | omega | (simp only [decide_eq_true_eq, decide_eq_false_iff_not] at *; omega) | (simp at *; omega)))) rfl rfl ?_
                        refine SL.op (OpT.guard rfl rfl rfl (fun _ _ h => V_bool h) (fun hg => OpOk.loadRef ty_9 (Typ.cond hg rfl))) rfl rfl ?_
                        refine SL.op (OpT.guard rfl rfl rfl (fun _ _ h => V_bool h) (fun hg => OpOk.neqS (Typ.cond hg rfl) (Typ.cstr (l := [99, 111, 105, 110, 115])))) rfl rfl ?_
                        refine SL.op (OpT.plain rfl (OpOk.pickAnd (Typ.tmp rfl) (fun hb => Typ.cond hb rfl))) rfl rfl ?_
                        refine SL.nil ?_
                        refine SK.code ?_
                        refine SC.cond rfl (fun _ _ h => V_bool h) (fun h18 => ?_) (fun h18 => ?_)
                        · skip
                          try simp only [decide_eq_true_eq, decide_eq_false_iff_not, Bool.and_eq_true, Bool.or_eq_true, Bool.not_eq_true', Bool.not_eq_false', Bool.and_eq_false_iff, Bool.or_eq_false_iff, Bool.not_not, Bool.not_true, Bool.not_false, ne_eq, Classical.not_not, Decidable.not_not] at h18
                          refine SC.skip ?_
                          refine SK.code ?_
                          refine SC.block ?_
                          refine SC.seq ?_
                          refine DR.start ?_
                          refine DR.op (fun _ => (OpT.plain rfl (OpOk.fieldAddrOwn fldR_29_7 (Typ.tmp rfl)))) rfl rfl ?_
                          refine DR.opR (OpT.plain rfl (OpOk.loadOwn tyr CmdR.l_wants (k := 1) rfl rfl (Typ.tmp rfl))) rfl rfl ?_
                          refine DR.op (fun _ => (OpT.plain rfl (OpOk.move (Typ.tmp rfl)))) rfl rfl ?_
                          refine DR.op (fun _ => (OpT.plain rfl (OpOk.move (Typ.tmp rfl)))) rfl rfl ?_
                          refine DR.op (fun _ => (OpT.plain rfl (OpOk.call Tryz.call34 Typ.fn (Typs.cons (Typ.tmp rfl) (Typs.cons (Typ.tmp rfl) Typs.nil)) (s_innkeepref04_at _ _)))) rfl rfl ?_
                          refine DR.op (fun _ => (OpT.plain rfl (OpOk.buildSlice lit_27_1 (parts := [(0, Operand.tmp 125)]) rfl (TypL.cons (Typ.tmp rfl) TypL.nil)))) rfl rfl ?_
                          refine DR.tail rfl (by decide +kernel) (show dstBelow _ 148 = true by decide +kernel) rfl ?_
                          obtain ⟨by_, hby, htyi⟩ := tyi_27
                          refine SL.append Tryz.underlying27 htyi (i := 3) rfl (Typ.raw rfl) (Typ.tmp rfl) (by simp) ?_ ?_ rfl fun v19 => ?_
                          · exact (by refine Nat.le_trans (Nat.mul_le_mul (Nat.le_refl _) hby) ?_; first | omega | (simp; done) | (simp; omega) | (simp only [Cmd.s_kind, Cmd.s_dir, Cmd.s_item, Cmd.s_box, Cmd.s_who, Cmd.s_gives, Cmd.s_pay, Cmd.s_wants, Cmd.s_fee]; simp; omega) | (simp at *; omega))
                          · exact (by unfold maxLen; first | omega | (simp; done) | (simp; omega) | (simp only [Cmd.s_kind, Cmd.s_dir, Cmd.s_item, Cmd.s_box, Cmd.s_who, Cmd.s_gives, Cmd.s_pay, Cmd.s_wants, Cmd.s_fee]; simp; omega) | (simp at *; omega))
                          clear htyi hby
                          refine SL.op (OpT.plain rfl (OpOk.fieldAddrOwn fldR_29_7 (Typ.tmp rfl))) rfl rfl ?_
                          refine SL.learnRow (i := 3) rfl fun hone => ?_
                          refine SL.opW (OpW.storeOwn tyr CmdR.l_wants (i := 1) rfl rfl (Typ.tmp rfl) (Typ.toRaw hone rfl)) ?_
                          refine SL.nil ?_
                          refine SK.code ?_
                          refine SC.region ?_
                          refine SL.op (OpT.plain rfl (OpOk.move (Typ.tmp rfl))) rfl rfl ?_
                          refine SL.op (OpT.plain rfl (OpOk.add (Typ.tmp rfl) Typ.cint (by unfold in64; first | omega | (simp at *; omega)))) rfl rfl ?_
                          refine SL.op (OpT.plain rfl (OpOk.assign (Typ.tmp rfl))) rfl rfl ?_
                          refine SL.nil ?_
                          refine SK.blk ?_
                          refine SK.roundK ((j + 1, acw ++ [atR (words s) (j : Int)], v19)) (by simp only; omega) (hq.step (by assumption)) rfl rfl (Subs.eq rfl (by first | rfl | omega | (simp; done) | (simp_all; done) | (simp_all; omega)) Subs.nil)
                        · skip
                          try simp only [decide_eq_true_eq, decide_eq_false_iff_not, Bool.and_eq_true, Bool.or_eq_true, Bool.not_eq_true', Bool.not_eq_false', Bool.and_eq_false_iff, Bool.or_eq_false_iff, Bool.not_not, Bool.not_true, Bool.not_false, ne_eq, Classical.not_not, Decidable.not_not] at h18
                          refine SC.exit rfl ?_
                          refine SK.code ?_
                          have hd2 := hq.done (by unfold coins; assumption)
                          refine SC.region ?_
                          refine SL.op (OpT.plain rfl (OpOk.move (Typ.tmp rfl))) rfl rfl ?_
                          refine SL.op (OpT.plain rfl (OpOk.move (Typ.tmp rfl))) rfl rfl ?_
                          refine SL.op (OpT.plain rfl (OpOk.add (Typ.tmp rfl) Typ.cint (by unfold in64; first | omega | (simp at *; omega)))) rfl rfl ?_
                          refine SL.op (OpT.plain rfl (OpOk.call Tryz.call34 Typ.fn (Typs.cons (Typ.tmp rfl) (Typs.cons (Typ.tmp rfl) Typs.nil)) (s_innkeepref04_at _ _))) rfl rfl ?_
                          refine SL.op (OpT.plain rfl (OpOk.fieldAddrOwn fldR_29_8 (Typ.tmp rfl))) rfl rfl ?_
                          refine SL.opW (OpW.storeOwn ty_3 CmdR.l_fee (i := 1) rfl rfl (Typ.tmp rfl) (Typ.tmp rfl)) ?_
                          refine SL.nil ?_
                          refine SK.blk ?_
                          refine SK.metK (((((((({ kind := (kindOf (nth (words s) 0)).1 } : Cmd)).s_who (atR (words s) 1)).s_gives acc).s_pay (atR (words s) ((i : Int) + 1))).s_wants acw).s_fee (atR (words s) ((j : Int) + 1)), v, u)) (by first | (rw [trade_is hd1 p1 hd2 r1]; simp [fillR, *]; done) | (simp [fillR, *, Cmd.s_dir, Cmd.s_who, Cmd.s_item, Cmd.s_box]; done)) rfl rfl Subs.nil
                    · skip
                      try simp only [decide_eq_true_eq, decide_eq_false_iff_not, Bool.and_eq_true, Bool.or_eq_true, Bool.not_eq_true', Bool.not_eq_false', Bool.and_eq_false_iff, Bool.or_eq_false_iff, Bool.not_not, Bool.not_true, Bool.not_false, ne_eq, Classical.not_not, Decidable.not_not] at h15
                      refine SC.skip ?_
                      refine SK.blk ?_
                      refine SK.metK ((({ kind := (kindOf (nth (words s) 0)).1 } : Cmd), .slice none 0 0, .slice none 0 0)) (by first | (rw [trade_is hd1 p1 hd2 r1]; simp [fillR, *]; done) | (simp [fillR, *, Cmd.s_dir, Cmd.s_who, Cmd.s_item, Cmd.s_box]; done)) rfl rfl Subs.nil
    obtain ⟨c, v1, v2⟩ := st
    dsimp only at hc ⊢
    subst hc
    refine SC.seq ?_
    refine SC.seq ?_
    refine SC.cmdDone [_] rfl ?_
    refine SC.region ?_
    refine SL.op (OpT.plain rfl (OpOk.loadOwn ty_29 (Lens.id _) (k := 1) rfl rfl (Typ.tmp rfl))) rfl rfl ?_
    refine SL.op (OpT.plain rfl (OpOk.call Tryz.call26 Typ.fn (Typs.cons (Typ.tmp rfl) Typs.nil) (s_innkeepref03_May _))) rfl rfl ?_
    refine SL.op (OpT.plain rfl (OpOk.not (Typ.tmp rfl))) rfl rfl ?_
    refine SL.op (OpT.plain rfl (OpOk.move (Typ.tmp rfl))) rfl rfl ?_
    refine SL.op (OpT.guard rfl rfl rfl (fun _ _ h => V_bool h) (fun hg => OpOk.loadOwn ty_29 (Lens.id _) (k := 1) rfl rfl (Typ.tmp rfl))) rfl rfl ?_
    refine SL.op (OpT.guard rfl rfl rfl (fun _ _ h => V_bool h) (fun hg => OpOk.call Tryz.call36 Typ.fn (Typs.cons (Typ.cond hg rfl) Typs.nil) (s_innkeepref04_Words _ (by simpa using hg)))) rfl rfl ?_
    refine SL.op (OpT.guard rfl rfl rfl (fun _ _ h => V_bool h) (fun hg => OpOk.move (Typ.tmp rfl))) rfl rfl ?_
    refine SL.op (OpT.guard rfl rfl rfl (fun _ _ h => V_bool h) (fun hg => OpOk.call Tryz.call35 Typ.fn (Typs.cons (Typ.cond hg rfl) (Typs.cons (Typ.cond hg rfl) Typs.nil)) (s_innkeepref02_Same _ _))) rfl rfl ?_
    refine SL.op (OpT.guard rfl rfl rfl (fun _ _ h => V_bool h) (fun hg => OpOk.not (Typ.cond hg rfl))) rfl rfl ?_
    refine SL.op (OpT.plain rfl (OpOk.pickOr (Typ.tmp rfl) (fun hb => Typ.cond hb rfl))) rfl rfl ?_
    refine SL.nil ?_
    refine SK.code ?_
    refine SC.cond rfl (fun _ _ h => V_bool h) (fun h20 => ?_) (fun h20 => ?_)
    · skip
      try simp only [decide_eq_true_eq, decide_eq_false_iff_not, Bool.and_eq_true, Bool.or_eq_true, Bool.not_eq_true', Bool.not_eq_false', Bool.and_eq_false_iff, Bool.or_eq_false_iff, Bool.not_not, Bool.not_true, Bool.not_false, ne_eq, Classical.not_not, Decidable.not_not] at h20
      refine SC.seq ?_
      refine SC.region ?_
      refine SL.op (OpT.plain rfl (OpOk.build tys_29 Parts.nil)) rfl rfl ?_
      refine SL.opW (OpW.storeOwn ty_29 (Lens.id _) (i := 0) rfl rfl (Typ.tmp rfl) (Typ.tmp rfl)) ?_
      refine SL.op (OpT.plain rfl (OpOk.assign Typ.cint)) rfl rfl ?_
      refine SL.nil ?_
      refine SK.code ?_
      refine SC.ret ?_
      exact SR.two rfl (ResT.own ty_29 rfl (k := 0) rfl (by first | (rw [getR_nil (by assumption)]) | (rw [getR_ok (by assumption) (by assumption)]) | (rw [getR_no (by assumption) (by assumption)]) | rfl | (simp_all []; done) | (simp_all []; rfl) | (simp_all []; omega))) (ResT.eq rfl (by first | (rw [getR_nil (by assumption)]) | (rw [getR_ok (by assumption) (by assumption)]) | (rw [getR_no (by assumption) (by assumption)]) | rfl | (simp_all []; done) | (simp_all []; rfl) | (simp_all []; omega)))
    · skip
      try simp only [decide_eq_true_eq, decide_eq_false_iff_not, Bool.and_eq_true, Bool.or_eq_true, Bool.not_eq_true', Bool.not_eq_false', Bool.and_eq_false_iff, Bool.or_eq_false_iff, Bool.not_not, Bool.not_true, Bool.not_false, ne_eq, Classical.not_not, Decidable.not_not] at h20
      refine SC.skip ?_
      refine SK.code ?_
      refine SC.seq ?_
      refine SC.region ?_
      refine SL.op (OpT.plain rfl (OpOk.loadOwn ty_29 (Lens.id _) (k := 1) rfl rfl (Typ.tmp rfl))) rfl rfl ?_
      refine SL.opW (OpW.storeOwn ty_29 (Lens.id _) (i := 0) rfl rfl (Typ.tmp rfl) (Typ.tmp rfl)) ?_
      refine SL.op (OpT.plain rfl (OpOk.assign Typ.cint)) rfl rfl ?_
      refine SL.nil ?_
      refine SK.code ?_
      refine SC.ret ?_
      exact SR.two rfl (ResT.own ty_29 rfl (k := 0) rfl (by first | (rw [getR_nil (by assumption)]) | (rw [getR_ok (by assumption) (by assumption)]) | (rw [getR_no (by assumption) (by assumption)]) | rfl | (simp_all []; done) | (simp_all []; rfl) | (simp_all []; omega))) (ResT.eq rfl (by first | (rw [getR_nil (by assumption)]) | (rw [getR_ok (by assumption) (by assumption)]) | (rw [getR_no (by assumption) (by assumption)]) | rfl | (simp_all []; done) | (simp_all []; rfl) | (simp_all []; omega)))
end Go.Proofs.YtgnblhmejecgfaaGreatDoor
