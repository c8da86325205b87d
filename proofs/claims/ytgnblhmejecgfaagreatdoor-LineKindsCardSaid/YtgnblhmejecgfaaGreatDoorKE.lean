/- More rules: an append of what may be nothing; a fresh row with room; the words of a map's literal in whatever order, one at a time. No program in it. -/
import Derived.Test.YtgnblhmejecgfaaGreatDoorKD
set_option linter.all false
namespace Go.Inn
open Go Go.RowKit
theorem run_append_empty {P : Program} {w : World} (base : Nat) (t ty e : TypeId) (i : TypeInfo) (size : Nat) (ht : P.underlying t = some (.slice e)) (hi : P.info? e = some i)
    (v : Value) (n : Nat) (xs : List Value) (hown : w.ownsRow base e size v n xs) (A : Option Addr) (cap : Nat) :
    (Builtin.append_ #[t, t] ty #[v, .slice A 0 cap]).run P w = .ok v w := by
  rcases hown.2 with ⟨rfl, rfl⟩ | ⟨g, cap, cur, rfl, _, _, hnc, _⟩
  · cases A <;> simp [Builtin.append_, run_underlying ht, sizeOf, typeInfo, hi, Builtin.lenOf, Builtin.firstCells, loadCells, loadCellsFrom]
  · cases A <;> simp [Builtin.append_, run_underlying ht, sizeOf, typeInfo, hi, Builtin.lenOf, Builtin.firstCells, hnc, storeCells, loadCells, loadCellsFrom]
section
variable {P : Program} {C : Cx} {Γ : Env} {Δ : List Own} {ks : List KI} {ops : Array Oper} {rest : List Oper} {ty : TypeId} {pos : String} {aft : Array Edge}
theorem SL.appendAny {d : Nat} {t e : TypeId} {x y : Operand} {α : Type} [Rep α] {bytes : Nat} {v : Value} {xs ys : List α} {i : Nat} (ht : P.underlying t = some (.slice e)) (he : TyI P e α bytes) (hi : Δ[i]? = some (Own.row v e xs))
    (hx : Typ C.I Γ x (.eq v)) (hy : Typ C.I Γ y (V ys)) (hb : (xs.length + ys.length) * bytes ≤ 140737488355328) (hm : xs.length + ys.length ≤ maxLen) (hN : Nat.ble (d + 1) C.N = true)
    (k : ∀ v', SL P C ((d, .eq v') :: Γ) (Δ.set i (Own.row v' e (xs ++ ys))) ops rest ks) :
    SL P C Γ Δ ops (⟨some d, .call { callee := .builtin .append, args := #[x, y], argTypes := #[t, t] }, ty, pos, aft, none⟩ :: rest) ks := by
  by_cases hne : ys = []
  · subst hne
    intro m a w st
    refine wpList_plain rfl fun K hK => ?_
    have hlk := Look.of (a := a) st.env (.call { callee := .builtin .append, args := #[x, y], argTypes := #[t, t] })
    have ex : a.eval x = v := hx.at st.glob hlk (by simp [Op.operands, Call.operands])
    obtain ⟨A, cap, ey, _, _, _⟩ := V_list (hy.at st.glob hlk (by simp [Op.operands, Call.operands]))
    obtain ⟨cs, hcs, hown⟩ := st.held.row hi
    obtain ⟨ii, z, i1, i2, i3, i4, i5⟩ := he.get
    have hrun := run_append_empty (P := P) (w := w) 0 t ty e ii (Rep.n α) ht i1 v xs.length cs hown A cap
    have hrun' : (execOp a.eval ⟨some d, .call { callee := .builtin .append, args := #[x, y], argTypes := #[t, t] }, ty, pos, aft, none⟩).run P w = .ok (.value v) w := by
      have ey' : a.eval y = .slice A 0 cap := ey
      simp [execOp, resolve, invoke, builtin, ex, ey', hrun]
    unfold Oper.wp
    rw [hrun']
    have hset : Δ.set i (Own.row v e (xs ++ [])) = Δ := by
      rw [List.append_nil]
      refine List.ext_getElem? fun j => ?_
      rw [List.getElem?_set]
      split
      · rename_i hj; subst hj; split
        · exact hi.symm
        · rename_i hlt; exact (List.getElem?_eq_none (by omega)).symm
      · rfl
    have kk := k v
    rw [hset] at kk
    exact hK _ _ (kk m _ _ (st.put (Nat.le_of_ble_eq_true hN) rfl))
  · exact SL.append ht he hi hx hy hne hb hm hN k
/-- a call that hands back a fresh row of nothing, with room -/
def Grows (P : Program) (f : FuncId) (e : TypeId) (size : Nat) (n : Nat) : Prop := ∀ w : World, Calls P f #[.slice none 0 0, .int .i64 n] w fun x w' => ∃ v, x = .returned v ∧
  ((v = .slice none 0 0 ∧ w' = w) ∨ ∃ cap cur, v = .slice (some ⟨w.heap.size, 0, none⟩) 0 cap ∧ w' = w.drew.alloc (.cells cur e) ∧ cap ≤ maxLen ∧ cur.size = cap * size)
theorem SL.growRow {d : Nat} {f : FuncId} {callee y : Operand} {tys : Array TypeId} {e : TypeId} (α : Type) [Rep α] {n : Nat} (hf : Typ C.I Γ callee (.clo f [])) (hc : ∀ (args : Array Value) (w : World), (callFunc f args).run P w = .ok (.enter f args) w)
    (hG : Grows P f e (Rep.n α) n) (hy : Typ C.I Γ y (V (n : Int))) (hN : Nat.ble (d + 1) C.N = true) (k : ∀ v, SL P C ((d, .eq v) :: Γ) (Δ ++ [Own.row v e ([] : List α)]) ops rest ks) :
    SL P C Γ Δ ops (⟨some d, .call { callee := .value callee, args := #[.const (.slice none 0 0), y], argTypes := tys }, ty, pos, aft, none⟩ :: rest) ks := by
  intro m a w st
  refine wpList_plain rfl fun K hK => ?_
  have hlk := Look.of (a := a) st.env (.call { callee := .value callee, args := #[.const (.slice none 0 0), y], argTypes := tys })
  obtain ⟨cs, ef, hcs⟩ := hf.at st.glob hlk (by simp [Op.operands, Call.operands])
  have ey := (V_int (hy.at st.glob hlk (by simp [Op.operands, Call.operands]))).1
  have hcs : cs = [] := by
    cases cs with
    | nil => rfl
    | cons _ _ => exact hcs.elim
  subst hcs
  have hrun : (execOp a.eval ⟨some d, .call { callee := .value callee, args := #[.const (.slice none 0 0), y], argTypes := tys }, ty, pos, aft, none⟩).run P w = .ok (.enter f #[.slice none 0 0, .int .i64 n]) w := by
    have e0 : a.eval (.const (.slice none 0 0)) = .slice none 0 0 := rfl
    simp [execOp, resolve, Deferred.ofValue, ef, invoke, hc, ey, e0]
  unfold Oper.wp
  rw [hrun, Oper.upon_enter]
  refine (hG w).mono ?_
  rintro x w' ⟨v, rfl, h⟩
  refine hK _ _ ?_
  rcases h with ⟨rfl, rfl⟩ | ⟨cap, cur, rfl, rfl, hcap, hcur⟩
  · exact k _ m _ _ (St.put { st with held := st.held.nilRow e } (Nat.le_of_ble_eq_true hN) rfl)
  · have st1 := st.grow (Grow.drew st.fits)
    have st2 := st1.own (o' := .cells cur e) (o := Own.row (.slice (some ⟨w.heap.size, 0, none⟩) 0 cap) e ([] : List α)) ⟨rfl, [], rfl, by simp, .inr ⟨w.heap.size, cap, cur, rfl, Nat.zero_le _, heap_alloc_at _ _, Nat.zero_le _, hcap, hcur, by simp⟩⟩
    exact k _ m _ _ (st2.put (Nat.le_of_ble_eq_true hN) rfl)
end
/-! the operations of a map's literal, one at a time -/
def DM (P : Program) (C : Cx) (Γ0 : Env) (Δ0 : List Own) (ops : Array Oper) (id : Nat) (ks : List KI) (i0 im d0 d1 : Nat) (t : TypeId) {α : Type} [Rep α] (i : Nat) (Γ : Env) (K : List (Nat × Int × α)) (_ : List Oper) : Prop :=
  DZ P C ops Γ0 i0 im d0 d1 t i Γ K → SC P C Γ0 Δ0 (.region id ops true) ks
section
variable {P : Program} {C : Cx} {Γ0 Γ : Env} {Δ0 : List Own} {ops : Array Oper} {id : Nat} {ks : List KI} {i i0 im d0 d1 : Nat} {t k0 e0 : TypeId} {α : Type} [Rep α] {K : List (Nat × Int × α)} {o : Oper} {rest : List Oper} {ty : TypeId} {pos : String} {aft : Array Edge}
theorem DM.start (α : Type) [Rep α] (i0 im d0 d1 : Nat) (t : TypeId) (h : DM P C Γ0 Δ0 ops id ks i0 im d0 d1 t (α := α) 0 Γ0 [] ops.toList) : SC P C Γ0 Δ0 (.region id ops true) ks := h .nil
theorem DM.op {d : Nat} {F : VP} (h : ∀ Δ, OpT P C.I C.Y Γ Δ ops o F) (ho : ops[i]? = some o) (hd : o.dst = some d) (hne : (d ≠ d0 ∧ d ≠ d1) ∧ i ≠ i0 ∧ i ≠ im) (k : DM P C Γ0 Δ0 ops id ks i0 im d0 d1 t (i + 1) ((d, F) :: Γ) K rest) : DM P C Γ0 Δ0 ops id ks i0 im d0 d1 t i Γ K (o :: rest) :=
  fun hT => k (.op hT ho hd hne h)
theorem DM.mk (ho : ops[i0]? = some ⟨some d0, .makeMap t none, ty, pos, aft, none⟩) (k : DM P C Γ0 Δ0 ops id ks i0 im d0 d1 t (i0 + 1) ((d0, .aMap) :: Γ) K rest) : DM P C Γ0 Δ0 ops id ks i0 im d0 d1 t i0 Γ K (⟨some d0, .makeMap t none, ty, pos, aft, none⟩ :: rest) :=
  fun hT => k (.mk hT ho)
theorem DM.mv (ho : ops[im]? = some ⟨some d1, .move (.tmp d0), ty, pos, aft, none⟩) (hdep : ∃ o, ops[im]? = some o ∧ i0 ∈ depsOf o) (k : DM P C Γ0 Δ0 ops id ks i0 im d0 d1 t (im + 1) ((d1, .aMap) :: Γ) K rest) : DM P C Γ0 Δ0 ops id ks i0 im d0 d1 t im Γ K (⟨some d1, .move (.tmp d0), ty, pos, aft, none⟩ :: rest) :=
  fun hT => k (.mv hT ho hdep)
theorem DM.ins {key : Int} {val : α} {y : Operand} (ho : ops[i]? = some ⟨none, .insert t (.tmp d0) (.const (.int .i64 key)) y, ty, pos, aft, none⟩) (hne : i ≠ i0 ∧ i ≠ im) (hdep : ∃ o, ops[i]? = some o ∧ i0 ∈ depsOf o) (hkey : in64 key) (hnew : ∀ e, e ∈ K → e.2.1 ≠ key) (hlt : ∀ e, e ∈ K → e.1 < i) (hy : Typ C.I Γ y (V val))
    (k : DM P C Γ0 Δ0 ops id ks i0 im d0 d1 t (i + 1) Γ (K ++ [(i, key, val)]) rest) : DM P C Γ0 Δ0 ops id ks i0 im d0 d1 t i Γ K (⟨none, .insert t (.tmp d0) (.const (.int .i64 key)) y, ty, pos, aft, none⟩ :: rest) :=
  fun hT => k (.ins hT ho hne hdep hkey hnew hlt hy)
theorem DM.tail {l : List Oper} (hm : P.follows .mixedOrders = true) (hc : dcheck ops i [] = true) (hN : dstBelow ops C.N = true) (hd01 : d0 ≠ d1 ∧ d0 < C.N ∧ d1 < C.N) (h0m : i0 < i ∧ im < i ∧ i0 ≠ im) (ht : P.underlying t = some (.map k0 e0)) {q : IntKind} (hk : P.underlying k0 = some (.int q)) (hl : ops.toList.drop i = l)
    (k : ∀ b kvs, (∀ key, mget kvs key = mget (K.map (·.2)) key) → SL P C ((d1, .eq (.map (some b))) :: Γ) (Δ0 ++ [Own.map b kvs]) ops l ks) : DM P C Γ0 Δ0 ops id ks i0 im d0 d1 t i Γ K l :=
  fun hT => SC.drawMap i hm hc hN hd01 h0m ht hk hT (hl ▸ k)
end
end Go.Inn
