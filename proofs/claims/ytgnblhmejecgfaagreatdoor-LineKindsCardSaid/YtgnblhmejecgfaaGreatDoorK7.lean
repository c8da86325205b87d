/- The rules for memory, more: new variables, stores, literals of structs and slices, elements, slicing, lengths, appending to what the call owns. No program in it. -/
import Derived.Test.YtgnblhmejecgfaaGreatDoorK6
import Derived.Laws.OwnMore
set_option linter.all false
namespace Go.Inn
open Go Go.RowKit

/-- the element at a place -/
def nth {α : Type} [Inhabited α] (xs : List α) (i : Int) : α := xs.getD i.toNat default
theorem nth_eq {α : Type} [Inhabited α] {xs : List α} {i : Int} (h : i.toNat < xs.length) : nth xs i = xs[i.toNat] := by
  simp [nth, List.getD, h]
/-- the zero value -/
structure TyZ (P : Program) (t : TypeId) {α : Type} [Rep α] (z : α) : Prop where
  ty : Ty P t α
  zero : ∃ cs : List Value, (∀ (w : World), (zeroValue t).run P w = .ok (packed (Rep.agg α) cs) w) ∧ ∀ m, Rep.cells m z cs
/-- a struct type's places -/
structure TyS (P : Program) (t : TypeId) {α : Type} [Rep α] (z : α) (places : List (Nat × Nat)) : Prop where
  z : TyZ P t z
  agg : Rep.agg α = true
  at_ : ∃ fs, P.underlying t = some (.struct fs) ∧ ∀ (w : World), (fs.mapM fun f => (do pure (f.offset, ← sizeOf f.type) : Sem (Nat × Nat))).run P w = .ok places.toArray w

section
variable {P : Program} {I : GI} {B : Nat → Prop} {Γ : Env} {Δ : List Own} {d : Option Tmp} {ty : TypeId} {pos : String} {aft : Array Edge} {gd : Option (Nat × Bool)}

theorem At.new {α : Type} [Rep α] {m : View} {x : α} {cs : List Value} (h : Rep.cells m x cs) (b : Nat) (hb : m b = none) (t : TypeId) : At (m.add b (.cells cs.toArray t (0, 0))) b 0 x :=
  ⟨cs.toArray, t, (0, 0), cs, View.add_at _ _ _, Rep.up (View.le_add hb) h, fun j _ => by simp⟩
theorem run_newVar {t : TypeId} {v : Value} (w : World) : (newVar t v).run P w = .ok ⟨w.heap.size, 0, none⟩ (w.alloc (.cells v.cells t (0, 0))) := rfl
theorem OpOk.boxRef {t : TypeId} {x : Operand} {α : Type} [Rep α] {a : α} (hx : Typ I Γ x (V a)) : OpOk P I B Γ Δ ⟨d, .box t x, ty, pos, aft, gd⟩ (VP.ref a) := by
  refine .run fun m c w hl hf hI hh => ?_
  obtain ⟨cs, hc, e⟩ := hx.at hI hl (by simp [Op.operands])
  have hn : m w.heap.size = none := View.fits_none hf (Nat.le_refl _)
  refine ⟨.pointer (some ⟨w.heap.size, 0, none⟩), _, _, ?_, Grow.publish hf (.cells cs.toArray t (0, 0)), w.heap.size, 0, rfl, At.new hc _ hn t⟩
  simp only [execOp, Instr.box, e, Sem.run_bind, run_newVar, packed_cells hc, Result.andThen_ok, Sem.run_pure]
theorem OpOk.allocRef {t : TypeId} {α : Type} [Rep α] {z : α} (hz : TyZ P t z) : OpOk P I B Γ Δ ⟨d, .alloc t, ty, pos, aft, gd⟩ (VP.ref z) := by
  refine .run fun m c w hl hf hI hh => ?_
  obtain ⟨cs, hr, hc⟩ := hz.zero
  have hn : m w.heap.size = none := View.fits_none hf (Nat.le_refl _)
  refine ⟨.pointer (some ⟨w.heap.size, 0, none⟩), _, _, ?_, Grow.publish hf (.cells cs.toArray t (0, 0)), w.heap.size, 0, rfl, At.new (hc m) _ hn t⟩
  simp only [execOp, Instr.alloc, Sem.run_bind, hr w, Result.andThen_ok, run_newVar, packed_cells (hc m), Sem.run_pure]
end
section
variable {P : Program} {C : Cx} {Γ : Env} {Δ : List Own} {ks : List KI} {ops : Array Oper} {rest : List Oper} {ty : TypeId} {pos : String} {aft : Array Edge}

/-- what goes on behind one operation that owns something new -/
theorem St.own {m : View} {a : Act} {w : World} (st : St C Γ Δ m a w) {o' : Obj} {o : Own} (ho : o.on m (w.alloc o') [w.heap.size]) : St C Γ (Δ ++ [o]) m a (w.alloc o') :=
  { (st.grow (Grow.alloc st.fits o')) with held := st.held.snoc (.inl st.below.size) st.fits ho }
theorem Look.of {Γ : Env} {m : View} {a : Act} (h : Γ.holds m a) (o : Op) : Look Γ m a o := fun t _ p hp => h t p hp
theorem SL.boxOwn {d : Nat} {t : TypeId} {x : Operand} {α : Type} [Rep α] {y : α} (hx : Typ C.I Γ x (V y)) (hN : Nat.ble (d + 1) C.N = true)
    (k : ∀ b, SL P C ((d, VP.ptr b 0) :: Γ) (Δ ++ [Own.var b t y]) ops rest ks) : SL P C Γ Δ ops (⟨some d, .box t x, ty, pos, aft, none⟩ :: rest) ks := by
  intro m a w st
  refine wpList_plain rfl fun K hK => ?_
  obtain ⟨cs, hc, e⟩ := hx.at st.glob (Look.of st.env (.box t x)) (by simp [Op.operands])
  have st2 := st.own (o' := .cells cs.toArray t (0, 0)) (o := Own.var w.heap.size t y) ⟨rfl, cs, hc, heap_alloc_at _ _⟩
  have hrun : (execOp a.eval ⟨some d, .box t x, ty, pos, aft, none⟩).run P w = .ok (.value (.pointer (some ⟨w.heap.size, 0, none⟩))) (w.alloc (.cells cs.toArray t (0, 0))) := by
    simp only [execOp, Instr.box, e, Sem.run_bind, run_newVar, packed_cells hc, Result.andThen_ok, Sem.run_pure]
  unfold Oper.wp
  rw [hrun]
  exact hK _ _ (k w.heap.size m _ _ (st2.put (Nat.le_of_ble_eq_true hN) rfl))
theorem SL.allocOwn {d : Nat} {t : TypeId} {α : Type} [Rep α] {z : α} (hz : TyZ P t z) (hN : Nat.ble (d + 1) C.N = true)
    (k : ∀ b, SL P C ((d, VP.ptr b 0) :: Γ) (Δ ++ [Own.var b t z]) ops rest ks) : SL P C Γ Δ ops (⟨some d, .alloc t, ty, pos, aft, none⟩ :: rest) ks := by
  intro m a w st
  refine wpList_plain rfl fun K hK => ?_
  obtain ⟨cs, hr, hc⟩ := hz.zero
  have st2 := st.own (o' := .cells cs.toArray t (0, 0)) (o := Own.var w.heap.size t z) ⟨rfl, cs, hc m, heap_alloc_at _ _⟩
  have hrun : (execOp a.eval ⟨some d, .alloc t, ty, pos, aft, none⟩).run P w = .ok (.value (.pointer (some ⟨w.heap.size, 0, none⟩))) (w.alloc (.cells cs.toArray t (0, 0))) := by
    simp only [execOp, Instr.alloc, Sem.run_bind, hr w, Result.andThen_ok, run_newVar, packed_cells (hc m), Sem.run_pure]
  unfold Oper.wp
  rw [hrun]
  exact hK _ _ (k w.heap.size m _ _ (st2.put (Nat.le_of_ble_eq_true hN) rfl))
/-- a store into a block of the call's own: what it does to what is owned -/
theorem St.setRow {m : View} {a : Act} {w : World} (st : St C Γ Δ m a w) {i g : Nat} {o o' : Own} (hi : Δ[i]? = some o) (hbs : ∀ bs, o.on m w bs → bs = [g]) (c : Array Value) (ho : o'.on m (w.setRow g c) [g]) :
    St C Γ (Δ.set i o') m a (w.setRow g c) := by
  obtain ⟨b, hb, hnd, hin, hupd⟩ := st.held.upd hi
  have e := hbs b hb
  subst e
  obtain ⟨h1, h2, h3⟩ := hin g (by simp)
  have hsz : (w.setRow g c).heap.size = w.heap.size := size_setRow w g c
  have hk : ∀ k, k ≠ g → (w.setRow g c).heap[k]? = w.heap[k]? := fun k hk => setRow_other w g k c hk
  refine { size := st.size, defers := st.defers, env := st.env, held := ?_, fits := ?_, below := ?_, le := st.le, fresh := st.fresh, glob := st.glob }
  · refine hupd m (w.setRow g c) [g] o' (View.le_refl m) (fun k _ hne => hk k (by simpa using hne)) (fun _ _ _ => rfl) (by rw [hsz]; exact Nat.le_refl _) (Cx.Y_new st.below.size) ho (by simp) (fun x hx => ?_)
    simp at hx; subst hx
    exact ⟨.inl (by simp), by rw [hsz]; exact h3, h1⟩
  · intro k x hx
    rw [hk k (fun e => by rw [e, h1] at hx; cases hx)]
    exact st.fits k x hx
  · refine st.below.then' rfl rfl rfl (by rw [hsz]; exact Nat.le_refl _) (fun k hkb hx => hk k (fun e => ?_))
    subst e
    rcases h2 with h2 | h2
    · omega
    · exact hx h2
theorem Look.ofAt {Γ : Env} {m : View} {a : Act} {ops : Array Oper} {o : Oper} (h : ∀ t, t ∈ o.looksAt ops → ∀ p, Γ.get t = some p → p.on m (a.tmps.getD t undef)) : Look Γ m a o.op :=
  fun t ht p hp => h t (looks_operand ht) p hp
theorem OpW.storeOwn {t T : TypeId} {x y : Operand} {α β : Type} [Rep α] [Rep β] {v : α} {u : β} {b off i : Nat} (ht : Ty P t β) {lo : Nat} {lg : α → β} {ls : α → β → α} (L : Lens lo lg ls) (hi : Δ[i]? = some (Own.var b T v)) (ho : lo = off)
    (hx : Typ C.I Γ x (VP.ptr b off)) (hy : Typ C.I Γ y (V u)) : OpW P C Γ Δ ops ⟨none, .store t x y, ty, pos, aft, none⟩ (Δ.set i (Own.var b T (ls v u))) := by
  intro m a w Q K hl st hK
  rw [if_pos (by simp [Region.wanted])]
  have hlk := Look.ofAt hl
  have ex : a.eval x = _ := hx.at st.glob hlk (by simp [Op.operands])
  obtain ⟨ds, hd, ey⟩ := hy.at st.glob hlk (by simp [Op.operands])
  obtain ⟨cs, hc, hw⟩ := st.held.var hi
  subst ho
  have hfit := L.fit
  have hcl := Rep.len hc
  have hdl := Rep.len hd
  have hst := run_storeCells_at P b lo T ds 0 cs.toArray w hw (by simp only [Nat.add_zero, List.size_toArray]; omega) (fun v hv => Rep.plain hd v hv)
  simp only [Nat.add_zero] at hst
  have hrun : (execOp a.eval ⟨none, .store t x y, ty, pos, aft, none⟩).run P w = .ok .skip (w.setRow b (cs.take lo ++ ds ++ cs.drop (lo + ds.length)).toArray) := by
    simp [execOp, ex, ey, Instr.storeAt, Instr.sureAddr, storeVar, ht.size w, packed_cells hd, hdl, hst]
  unfold Oper.wp
  rw [hrun]
  refine hK m _ (View.le_refl m) ?_
  refine st.setRow hi (fun bs h => h.1) _ ⟨rfl, _, L.set_ok hc hd, ?_⟩
  rw [hdl]
  exact setRow_heap w b _ _ T _ hw
/-- what is owned is shown to all, and written no more -/
theorem St.publish {m : View} {a : Act} {w : World} (st : St C Γ Δ m a w) {i : Nat} {o : Own} (hi : Δ[i]? = some o) {g : Nat} {ob : Obj} (hbs : ∀ bs, o.on m w bs → bs = [g]) (hg : w.heap[g]? = some ob) :
    m g = none ∧ St C Γ (Δ.set i Own.none) (m.add g ob) a w := by
  obtain ⟨b, hb, hnd, hin, hupd⟩ := st.held.upd hi
  have e := hbs b hb
  subst e
  obtain ⟨h1, h2, h3⟩ := hin g (by simp)
  have hle : m.le (m.add g ob) := View.le_add h1
  refine ⟨h1, { size := st.size, defers := st.defers, env := st.env.up hle, held := ?_, fits := fits_add st.fits hg, below := st.below, le := View.le_trans st.le hle, fresh := ?_, glob := C.I.up hle st.glob }⟩
  · exact hupd (m.add g ob) w [] Own.none hle (fun _ _ _ => rfl) (fun k _ hne => View.add_ne m ob (by simpa using hne)) (Nat.le_refl _) (Cx.Y_new st.below.size) rfl (by simp) (by simp)
  · intro k hk hx
    rw [View.add_ne m ob (fun e => by
      subst e
      rcases h2 with h2 | h2
      · omega
      · exact hx h2)]
    exact st.fresh k hk hx
theorem SC.publishVar {t : Nat} {T : TypeId} {α : Type} [Rep α] {x : α} {b i : Nat} {c : Code} (hi : Δ[i]? = some (Own.var b T x)) (ht : Γ.get t = some (VP.ptr b 0)) (k : SC P C ((t, VP.ref x) :: Γ) (Δ.set i Own.none) c ks) : SC P C Γ Δ c ks := by
  intro m a w st
  obtain ⟨cs, hc, hw⟩ := st.held.var hi
  obtain ⟨hn, st2⟩ := st.publish hi (fun bs h => h.1) hw
  refine k _ a w (st2.env' ?_)
  intro s p hp
  by_cases e : s = t
  · subst e
    rw [Env.get_same] at hp; cases hp
    have : a.tmps.getD s undef = _ := st.env s _ ht
    exact ⟨b, 0, this, At.new hc b hn T⟩
  · rw [Env.get_ne _ _ e] at hp
    exact st2.env s p hp
end
section
variable {P : Program} {I : GI} {B : Nat → Prop} {Γ : Env} {Δ : List Own} {d : Option Tmp} {ty : TypeId} {pos : String} {aft : Array Edge} {gd : Option (Nat × Bool)}
/-! lists' elements, texts' bytes, lengths -/
theorem OpOk.indexAddr {t e : TypeId} {x y : Operand} {α : Type} [Rep α] [Inhabited α] {xs : List α} {i : Int} (ht : P.underlying t = some (.slice e)) (he : Ty P e α) (hx : Typ I Γ x (V xs)) (hy : Typ I Γ y (V i)) (h0 : 0 ≤ i) (h1 : i < xs.length) :
    OpOk P I B Γ Δ ⟨d, .indexAddr t x y, ty, pos, aft, gd⟩ (VP.ref (nth xs i)) := by
  refine .still fun m c w hl hf hI hh => ?_
  obtain ⟨A, cap, ex, _, _, hr⟩ := V_list (hx.at hI hl (by simp [Op.operands]))
  have ey := (V_int (hy.at hI hl (by simp [Op.operands]))).1
  have hlt : i.toNat < xs.length := by omega
  rcases hr with rfl | ⟨b, off, rfl, hat⟩
  · simp at hlt
  · refine ⟨.pointer (some ⟨b, off + i.toNat * Rep.n α, none⟩), ?_, b, _, rfl, ?_⟩
    · simp [execOp, ex, ey, Instr.indexAt, asIntOf, run_underlying ht, h0, h1, he.size w, add_mk]
    · rw [nth_eq hlt]; exact hat _ hlt
theorem nth_str (l : Str) (i : Int) (h0 : 0 ≤ i) (h1 : i < l.length) : (⟨l.toArray⟩ : ByteArray)[i.toNat]? = some (nth l i) := by
  have hlt : i.toNat < l.length := by omega
  rw [nth_eq hlt]
  show (if h : i.toNat < (⟨l.toArray⟩ : ByteArray).size then some ((⟨l.toArray⟩ : ByteArray)[i.toNat]'h) else none) = _
  have hs : (⟨l.toArray⟩ : ByteArray).size = l.length := rfl
  rw [dif_pos (by rw [hs]; exact hlt)]
  rfl
theorem OpOk.indexStr {t : TypeId} {x y : Operand} {l : Str} {i : Int} (ht : P.underlying t = some .string) (hx : Typ I Γ x (V l)) (hy : Typ I Γ y (V i)) (h0 : 0 ≤ i) (h1 : i < l.length) :
    OpOk P I B Γ Δ ⟨d, .index t x y, ty, pos, aft, gd⟩ (V (nth l i)) := by
  refine .still fun m c w hl hf hI hh => ?_
  have ex := (V_str (hx.at hI hl (by simp [Op.operands]))).1
  have ey := (V_int (hy.at hI hl (by simp [Op.operands]))).1
  refine ⟨.int .u8 (nth l i).toNat, ?_, V_u8_mk _ m⟩
  simp [execOp, ex, ey, str, Instr.index, asIntOf, run_underlying ht, h0, nth_str l i h0 h1]
theorem in64_len {n : Nat} (h : n ≤ maxLen) : in64 (n : Int) := by unfold maxLen at h; unfold in64; omega
theorem OpOk.lenList {t e : TypeId} {x : Operand} {α : Type} [Rep α] {xs : List α} (ht : P.underlying t = some (.slice e)) (hx : Typ I Γ x (V xs)) :
    OpOk P I B Γ Δ ⟨d, .call { callee := .builtin .len, args := #[x], argTypes := #[t] }, ty, pos, aft, gd⟩ (V (xs.length : Int)) := by
  refine .still fun m c w hl hf hI hh => ?_
  obtain ⟨A, cap, ex, h1, h2, hr⟩ := V_list (hx.at hI hl (by simp [Op.operands, Call.operands]))
  refine ⟨.int .i64 xs.length, ?_, V_int_mk (in64_len (Nat.le_trans h1 h2)) m⟩
  simp [execOp, resolve, invoke, builtin, ex, Builtin.len_, run_underlying ht, goInt]
theorem OpOk.lenStr {t : TypeId} {x : Operand} {l : Str} (ht : P.underlying t = some .string) (hx : Typ I Γ x (V l)) :
    OpOk P I B Γ Δ ⟨d, .call { callee := .builtin .len, args := #[x], argTypes := #[t] }, ty, pos, aft, gd⟩ (V (l.length : Int)) := by
  refine .still fun m c w hl hf hI hh => ?_
  obtain ⟨ex, h1⟩ := V_str (hx.at hI hl (by simp [Op.operands, Call.operands]))
  refine ⟨.int .i64 l.length, ?_, V_int_mk (in64_len h1) m⟩
  have hs : (⟨l.toArray⟩ : ByteArray).size = l.length := rfl
  simp [execOp, resolve, invoke, builtin, ex, str, Builtin.len_, run_underlying ht, goInt, hs]
theorem OpOk.extract {x : Operand} {ps : List VP} {i : Nat} {p : VP} (hx : Typ I Γ x (.tup ps)) (hi : ps[i]? = some p) : OpOk P I B Γ Δ ⟨d, .extract x i, ty, pos, aft, gd⟩ p := by
  refine .still fun m c w hl hf hI hh => ?_
  obtain ⟨vs, e, h⟩ := hx.at hI hl (by simp [Op.operands])
  obtain ⟨v, hv, hp⟩ := h.get hi
  refine ⟨v, ?_, hp⟩
  simp [execOp, e, Instr.extract, hv]
/-! cuts -/
theorem run_bounds {w : World} {sl : Bool} {len cap : Nat} {lo hi : Option Value} {a b : Int} (hlo : match lo with | some v => v = .int .i64 a | none => a = 0) (hhi : match hi with | some v => v = .int .i64 b | none => b = len)
    (h0 : 0 ≤ a) (h1 : a ≤ b) (h2 : b ≤ cap) : (Instr.sliceBounds sl len cap lo hi none).run P w = .ok (a.toNat, b.toNat, cap) w := by
  have hb : 0 ≤ b := by omega
  have e : ((b.toNat : Nat) : Int) = b := by omega
  have h1' : a ≤ (b.toNat : Int) := by omega
  cases lo with
  | none =>
    simp only at hlo; subst hlo
    cases hi with
    | none => simp only at hhi; subst hhi; simp [Instr.sliceBounds]
    | some v => simp only at hhi; subst hhi; simp [Instr.sliceBounds, Instr.sliceBound, asIntOf, hb, h2]
  | some u =>
    simp only at hlo; subst hlo
    cases hi with
    | none => simp only at hhi; subst hhi; simp [Instr.sliceBounds, Instr.sliceBound, asIntOf, h0, h1]
    | some v => simp only at hhi; subst hhi; simp [Instr.sliceBounds, Instr.sliceBound, asIntOf, hb, h2, h0]; intro hx; omega
def Lo (I : GI) (Γ : Env) (o : Option Operand) (a z : Int) : Prop := match o with
  | some x => Typ I Γ x (V a)
  | none => a = z
theorem Lo.s {x : Operand} {a z : Int} (h : Typ I Γ x (V a)) : Lo I Γ (some x) a z := h
theorem Lo.z {z : Int} : Lo I Γ none z z := rfl
theorem Lo.val {o : Option Operand} {a z : Int} (h : Lo I Γ o a z) {m : View} {c : Act} {op : Op} (hI : I.on m) (hl : Look Γ m c op) (hx : ∀ x, o = some x → x ∈ op.operands) :
    match o.map c.eval with | some v => v = .int .i64 a | none => a = z := by
  cases o with
  | none => exact h
  | some x => exact (V_int (Typ.at h hI hl (hx x rfl))).1
theorem extract_str (l : Str) (a b : Nat) : (⟨l.toArray⟩ : ByteArray).extract a b = ⟨((l.take b).drop a).toArray⟩ := by
  apply ByteArray.ext
  simp [List.drop_take]
theorem OpOk.cutStr {t : TypeId} {x : Operand} {lo hi : Option Operand} {l : Str} {a b : Int} (ht : P.underlying t = some .string) (hx : Typ I Γ x (V l))
    (hlo : Lo I Γ lo a 0) (hhi : Lo I Γ hi b l.length) (h0 : 0 ≤ a) (h1 : a ≤ b) (h2 : b ≤ l.length) :
    OpOk P I B Γ Δ ⟨d, .slice t x lo hi none, ty, pos, aft, gd⟩ (V ((l.take b.toNat).drop a.toNat)) := by
  refine .still fun m c w hl hf hI hh => ?_
  obtain ⟨ex, hm⟩ := V_str (hx.at hI hl (by simp [Op.operands]))
  have hs : (⟨l.toArray⟩ : ByteArray).size = l.length := rfl
  refine ⟨str ((l.take b.toNat).drop a.toNat), ?_, V_str_mk (by rw [List.length_drop, List.length_take]; omega) m⟩
  have hb := run_bounds (P := P) (w := w) (sl := false) (len := l.length) (cap := l.length) (hlo.val hI hl (fun x e => by simp [Op.operands, e])) (hhi.val hI hl (fun x e => by simp [Op.operands, e])) h0 h1 h2
  simp only [execOp, ex, str, Instr.sliceAt, Instr.slice, Sem.run_bind, run_underlying ht, Result.andThen_ok, hs, Option.map_none, Option.isSome_none, Bool.false_eq_true, if_false, Sem.run_pure, hb, extract_str]
theorem RowAt.cut {α : Type} [Rep α] {m : View} {A : Option Addr} {xs : List α} (h : RowAt m A xs) (a b : Nat) (hb : b ≤ xs.length) :
    RowAt m (A.map (·.add (a * Rep.n α))) ((xs.take b).drop a) := by
  rcases h with rfl | ⟨g, off, rfl, hat⟩
  · exact .inl (by simp)
  · refine .inr ⟨g, off + a * Rep.n α, by simp [add_mk], fun i hi => ?_⟩
    have hi' : a + i < b := by rw [List.length_drop, List.length_take] at hi; omega
    have hlt : a + i < xs.length := by omega
    have e : ((xs.take b).drop a)[i] = xs[a + i] := by simp
    rw [e]
    have := hat (a + i) hlt
    rwa [Nat.add_mul, ← Nat.add_assoc] at this
theorem RowAt.cut0 {α : Type} [Rep α] {m : View} {A : Option Addr} {xs : List α} (h : RowAt m A xs) (b : Nat) (hb : b ≤ xs.length) : RowAt m A (xs.take b) := by
  rcases h with rfl | ⟨g, off, rfl, hat⟩
  · exact .inl (by simp)
  · refine .inr ⟨g, off, rfl, fun i hi => ?_⟩
    have hlt : i < xs.length := by rw [List.length_take] at hi; omega
    have e : (xs.take b)[i] = xs[i] := by simp
    rw [e]; exact hat i hlt
theorem OpOk.cutList {t e : TypeId} {x : Operand} {lo hi : Option Operand} {α : Type} [Rep α] {l : List α} {a b : Int} (ht : P.underlying t = some (.slice e)) (he : Ty P e α) (hx : Typ I Γ x (V l))
    (hlo : Lo I Γ lo a 0) (hhi : Lo I Γ hi b l.length) (h0 : 0 ≤ a) (h1 : a ≤ b) (h2 : b ≤ l.length) :
    OpOk P I B Γ Δ ⟨d, .slice t x lo hi none, ty, pos, aft, gd⟩ (V ((l.take b.toNat).drop a.toNat)) := by
  refine .still fun m c w hl hf hI hh => ?_
  obtain ⟨A, cap, ex, hc1, hc2, hr⟩ := V_list (hx.at hI hl (by simp [Op.operands]))
  have hb := run_bounds (P := P) (w := w) (sl := true) (len := l.length) (cap := cap) (hlo.val hI hl (fun x e => by simp [Op.operands, e])) (hhi.val hI hl (fun x e => by simp [Op.operands, e])) h0 h1 (by omega)
  have hlen : ((l.take b.toNat).drop a.toNat).length = b.toNat - a.toNat := by rw [List.length_drop, List.length_take]; omega
  refine ⟨.slice (if cap = a.toNat then A else A.map (·.add (a.toNat * Rep.n α))) (b.toNat - a.toNat) (cap - a.toNat), ?_, _, ⟨_, cap - a.toNat, by rw [hlen], by rw [hlen]; omega, by omega, ?_⟩, rfl⟩
  · simp only [execOp, ex, Instr.sliceAt, Instr.slice, Sem.run_bind, run_underlying ht, Result.andThen_ok, Option.map_none, hb, he.size w, Sem.run_pure]
  · by_cases e : cap = a.toNat
    · exact .inl (List.eq_nil_of_length_eq_zero (by rw [hlen]; omega))
    · rw [if_neg e]; exact hr.cut _ _ (by omega)
/-- a whole array, as a slice -/
theorem OpOk.cutArr {t e : TypeId} {n : Nat} {x : Operand} {α : Type} [Rep α] {l : Arr n α} (ht : P.underlying t = some (.array n e)) (he : Ty P e α) (hn : n ≤ maxLen) (hx : Typ I Γ x (VP.ref l)) :
    OpOk P I B Γ Δ ⟨d, .slice t x none none none, ty, pos, aft, gd⟩ (V l.list) := by
  refine .still fun m c w hl hf hI hh => ?_
  obtain ⟨b, off, ex, cc, et, fr, cs, k1, k2, k3⟩ := hx.at hI hl (by simp [Op.operands])
  have hb := run_bounds (P := P) (w := w) (sl := false) (len := n) (cap := n) (lo := none) (hi := none) (a := 0) (b := n) rfl rfl (Int.le_refl _) (by omega) (Int.le_refl _)
  have hlen := l.len
  refine ⟨.slice (some ⟨b, off, none⟩) n n, ?_, _, ⟨some ⟨b, off, none⟩, n, by rw [hlen], by omega, hn, .inr ⟨b, off, rfl, fun i hi => ?_⟩⟩, rfl⟩
  · simp [execOp, ex, Instr.sliceAt, Instr.sureAddr, run_underlying ht, hb, he.size w]
    intro _; simp [Addr.add]
  · have key : ∀ (xs : List α) (cs : List Value) (j : Nat), arrCells m xs cs → ∀ (hj : j < xs.length), Rep.cells m xs[j] ((cs.drop (j * Rep.n α)).take (Rep.n α)) := by
      intro xs
      induction xs with
      | nil => intro cs j _ hj; simp at hj
      | cons y ys ih =>
        intro cs j h hj
        obtain ⟨c1, c2, rfl, h1, h2⟩ := h
        have hc1 := Rep.len h1
        cases j with
        | zero => simp only [Nat.zero_mul, List.drop_zero, List.getElem_cons_zero]; rw [List.take_left' hc1]; exact h1
        | succ j =>
          have := ih c2 j h2 (by simpa using hj)
          have e : (c1 ++ c2).drop ((j + 1) * Rep.n α) = c2.drop (j * Rep.n α) := by
            rw [List.drop_append, List.drop_of_length_le (by rw [hc1, Nat.add_mul]; omega), List.nil_append]
            congr 1
            rw [hc1, Nat.add_mul]; omega
          rw [e]; simpa using this
    have hi' : i < n := by omega
    refine ⟨cc, et, fr, _, k1, key l.list cs i k2 hi, fun j hj => ?_⟩
    have hmul : i * Rep.n α + Rep.n α ≤ n * Rep.n α := by
      rw [← Nat.succ_mul]; exact Nat.mul_le_mul_right _ hi'
    have := k3 (i * Rep.n α + j) (by show i * Rep.n α + j < n * Rep.n α; omega)
    rw [Nat.add_assoc, this, List.getElem?_take, if_pos hj, List.getElem?_drop]
end
end Go.Inn
