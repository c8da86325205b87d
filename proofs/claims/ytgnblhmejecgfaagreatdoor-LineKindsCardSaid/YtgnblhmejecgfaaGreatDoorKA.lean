/- More rules: maps of ints, calls that turn a variable of the caller's, function values as data. No program in it. -/
import Derived.Test.YtgnblhmejecgfaaGreatDoorK9
import Derived.RangeFuncRecord
set_option linter.all false
namespace Go.Inn
open Go Go.RowKit

/-! maps whose keys are ints -/
def MapL {α : Type} [Rep α] (m : View) : List MapEntry → List (Int × α) → Prop
  | [], [] => True
  | e :: es, (k, x) :: kvs => e.key = .int .i64 k ∧ (V x).on m e.val ∧ MapL m es kvs
  | _, _ => False
theorem MapL.up {α : Type} [Rep α] {m m' : View} (hm : m.le m') : ∀ {es : List MapEntry} {kvs : List (Int × α)}, MapL m es kvs → MapL m' es kvs
  | [], [], _ => trivial
  | _ :: _, (_, _) :: _, h => ⟨h.1, (V _).up hm h.2.1, MapL.up hm h.2.2⟩
theorem MapL.snoc {α : Type} [Rep α] {m : View} {e : MapEntry} {k : Int} {x : α} (hk : e.key = .int .i64 k) (hx : (V x).on m e.val) : ∀ {es : List MapEntry} {kvs : List (Int × α)}, MapL m es kvs → MapL m (es ++ [e]) (kvs ++ [(k, x)])
  | [], [], _ => ⟨hk, hx, trivial⟩
  | _ :: _, (_, _) :: _, h => ⟨h.1, h.2.1, MapL.snoc hk hx h.2.2⟩
def mget {α : Type} : List (Int × α) → Int → Option α
  | [], _ => none
  | (j, x) :: kvs, k => if j = k then some x else mget kvs k
theorem MapL.find {α : Type} [Rep α] {m : View} {q : IntKind} {k : Int} : ∀ {es : List MapEntry} {kvs : List (Int × α)} (i : Nat), MapL m es kvs →
    match mget kvs k with
    | some x => ∃ j v, Instr.findNow (.int q) (.int .i64 k) es i = some (some (j, v)) ∧ (V x).on m v
    | none => Instr.findNow (.int q) (.int .i64 k) es i = some none
  | [], [], i, _ => rfl
  | e :: es, (j, x) :: kvs, i, h => by
    have ih := MapL.find (q := q) (k := k) (i + 1) h.2.2
    simp only [mget]
    have hs : Instr.sameNow (.int q) (.int .i64 k) e.key = some (decide (k = j)) := by
      rw [h.1]; simp [Instr.sameNow]; rfl
    by_cases hjk : j = k
    · subst hjk
      rw [if_pos rfl]
      exact ⟨i, e.val, by simp [Instr.findNow, hs], h.2.1⟩
    · rw [if_neg hjk]
      have hs' : Instr.sameNow (.int q) (.int .i64 k) e.key = some false := by rw [hs]; simp; omega
      have e1 : Instr.findNow (.int q) (.int .i64 k) (e :: es) i = Instr.findNow (.int q) (.int .i64 k) es (i + 1) := by simp [Instr.findNow, hs']
      rw [e1]; exact ih
def Own.map {α : Type} [Rep α] (b : Nat) (kvs : List (Int × α)) : Own :=
  ⟨fun m w bs => bs = [b] ∧ ∃ es clock, MapL m es.toList kvs ∧ w.heap[b]? = some (.map es clock), fun hm hk h => by
    obtain ⟨e, es, clock, h1, h2⟩ := h
    exact ⟨e, es, clock, h1.up hm, by rw [hk b (by rw [e]; simp)]; exact h2⟩⟩
/-- a map that stays -/
def VP.map {α : Type} [Rep α] (kvs : List (Int × α)) : VP :=
  ⟨fun m v => ∃ b es clock, v = .map (some b) ∧ m b = some (.map es clock) ∧ MapL m es.toList kvs, fun hm h => by
    obtain ⟨b, es, clock, h1, h2, h3⟩ := h
    exact ⟨b, es, clock, h1, hm _ _ h2, h3.up hm⟩⟩
theorem run_checkKey {P : Program} {t : TypeId} {q : IntKind} (ht : P.underlying t = some (.int q)) (e : Bool) (k : Int) (w : World) : (Instr.checkKey e 10000 t (.int .i64 k)).run P w = .ok () w := by
  have : (10000 : Nat) = 9999 + 1 := rfl
  rw [this, Instr.checkKey]
  simp [run_underlying ht]
theorem run_getObj_map {P : Program} {w : World} {r : Nat} {es : Array MapEntry} {c : Nat} (h : w.heap[r]? = some (.map es c)) : (getObj r).run P w = .ok (.map es c) w := by simp [getObj, Sem.run, h]
theorem run_setObj_map {P : Program} {w : World} {r : Nat} {es : Array MapEntry} {c : Nat} (o : Obj) (h : w.heap[r]? = some (.map es c)) : (setObj r o).run P w = .ok () (w.putObj r o) := by simp [setObj, Sem.run, h, World.putObj]
section
variable {P : Program} {I : GI} {B : Nat → Prop} {Γ : Env} {Δ : List Own} {d : Option Tmp} {ty : TypeId} {pos : String} {aft : Array Edge} {gd : Option (Nat × Bool)}
theorem OpOk.lookupMap {t k e : TypeId} {q : IntKind} {x y : Operand} {α : Type} [Rep α] {kvs : List (Int × α)} {z : α} {key : Int} (ht : P.underlying t = some (.map k e)) (hk : P.underlying k = some (.int q)) (hz : TyZ P e z) (hx : Typ I Γ x (VP.map kvs)) (hy : Typ I Γ y (V key)) :
    OpOk P I B Γ Δ ⟨d, .lookup t x y false, ty, pos, aft, gd⟩ (V ((mget kvs key).getD z)) := by
  refine .still fun m c w hl hf hI hh => ?_
  obtain ⟨b, es, clock, ex, hb, hm⟩ := hx.at hI hl (by simp [Op.operands])
  have ey := (V_int (hy.at hI hl (by simp [Op.operands]))).1
  have hw := hf _ _ hb
  have hfind := hm.find (q := q) (k := key) 0
  obtain ⟨zs, hz1, hz2⟩ := hz.zero
  cases hg : mget kvs key with
  | some v =>
    rw [hg] at hfind
    obtain ⟨j, u, h1, h2⟩ := hfind
    refine ⟨u, ?_, h2⟩
    simp [execOp, ex, ey, Instr.lookup, run_underlying ht, run_getObj_map hw, run_checkKey hk, Instr.findKey, run_underlying hk, h1]
  | none =>
    rw [hg] at hfind
    refine ⟨packed (Rep.agg α) zs, ?_, _, hz2 m, rfl⟩
    simp [execOp, ex, ey, Instr.lookup, run_underlying ht, run_getObj_map hw, run_checkKey hk, Instr.findKey, run_underlying hk, hfind, hz1]
theorem OpOk.nilCheckRef {x : Operand} {α : Type} [Rep α] {a : α} (hx : Typ I Γ x (VP.ref a)) : OpOk P I B Γ Δ ⟨d, .nilCheck x, ty, pos, aft, gd⟩ (VP.ref a) := by
  refine .still fun m c w hl hf hI hh => ?_
  obtain ⟨b, off, ex, h⟩ := hx.at hI hl (by simp [Op.operands])
  refine ⟨_, ?_, b, off, rfl, h⟩
  simp [execOp, ex]
theorem OpOk.nilCheck {x : Operand} {b off : Nat} (hx : Typ I Γ x (VP.ptr b off)) : OpOk P I B Γ Δ ⟨d, .nilCheck x, ty, pos, aft, gd⟩ (VP.ptr b off) := by
  refine .still fun m c w hl hf hI hh => ?_
  have ex : c.eval x = _ := hx.at hI hl (by simp [Op.operands])
  refine ⟨_, ?_, rfl⟩
  simp [execOp, ex]
end
section
variable {P : Program} {C : Cx} {Γ : Env} {Δ : List Own} {ks : List KI} {ops : Array Oper} {rest : List Oper} {ty : TypeId} {pos : String} {aft : Array Edge}
theorem SL.makeMap {d : Nat} {t : TypeId} (α : Type) [Rep α] (hN : Nat.ble (d + 1) C.N = true) (k : ∀ b, SL P C ((d, .eq (.map (some b))) :: Γ) (Δ ++ [Own.map b ([] : List (Int × α))]) ops rest ks) :
    SL P C Γ Δ ops (⟨some d, .makeMap t none, ty, pos, aft, none⟩ :: rest) ks := by
  intro m a w st
  refine wpList_plain rfl fun K hK => ?_
  have st2 := st.own (o' := .map #[] 0) (o := Own.map w.heap.size ([] : List (Int × α))) ⟨rfl, #[], 0, trivial, heap_alloc_at _ _⟩
  have hrun : (execOp a.eval ⟨some d, .makeMap t none, ty, pos, aft, none⟩).run P w = .ok (.value (.map (some w.heap.size))) (w.alloc (.map #[] 0)) := by
    simp [execOp, Instr.makeMap]
  unfold Oper.wp
  rw [hrun]
  exact hK _ _ (k w.heap.size m _ _ (st2.put (Nat.le_of_ble_eq_true hN) rfl))
/-- an object of the call's own is put in another's place -/
theorem St.putOwn {m : View} {a : Act} {w : World} (st : St C Γ Δ m a w) {i g : Nat} {o o' : Own} (hi : Δ[i]? = some o) (hbs : ∀ bs, o.on m w bs → bs = [g]) (ob : Obj) (ho : g < w.heap.size → o'.on m (w.putObj g ob) [g]) :
    St C Γ (Δ.set i o') m a (w.putObj g ob) := by
  obtain ⟨b, hb, hnd, hin, hupd⟩ := st.held.upd hi
  have e := hbs b hb
  subst e
  obtain ⟨h1, h2, h3⟩ := hin g (by simp)
  have hsz : (w.putObj g ob).heap.size = w.heap.size := World.putObj_size
  have hk : ∀ k, k ≠ g → (w.putObj g ob).heap[k]? = w.heap[k]? := fun k hk => World.putObj_heap_other hk
  refine { size := st.size, defers := st.defers, env := st.env, held := ?_, fits := ?_, below := ?_, le := st.le, fresh := st.fresh, glob := st.glob }
  · refine hupd m (w.putObj g ob) [g] o' (View.le_refl m) (fun k _ hne => hk k (by simpa using hne)) (fun _ _ _ => rfl) (by rw [hsz]; exact Nat.le_refl _) (Cx.Y_new st.below.size) (ho h3) (by simp) (fun x hx => ?_)
    simp at hx; subst hx
    exact ⟨.inl (by simp), by rw [hsz]; exact h3, h1⟩
  · intro k x hx
    rw [hk k (fun e => by rw [e, h1] at hx; cases hx)]
    exact st.fits k x hx
  · refine st.below.then' rfl rfl rfl (by rw [hsz]; exact Nat.le_refl _) (fun k hkb hx => hk k (fun e => ?_))
    subst e
    rcases h2 with h2 | h2
    · omega
    · exact hx h2
theorem SL.insert {t k e : TypeId} {q : IntKind} {x y z : Operand} {α : Type} [Rep α] {kvs : List (Int × α)} {key : Int} {v : α} {b i : Nat} (ht : P.underlying t = some (.map k e)) (hk : P.underlying k = some (.int q)) (hi : Δ[i]? = some (Own.map b kvs))
    (hx : Typ C.I Γ x (.eq (.map (some b)))) (hy : Typ C.I Γ y (V key)) (hz : Typ C.I Γ z (V v)) (hnew : mget kvs key = none) (kk : SL P C Γ (Δ.set i (Own.map b (kvs ++ [(key, v)]))) ops rest ks) :
    SL P C Γ Δ ops (⟨none, .insert t x y z, ty, pos, aft, none⟩ :: rest) ks := by
  intro m a w st
  refine wpList_plain rfl fun K hK => ?_
  have hlk := Look.of (a := a) st.env (.insert t x y z)
  have ex : a.eval x = _ := hx.at st.glob hlk (by simp [Op.operands])
  have ey := (V_int (hy.at st.glob hlk (by simp [Op.operands]))).1
  have ez := hz.at st.glob hlk (by simp [Op.operands])
  obtain ⟨bs, ⟨_, es, clock, h1, h2⟩, _⟩ := st.held.at hi
  have hfind := h1.find (q := q) (k := key) 0
  rw [hnew] at hfind
  have hrun : (execOp a.eval ⟨none, .insert t x y z, ty, pos, aft, none⟩).run P w = .ok .skip (w.putObj b (.map (es.push { key := .int .i64 key, val := a.eval z, born := clock }) (clock + 1))) := by
    simp [execOp, ex, ey, Instr.mapUpdate, run_underlying ht, run_getObj_map h2, run_checkKey hk, Instr.findKey, run_underlying hk, hfind, run_setObj_map _ h2]
  unfold Oper.wp
  rw [hrun]
  refine hK _ _ (kk m _ _ (st.putOwn hi (fun bs h => h.1) _ (fun hlt => ⟨rfl, _, _, ?_, World.putObj_heap_same hlt⟩)))
  rw [Array.toList_push]
  exact MapL.snoc rfl ez h1
theorem SL.publishMap {t : Nat} {b i : Nat} {α : Type} [Rep α] {kvs : List (Int × α)} {l : List Oper} (hi : Δ[i]? = some (Own.map b kvs)) (ht : Γ.get t = some (.eq (.map (some b)))) (k : SL P C ((t, VP.map kvs) :: Γ) (Δ.set i Own.none) ops l ks) : SL P C Γ Δ ops l ks := by
  intro m a w st
  obtain ⟨bs, ⟨_, es, clock, h1, h2⟩, _⟩ := st.held.at hi
  obtain ⟨hn, st2⟩ := st.publish hi (fun bs h => h.1) h2
  refine k _ a w (st2.env' ?_)
  intro s p hp
  by_cases e : s = t
  · subst e
    rw [Env.get_same] at hp; cases hp
    have : a.tmps.getD s undef = _ := st.env s _ ht
    exact ⟨b, es, clock, this, View.add_at _ _ _, h1.up (View.le_add hn)⟩
  · rw [Env.get_ne _ _ e] at hp
    exact st2.env s p hp
end
end Go.Inn
