/- The rules for memory: fields, loads, stores, new variables, literals, slices, lists' elements, text's bytes. No program in it. -/
import Derived.Test.YtgnblhmejecgfaaGreatDoorK5
import Derived.Laws.Rows
import Derived.Lib.AppendStr
set_option linter.all false
namespace Go.Inn
open Go Go.RowKit

/-! kinds of values in a program -/
structure Ty (P : Program) (t : TypeId) (α : Type) [Rep α] : Prop where
  agg : ∀ (w : World), (isAgg t).run P w = .ok (Rep.agg α) w
  size : ∀ (w : World), (sizeOf t).run P w = .ok (Rep.n α) w
/-- a part of a datum -/
structure Lens {α β : Type} [Rep α] [Rep β] (off : Nat) (get : α → β) (set : α → β → α) : Prop where
  fit : off + Rep.n β ≤ Rep.n α
  get_ok : ∀ {m : View} {x : α} {cs : List Value}, Rep.cells m x cs → Rep.cells m (get x) ((cs.drop off).take (Rep.n β))
  set_ok : ∀ {m : View} {x : α} {y : β} {cs ds : List Value}, Rep.cells m x cs → Rep.cells m y ds → Rep.cells m (set x y) (cs.take off ++ ds ++ cs.drop (off + Rep.n β))
structure Fld (P : Program) (s : TypeId) (i : Nat) {α β : Type} [Rep α] [Rep β] (off : Nat) (get : α → β) (set : α → β → α) : Prop where
  at_ : ∃ fs f, P.underlying s = some (.struct fs) ∧ fs[i]? = some f ∧ f.offset = off ∧ Ty P f.type β
  pos : Rep.n β ≠ 0
  L : Lens off get set
theorem Lens.id (α : Type) [Rep α] : Lens 0 (fun x : α => x) (fun _ y => y) where
  fit := by omega
  get_ok h := by rw [List.drop_zero, List.take_of_length_le (by rw [Rep.len h]; exact Nat.le_refl _)]; exact h
  set_ok h k := by rw [List.take_zero, List.nil_append, List.drop_of_length_le (by rw [Rep.len h]; omega), List.append_nil]; exact k
theorem Lens.comp {α β γ : Type} [Rep α] [Rep β] [Rep γ] {o1 o2 : Nat} {g1 : α → β} {s1 : α → β → α} {g2 : β → γ} {s2 : β → γ → β} (L : Lens o1 g1 s1) (M : Lens o2 g2 s2) : Lens (o1 + o2) (fun x => g2 (g1 x)) (fun x y => s1 x (s2 (g1 x) y)) where
  fit := by have := L.fit; have := M.fit; omega
  get_ok {m x cs} h := by
    have h2 := M.get_ok (L.get_ok h)
    have e : (((cs.drop o1).take (Rep.n β)).drop o2).take (Rep.n γ) = (cs.drop (o1 + o2)).take (Rep.n γ) := by
      rw [List.drop_take, List.take_take, List.drop_drop]
      congr 1
      have := M.fit; omega
    rwa [e] at h2
  set_ok {m x y cs ds} h k := by
    have h2 := L.set_ok h (M.set_ok (L.get_ok h) k)
    have hl := Rep.len h
    have e : cs.take o1 ++ (((cs.drop o1).take (Rep.n β)).take o2 ++ ds ++ ((cs.drop o1).take (Rep.n β)).drop (o2 + Rep.n γ)) ++ cs.drop (o1 + Rep.n β) =
        cs.take (o1 + o2) ++ ds ++ cs.drop (o1 + o2 + Rep.n γ) := by
      have f1 := M.fit
      have f2 := L.fit
      have a1 : ((cs.drop o1).take (Rep.n β)).take o2 = (cs.drop o1).take o2 := by rw [List.take_take]; congr 1; omega
      have a2 : ((cs.drop o1).take (Rep.n β)).drop (o2 + Rep.n γ) ++ cs.drop (o1 + Rep.n β) = cs.drop (o1 + o2 + Rep.n γ) := by
        have b1 : cs.drop (o1 + Rep.n β) = (cs.drop o1).drop (Rep.n β) := by rw [List.drop_drop]
        have b2 : cs.drop (o1 + o2 + Rep.n γ) = (cs.drop o1).drop (o2 + Rep.n γ) := by rw [List.drop_drop]; congr 1; omega
        rw [b1, b2]
        conv => rhs; rw [← List.take_append_drop (Rep.n β) (cs.drop o1)]
        rw [List.drop_append_of_le_length (by rw [List.length_take, List.length_drop, hl]; omega)]
      have a3 : cs.take o1 ++ (cs.drop o1).take o2 = cs.take (o1 + o2) := by
        rw [List.take_add]
      rw [a1, List.append_assoc, List.append_assoc, List.append_assoc, a2, ← List.append_assoc, a3, List.append_assoc]
    rwa [e] at h2

section
variable {P : Program} {I : GI} {B : Nat → Prop} {Γ : Env} {Δ : List Own} {d : Option Tmp} {ty : TypeId} {pos : String} {aft : Array Edge} {gd : Option (Nat × Bool)}

/-! running -/
theorem run_loadCellsFrom {w : World} {a : Addr} : ∀ (n i : Nat) (acc : Array Value) (cs : List Value), cs.length = n → (∀ j, j < n → w.cell? (a.add (i + j)) = cs[j]?) → (loadCellsFrom a i n acc).run P w = .ok (acc ++ cs.toArray) w := by
  intro n
  induction n with
  | zero => intro i acc cs hl _; cases cs with | nil => simp [loadCellsFrom] | cons => simp at hl
  | succ n ih =>
    intro i acc cs hl h
    match cs, hl with
    | c :: cs, hl =>
      have h0 := h 0 (by omega)
      simp only [Nat.add_zero, List.getElem?_cons_zero] at h0
      have hr := ih (i + 1) (acc.push c) cs (by simpa using hl) (fun j hj => by have := h (j + 1) (by omega); simpa [Nat.add_assoc, Nat.add_comm 1 j] using this)
      simp only [loadCellsFrom]
      simp only [Sem.run_bind]
      rw [run_load P w (a.add i) .plain]
      simp [h0, hr]
theorem run_loadVar {w : World} {a : Addr} {t : TypeId} {α : Type} [Rep α] (ht : Ty P t α) {m : View} {x : α} {cs : List Value} (hc : Rep.cells m x cs) (h : ∀ j, j < Rep.n α → w.cell? (a.add j) = cs[j]?) :
    (loadVar t a).run P w = .ok (packed (Rep.agg α) cs) w := by
  unfold loadVar
  simp only [Sem.run_bind, ht.agg w, Result.andThen_ok]
  cases hag : Rep.agg α with
  | true =>
    have hr := run_loadCellsFrom (P := P) (w := w) (a := a) (Rep.n α) 0 #[] cs (Rep.len hc) (fun j hj => by rw [Nat.zero_add]; exact h j hj)
    simp only [if_true, Sem.run_bind, ht.size w, Result.andThen_ok, loadCells, hr]
    simp [packed]
  | false =>
    have hl := Rep.len hc
    rw [Rep.one hag] at hl
    match cs, hl with
    | [c], _ =>
      have h0 := h 0 (by rw [Rep.one hag]; omega)
      have e : a.add 0 = a := by simp [Addr.add]
      rw [e] at h0
      simp only [Bool.false_eq_true, if_false]
      rw [run_load P w a .plain]
      simp [h0, packed]
theorem add_mk (b off n : Nat) : (⟨b, off, none⟩ : Addr).add n = ⟨b, off + n, none⟩ := by
  unfold Addr.add; split
  · simp_all
  · rfl
theorem cell_block {w : World} {b : Nat} {c : Array Value} {e : TypeId} {fr : Nat × Nat} (h : w.heap[b]? = some (.cells c e fr)) (i : Nat) : w.cell? ⟨b, i, none⟩ = c[i]? := by
  simp [World.cell?, h]
theorem At.load {w : World} {m : View} (hf : m.fits w) {α : Type} [Rep α] {b off : Nat} {x : α} (h : At m b off x) {t : TypeId} (ht : Ty P t α) : ∃ v, (loadVar t ⟨b, off, none⟩).run P w = .ok v w ∧ (V x).on m v := by
  obtain ⟨c, e, fr, cs, h1, h2, h3⟩ := h
  refine ⟨_, run_loadVar ht h2 (fun j hj => ?_), cs, h2, rfl⟩
  rw [add_mk, cell_block (hf _ _ h1)]
  exact h3 j hj

/-! fields of a value -/
theorem packed_lens {α β : Type} [Rep α] [Rep β] {lo : Nat} {lg : α → β} {ls : α → β → α} (L : Lens lo lg ls) {m : View} {x : α} {cs : List Value} (h : Rep.cells m x cs) : ((cs.drop lo).take (Rep.n β)).length = Rep.n β := by
  have := L.fit; rw [List.length_take, List.length_drop, Rep.len h]; omega
theorem run_part {t : TypeId} {β : Type} [Rep β] (ht : Ty P t β) {m : View} {y : β} {cs : List Value} {off : Nat} (h : Rep.cells m y ((cs.drop off).take (Rep.n β))) (w : World) :
    (part t cs.toArray off).run P w = .ok (packed (Rep.agg β) ((cs.drop off).take (Rep.n β))) w := by
  unfold part
  simp only [Sem.run_bind, ht.agg w, Result.andThen_ok]
  cases hag : Rep.agg β with
  | true =>
    simp only [if_true, Sem.run_bind, ht.size w, Result.andThen_ok]
    have e : cs.toArray.extract off (off + Rep.n β) = ((cs.drop off).take (Rep.n β)).toArray := by
      simp [List.extract_eq_take_drop]
    rw [e]; simp [packed]
  | false =>
    have hl := Rep.len h
    rw [Rep.one hag] at hl h
    have h0 : cs[off]? = ((cs.drop off).take 1)[0]? := by simp [List.getElem?_take, List.getElem?_drop]
    match hh : (cs.drop off).take 1, hl with
    | [v], _ =>
      rw [hh] at h0
      have h0 : cs[off]? = some v := by simpa using h0
      have h1 : cs.toArray[off]? = some v := by simpa using h0
      simp only [Bool.false_eq_true, if_false, h1]
      rw [Rep.one hag, hh]
      simp [packed]
theorem OpOk.field {s : TypeId} {i : Nat} {α β : Type} [Rep α] [Rep β] {lo : Nat} {lg : α → β} {ls : α → β → α}  (hL : Fld P s i lo lg ls) {x : Operand} {a : α} (hag : Rep.agg α = true) (hx : Typ I Γ x (V a)) :
    OpOk P I B Γ Δ ⟨d, .field s x i, ty, pos, aft, gd⟩ (V (lg a)) := by
  refine .still fun m c w hl hf hI hh => ?_
  obtain ⟨cs, hc, e⟩ := hx.at hI hl (by simp [Op.operands])
  obtain ⟨fs, f, h1, h2, h3, h4⟩ := hL.at_
  have hg := hL.L.get_ok hc
  refine ⟨_, ?_, _, hg, rfl⟩
  have hp := run_part h4 (off := lo) hg w
  have e : c.eval x = .agg cs.toArray := by rw [e]; simp [packed, hag]
  simp only [execOp, e, Instr.field, Sem.run_bind, run_underlying h1, Result.andThen_ok, h2, asAgg, Sem.run_pure, h3, hp]
/-! fields of what stays -/
theorem OpOk.fieldAddrRef {s : TypeId} {i : Nat} {α β : Type} [Rep α] [Rep β] {lo : Nat} {lg : α → β} {ls : α → β → α}  (hL : Fld P s i lo lg ls) {x : Operand} {a : α} (hx : Typ I Γ x (VP.ref a)) :
    OpOk P I B Γ Δ ⟨d, .fieldAddr s x i, ty, pos, aft, gd⟩ (VP.ref (lg a)) := by
  refine .still fun m c w hl hf hI hh => ?_
  obtain ⟨b, off, e, cc, et, fr, cs, k1, k2, k3⟩ := hx.at hI hl (by simp [Op.operands])
  obtain ⟨fs, f, h1, h2, h3, h4⟩ := hL.at_
  refine ⟨.pointer (some ⟨b, off + lo, none⟩), ?_, b, off + lo, rfl, cc, et, fr, (cs.drop lo).take (Rep.n β), k1, hL.L.get_ok k2, fun j hj => ?_⟩
  · have hpos := hL.pos
    simp [execOp, e, Instr.fieldAt, run_underlying h1, h2, h3, Instr.sureAddr, fieldPlace, h4.size w, hpos, add_mk]
  · have hfit := hL.L.fit
    have := k3 (lo + j) (by omega)
    rw [Nat.add_assoc, this, List.getElem?_take, if_pos hj, List.getElem?_drop]
theorem OpOk.loadRef {t : TypeId} {α : Type} [Rep α] (ht : Ty P t α) {x : Operand} {a : α} (hx : Typ I Γ x (VP.ref a)) : OpOk P I B Γ Δ ⟨d, .load t x, ty, pos, aft, gd⟩ (V a) := by
  refine .still fun m c w hl hf hI hh => ?_
  obtain ⟨b, off, e, h⟩ := hx.at hI hl (by simp [Op.operands])
  obtain ⟨v, hv, hV⟩ := h.load hf ht
  refine ⟨v, ?_, hV⟩
  simp [execOp, e, Instr.loadAt, Instr.sureAddr, hv]
/-! a variable of the call's own -/
def Own.var {α : Type} [Rep α] (b : Nat) (t : TypeId) (x : α) : Own :=
  ⟨fun m w bs => bs = [b] ∧ ∃ cs, Rep.cells m x cs ∧ w.heap[b]? = some (.cells cs.toArray t (0, 0)), fun hm hk ⟨e, cs, h1, h2⟩ => ⟨e, cs, Rep.up hm h1, by rw [hk b (by rw [e]; simp)]; exact h2⟩⟩
theorem OpOk.fieldAddrOwn {s : TypeId} {i : Nat} {α β : Type} [Rep α] [Rep β] {lo : Nat} {lg : α → β} {ls : α → β → α}  (hL : Fld P s i lo lg ls) {x : Operand} {b off : Nat} (hx : Typ I Γ x (VP.ptr b off)) :
    OpOk P I B Γ Δ ⟨d, .fieldAddr s x i, ty, pos, aft, gd⟩ (VP.ptr b (off + lo)) := by
  refine .still fun m c w hl hf hI hh => ?_
  have e : c.eval x = _ := hx.at hI hl (by simp [Op.operands])
  obtain ⟨fs, f, h1, h2, h3, h4⟩ := hL.at_
  refine ⟨.pointer (some ⟨b, off + lo, none⟩), ?_, rfl⟩
  have hpos := hL.pos
  simp [execOp, e, Instr.fieldAt, run_underlying h1, h2, h3, Instr.sureAddr, fieldPlace, h4.size w, hpos, add_mk]
theorem Held.var {α : Type} [Rep α] {m : View} {w : World} {b : Nat} {t : TypeId} {x : α} {k : Nat} (h : Held B Δ m w) (hk : Δ[k]? = some (Own.var b t x)) :
    ∃ cs, Rep.cells m x cs ∧ w.heap[b]? = some (.cells cs.toArray t (0, 0)) := by
  obtain ⟨bs, ⟨_, cs, h1, h2⟩, _⟩ := h.at hk
  exact ⟨cs, h1, h2⟩
theorem OpOk.loadOwn {t T : TypeId} {α β : Type} [Rep α] [Rep β] (ht : Ty P t β) {x : Operand} {b off k : Nat} {a : α} {lo : Nat} {lg : α → β} {ls : α → β → α} (L : Lens lo lg ls) (hk : Δ[k]? = some (Own.var b T a)) (ho : lo = off) (hx : Typ I Γ x (VP.ptr b off)) :
    OpOk P I B Γ Δ ⟨d, .load t x, ty, pos, aft, gd⟩ (V (lg a)) := by
  refine .still fun m c w hl hf hI hh => ?_
  have e : c.eval x = _ := hx.at hI hl (by simp [Op.operands])
  obtain ⟨cs, h1, h2⟩ := hh.var hk
  have hg := L.get_ok h1
  subst ho
  refine ⟨_, ?_, _, hg, rfl⟩
  have hr := run_loadVar (w := w) (a := ⟨b, lo, none⟩) ht hg (fun j hj => by
    rw [add_mk, cell_block h2, List.getElem?_take, if_pos hj, List.getElem?_drop]; simp)
  simp [execOp, e, Instr.loadAt, Instr.sureAddr, hr]
/-- a result variable that lies in memory -/
theorem ResT.own {P : Program} {C : Cx} {Γ : Env} {Δ : List Own} {t T : TypeId} {x : Nat} {b k : Nat} {α : Type} [Rep α] {y z : α} (ht : Ty P t α) (hx : Γ.get x = some (VP.ptr b 0)) (hk : Δ[k]? = some (Own.var b T y)) (e : y = z) : ResT P C Γ Δ (.cell x t) (V z) := by
  intro m a w st
  obtain ⟨cs, h1, h2⟩ := st.held.var hk
  have ex : a.tmps.getD x undef = _ := st.env x _ hx
  refine ⟨_, ?_, cs, e ▸ h1, rfl⟩
  have hr := run_loadVar (w := w) (a := ⟨b, 0, none⟩) ht h1 (fun j hj => by rw [add_mk, cell_block h2]; simp)
  show (resSem a.tmps (.cell x t)).run P w = _
  simp only [resSem, ex, asAddr, Sem.run_bind, Sem.run_pure, Result.andThen_ok, hr]
end
end Go.Inn
