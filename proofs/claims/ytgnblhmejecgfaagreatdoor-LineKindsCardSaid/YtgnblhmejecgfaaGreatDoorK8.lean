/- The rules for memory, more: literals, rows of the call's own that grow, closures. No program in it. -/
import Derived.Test.YtgnblhmejecgfaaGreatDoorK7
import Derived.Deep.AppendLies
set_option linter.all false
namespace Go.Inn
open Go Go.RowKit

/-- an element type, as appending wants it -/
structure TyI (P : Program) (e : TypeId) (α : Type) [Rep α] (bytes : Nat) : Prop where
  ty : Ty P e α
  info : (P.info? e).map (fun i => (i.size, i.bytes, i.zero.map (·.cells.size))) = some (Rep.n α, bytes, some (Rep.n α))
  pos : 0 < Rep.n α
theorem TyI.get {P : Program} {e : TypeId} {α : Type} [Rep α] {bytes : Nat} (h : TyI P e α bytes) : ∃ i z, P.info? e = some i ∧ i.zero = some z ∧ i.size = Rep.n α ∧ i.bytes = bytes ∧ z.cells.size = Rep.n α := by
  have h1 := h.info
  cases hi : P.info? e with
  | none => rw [hi] at h1; simp at h1
  | some i =>
    rw [hi] at h1
    simp only [Option.map_some, Option.some.injEq, Prod.mk.injEq] at h1
    obtain ⟨a, b, c⟩ := h1
    cases hz : i.zero with
    | none => rw [hz] at c; simp at c
    | some z => rw [hz] at c; simp at c; exact ⟨i, z, rfl, hz, a, b, c⟩

theorem arrCells_append {α : Type} [Rep α] {m : View} : ∀ {xs ys : List α} {cs ds : List Value}, arrCells m xs cs → arrCells m ys ds → arrCells m (xs ++ ys) (cs ++ ds)
  | [], _, _, _, h, k => by cases h; simpa using k
  | x :: xs, _, _, _, h, k => by obtain ⟨c, d, rfl, h1, h2⟩ := h; exact ⟨c, _, by simp, h1, arrCells_append h2 k⟩
theorem arrCells_nth {α : Type} [Rep α] {m : View} : ∀ {xs : List α} {cs : List Value} {j : Nat}, arrCells m xs cs → ∀ (hj : j < xs.length), Rep.cells m xs[j] ((cs.drop (j * Rep.n α)).take (Rep.n α))
  | [], _, _, _, hj => by simp at hj
  | y :: ys, _, 0, h, _ => by
    obtain ⟨c1, c2, rfl, h1, h2⟩ := h
    simp only [Nat.zero_mul, List.drop_zero, List.getElem_cons_zero]; rw [List.take_left' (Rep.len h1)]; exact h1
  | y :: ys, _, j + 1, h, hj => by
    obtain ⟨c1, c2, rfl, h1, h2⟩ := h
    have := arrCells_nth (j := j) h2 (by simpa using hj)
    have e : (c1 ++ c2).drop ((j + 1) * Rep.n α) = c2.drop (j * Rep.n α) := by
      rw [List.drop_append, List.drop_of_length_le (by rw [Rep.len h1, Nat.add_mul]; omega), List.nil_append]
      congr 1
      rw [Rep.len h1, Nat.add_mul]; omega
    rw [e]; simpa using this
/-- a block whose first cells are a row -/
theorem RowAt.block {α : Type} [Rep α] {m : View} {b : Nat} {c : Array Value} {e : TypeId} {fr : Nat × Nat} {xs : List α} {cs : List Value} (hb : m b = some (.cells c e fr)) (h : arrCells m xs cs)
    (hc : ∀ j, j < cs.length → c[j]? = cs[j]?) : RowAt m (some ⟨b, 0, none⟩) xs := by
  refine .inr ⟨b, 0, rfl, fun i hi => ⟨c, e, fr, _, hb, arrCells_nth h hi, fun j hj => ?_⟩⟩
  have hl := arrCells_len h
  have hmul : i * Rep.n α + Rep.n α ≤ xs.length * Rep.n α := by rw [← Nat.succ_mul]; exact Nat.mul_le_mul_right _ hi
  rw [Nat.zero_add, hc _ (by omega), List.getElem?_take, if_pos hj, List.getElem?_drop]
/-- the cells of what a slice shows -/
theorem RowAt.cells {α : Type} [Rep α] {m : View} {w : World} (hf : m.fits w) {ad : Addr} {xs : List α} (h : RowAt m (some ad) xs) (hx : xs ≠ []) :
    ∃ cs, arrCells m xs cs ∧ ∀ j u, cs[j]? = some u → w.cell? (ad.add j) = some u := by
  rcases h with h | ⟨b, off, hA, hat⟩
  · exact absurd h hx
  cases hA
  have key : ∀ (ys : List α) (o : Nat), (∀ (i : Nat) (h : i < ys.length), At m b (o + i * Rep.n α) ys[i]) → ∃ cs, arrCells m ys cs ∧ ∀ j u, cs[j]? = some u → w.cell? ⟨b, o + j, none⟩ = some u := by
    intro ys
    induction ys with
    | nil => intro o _; exact ⟨[], rfl, by simp⟩
    | cons y ys ih =>
      intro o h
      obtain ⟨c, e, fr, cs, h1, h2, h3⟩ := h 0 (by simp)
      simp only [Nat.zero_mul, Nat.add_zero, List.getElem_cons_zero] at h2 h3
      obtain ⟨ds, k1, k2⟩ := ih (o + Rep.n α) (fun i hi => by
        have := h (i + 1) (by simpa using hi)
        rw [Nat.add_mul, Nat.one_mul] at this
        have e : o + Rep.n α + i * Rep.n α = o + (i * Rep.n α + Rep.n α) := by omega
        rw [e]; simpa using this)
      refine ⟨cs ++ ds, ⟨cs, ds, rfl, h2, k1⟩, fun j u hu => ?_⟩
      have hl := Rep.len h2
      by_cases hj : j < cs.length
      · rw [List.getElem?_append_left hj] at hu
        rw [cell_block (hf _ _ h1), h3 j (by omega)]; exact hu
      · rw [List.getElem?_append_right (by omega)] at hu
        have := k2 _ u hu
        have e2 : o + Rep.n α + (j - cs.length) = o + j := by omega
        rwa [e2] at this
  obtain ⟨cs, h1, h2⟩ := key xs off hat
  exact ⟨cs, h1, fun j u hu => by rw [add_mk]; exact h2 j u hu⟩

/-! literals -/
theorem setFold : ∀ (ds : List Value) (cs : List Value) (off k : Nat), off + k + ds.length ≤ cs.length →
    ((ds.zipIdx k).foldl (fun (cs : Array Value) (p : Value × Nat) => cs.setIfInBounds (off + p.2) p.1) cs.toArray) = (cs.take (off + k) ++ ds ++ cs.drop (off + k + ds.length)).toArray
  | [], cs, off, k, _ => by simp
  | v :: ds, cs, off, k, h => by
    simp only [List.length_cons] at h
    simp only [List.zipIdx_cons, List.foldl_cons]
    have e1 : cs.toArray.setIfInBounds (off + k) v = (cs.set (off + k) v).toArray := by simp
    rw [e1, setFold ds _ off (k + 1) (by rw [List.length_set]; omega)]
    congr 1
    have e2 : (cs.set (off + k) v).take (off + (k + 1)) = cs.take (off + k) ++ [v] := by
      rw [List.set_eq_take_append_cons_drop]
      split
      · rw [← Nat.add_assoc, List.take_append, List.length_take]
        have : min (off + k) cs.length = off + k := by omega
        rw [this, List.take_of_length_le (by rw [List.length_take]; omega)]
        have e : off + k + 1 - (off + k) = 1 := by omega
        rw [e]; simp
      · omega
    have e3 : (cs.set (off + k) v).drop (off + (k + 1) + ds.length) = cs.drop (off + k + (ds.length + 1)) := by
      rw [List.drop_set]
      split
      · congr 1; omega
      · omega
    rw [e2, e3, List.length_cons]
    simp
theorem fill_step {place : Nat → Option (Nat × Nat)} {i off size : Nat} {v : Value} {ds cs : List Value} {rest : List (Nat × Value)} (hv : v.cells = ds.toArray) (hp : place i = some (off, size)) (hs : ds.length = size) (hf : off + size ≤ cs.length) :
    Instr.fill place cs.toArray ((i, v) :: rest) = Instr.fill place (cs.take off ++ ds ++ cs.drop (off + size)).toArray rest := by
  have h1 : ¬ (v.cells.size ≠ size ∨ off + v.cells.size > cs.toArray.size) := by
    rw [hv]; simp; omega
  have hfold : v.cells.zipIdx.foldl (fun (cs : Array Value) (p : Value × Nat) => cs.setIfInBounds (off + p.2) p.1) cs.toArray = (cs.take off ++ ds ++ cs.drop (off + size)).toArray := by
    rw [hv, ← Array.foldl_toList]
    have := setFold ds cs off 0 (by omega)
    simp only [Nat.add_zero, hs] at this
    rw [← this]; simp
  simp only [Instr.fill, hp]
  rw [if_neg (by simpa using h1)]
  exact congrArg (fun c => Instr.fill place c rest) hfold
section
variable {P : Program} {I : GI} {B : Nat → Prop} {Γ : Env} {Δ : List Own} {d : Option Tmp} {ty : TypeId} {pos : String} {aft : Array Edge} {gd : Option (Nat × Bool)}
inductive Parts (P : Program) (I : GI) (Γ : Env) (s : TypeId) {α : Type} [Rep α] (places : List (Nat × Nat)) : List (Nat × Operand) → α → α → Prop
  | nil {x : α} : Parts P I Γ s places [] x x
  | cons {i : Nat} {o : Operand} {rest : List (Nat × Operand)} {x z : α} {β : Type} [Rep β] {y : β} {lo : Nat} {lg : α → β} {ls : α → β → α} (L : Lens lo lg ls) (hp : places[i]? = some (lo, Rep.n β)) (h : Typ I Γ o (V y)) (k : Parts P I Γ s places rest (ls x y) z) : Parts P I Γ s places ((i, o) :: rest) x z
theorem Parts.fill {s : TypeId} {α : Type} [Rep α] {places : List (Nat × Nat)} {ps : List (Nat × Operand)} {x z : α} (h : Parts P I Γ s places ps x z) {m : View} {a : Act} {o : Op} (hI : I.on m) (hl : Look Γ m a o) (hx : ∀ p, p ∈ ps → p.2 ∈ o.operands) :
    ∀ {cs : List Value}, Rep.cells m x cs → ∃ ds, Instr.fill (places.toArray[·]?) cs.toArray (ps.map fun p => (p.1, a.eval p.2)) = some ds.toArray ∧ Rep.cells m z ds := by
  induction h with
  | nil => intro cs hc; exact ⟨cs, by simp [Instr.fill], hc⟩
  | @cons i op rest x z β _ y lo lg ls L hp h k ih =>
    intro cs hc
    obtain ⟨ds, hd, ev⟩ := h.at hI hl (hx (i, op) (by simp))
    have hset := L.set_ok hc hd
    obtain ⟨es, h1, h2⟩ := ih (fun p hp => hx p (by simp [hp])) hset
    refine ⟨es, ?_, h2⟩
    rw [List.map_cons, fill_step (ds := ds) (by rw [ev]; exact packed_cells hd) (by simpa using hp) (Rep.len hd) (by rw [Rep.len hc]; exact L.fit)]
    exact h1
theorem OpOk.build {t : TypeId} {α : Type} [Rep α] {z x : α} {places : List (Nat × Nat)} (ht : TyS P t z places) {parts : Array (Nat × Operand)} (hp : Parts P I Γ t places parts.toList z x) :
    OpOk P I B Γ Δ ⟨d, .build t parts, ty, pos, aft, gd⟩ (V x) := by
  refine .still fun m c w hl hf hI hh => ?_
  obtain ⟨zs, hz1, hz2⟩ := ht.z.zero
  obtain ⟨fs, h1, h2⟩ := ht.at_
  obtain ⟨ds, h3, h4⟩ := hp.fill hI hl (fun p hp => by
    simp only [Op.operands]
    simp only [List.mem_toArray, List.mem_map]
    exact ⟨p, hp, rfl⟩) (hz2 m)
  refine ⟨.agg ds.toArray, ?_, ds, h4, by simp [packed, ht.agg]⟩
  have e : (parts.map fun x => (x.1, c.eval x.2)).toList = parts.toList.map fun p => (p.1, c.eval p.2) := by simp
  simp only [execOp, Instr.build, Sem.run_bind, hz1 w, Result.andThen_ok, packed_cells (hz2 m), run_underlying h1, h2 w, e, h3, Sem.run_pure]
/-- operands that hold data of one kind -/
inductive TypL (I : GI) (Γ : Env) {α : Type} [Rep α] : List Operand → List α → Prop
  | nil : TypL I Γ [] []
  | cons {x : Operand} {xs : List Operand} {y : α} {ys : List α} (h : Typ I Γ x (V y)) (k : TypL I Γ xs ys) : TypL I Γ (x :: xs) (y :: ys)
theorem TypL.length {α : Type} [Rep α] {xs : List Operand} {ys : List α} (h : TypL I Γ xs ys) : xs.length = ys.length := by
  induction h with
  | nil => rfl
  | cons _ _ ih => simp [ih]
theorem TypL.fill {α : Type} [Rep α] {xs : List Operand} {ys : List α} (h : TypL I Γ xs ys) {m : View} {a : Act} {o : Op} (hI : I.on m) (hl : Look Γ m a o) (hx : ∀ x, x ∈ xs → x ∈ o.operands) :
    ∀ (k : Nat) (pre post : List Value), pre.length = k * Rep.n α → post.length = ys.length * Rep.n α →
      ∃ ds, arrCells m ys ds ∧ Instr.fill (fun i => some (i * Rep.n α, Rep.n α)) (pre ++ post).toArray (((List.range' k xs.length).zip xs).map fun p => (p.1, a.eval p.2)) = some (pre ++ ds).toArray := by
  induction h with
  | nil => intro k pre post _ hp; simp at hp; subst hp; exact ⟨[], rfl, by simp [Instr.fill]⟩
  | @cons x xs y ys h k ih =>
    intro k pre post hpre hpost
    obtain ⟨c, hc, ev⟩ := h.at hI hl (hx x (by simp))
    have hcl := Rep.len hc
    simp only [List.length_cons, Nat.add_mul, Nat.one_mul] at hpost
    obtain ⟨ds, h1, h2⟩ := ih (fun z hz => hx z (by simp [hz])) (k + 1) (pre ++ c) (post.drop (Rep.n α)) (by rw [List.length_append, hpre, hcl, Nat.add_mul, Nat.one_mul]) (by rw [List.length_drop]; omega)
    refine ⟨c ++ ds, ⟨c, ds, rfl, hc, h1⟩, ?_⟩
    have e : List.range' k (x :: xs).length = k :: List.range' (k + 1) xs.length := by simp [List.range'_succ]
    rw [e, List.zip_cons_cons, List.map_cons, fill_step (ds := c) (off := k * Rep.n α) (size := Rep.n α) (by rw [ev]; exact packed_cells hc) rfl hcl (by rw [List.length_append, hpre]; omega)]
    have e1 : (pre ++ post).take (k * Rep.n α) = pre := by rw [← hpre]; exact List.take_left
    have e2 : (pre ++ post).drop (k * Rep.n α + Rep.n α) = post.drop (Rep.n α) := by
      rw [← hpre, ← List.drop_drop]; rw [List.drop_left]
    rw [e1, e2]
    rw [h2, List.append_assoc]
theorem zip_back {α β : Type} : ∀ (l : List (α × β)), l = (l.map (·.1)).zip (l.map (·.2))
  | [] => rfl
  | p :: ps => by simp only [List.map_cons, List.zip_cons_cons]; rw [← zip_back ps]
structure SLit (P : Program) (t e : TypeId) (len : Nat) {α : Type} [Rep α] (z : α) : Prop where
  sl : P.underlying t = some (.slice e)
  z : TyZ P e z
  pos : 0 < len * Rep.n α
  small : len * Rep.n α ≤ 16777216
theorem run_buildLit {t e : TypeId} {len : Nat} {α : Type} [Rep α] {z : α} (hL : SLit P t e len z) {parts : List (Nat × Operand)} (hidx : parts.map (·.1) = List.range' 0 len) {ys : List α} (hy : TypL I Γ (parts.map (·.2)) ys)
    {m : View} {a : Act} (hI : I.on m) (hl : Look Γ m a (.buildSlice t len parts.toArray)) (w : World) : ys.length = len ∧ ∃ cs, arrCells m ys cs ∧
    (Instr.buildSlice t len (parts.toArray.map fun p => (p.1, a.eval p.2))).run P w = .ok (.slice (some ⟨w.heap.size, 0, none⟩) len len) (w.alloc (.cells cs.toArray e (0, 0))) := by
  have hlen : (parts.map (·.2)).length = len := by
    have := congrArg List.length hidx
    simpa using this
  have hys : ys.length = len := by rw [← hy.length]; exact hlen
  obtain ⟨zs, hz1, hz2⟩ := hL.z.zero
  have hzl := Rep.len (hz2 m)
  have hop : ∀ x, x ∈ parts.map (·.2) → x ∈ (Op.buildSlice t len parts.toArray).operands := by
    intro x hx; simp only [Op.operands]; simpa using hx
  have base : ((Array.range (len * Rep.n α)).map fun i => zs.toArray[i % zs.toArray.size]!) = (((List.range (len * Rep.n α)).map fun i => zs.toArray[i % zs.toArray.size]!)).toArray := by
    apply Array.toList_inj.1; simp
  obtain ⟨ds, h1, h2⟩ := hy.fill hI hl hop 0 [] ((List.range (len * Rep.n α)).map fun i => zs.toArray[i % zs.toArray.size]!) (by simp) (by simp [hys])
  refine ⟨hys, ds, h1, ?_⟩
  have hpz : parts = (List.range' 0 (parts.map (·.2)).length).zip (parts.map (·.2)) := by
    rw [hlen, ← hidx]
    exact zip_back parts
  have hm : (parts.toArray.map fun p => (p.1, a.eval p.2)).toList = ((List.range' 0 (parts.map (·.2)).length).zip (parts.map (·.2))).map fun p => (p.1, a.eval p.2) := by
    rw [← hpz]; simp
  have hne : ¬ len * Rep.n α = 0 := by have := hL.pos; omega
  have hsm : ¬ len * Rep.n α > 2 ^ 24 := by have := hL.small; omega
  simp only [List.nil_append] at h2
  simp only [Instr.buildSlice, Sem.run_bind, run_underlying hL.sl, Result.andThen_ok, hL.z.ty.size w, if_neg hsm, if_neg hne, hz1 w, packed_cells (hz2 m), Sem.run_pure, base, hm, h2]
  rfl
theorem OpOk.buildSlice {t e : TypeId} {len : Nat} {α : Type} [Rep α] {z : α} (hL : SLit P t e len z) {parts : List (Nat × Operand)} (hidx : parts.map (·.1) = List.range' 0 len) {ys : List α} (hy : TypL I Γ (parts.map (·.2)) ys) :
    OpOk P I B Γ Δ ⟨d, .buildSlice t len parts.toArray, ty, pos, aft, gd⟩ (V ys) := by
  refine .run fun m c w hl hf hI hh => ?_
  obtain ⟨hys, cs, hc, hr⟩ := run_buildLit hL hidx hy hI hl w
  have hn : m w.heap.size = none := View.fits_none hf (Nat.le_refl _)
  have hle : m.le (m.add w.heap.size (.cells cs.toArray e (0, 0))) := View.le_add hn
  refine ⟨.slice (some ⟨w.heap.size, 0, none⟩) len len, _, _, ?_, Grow.publish hf (.cells cs.toArray e (0, 0)), _, ⟨some ⟨w.heap.size, 0, none⟩, len, by rw [hys], by omega, ?_, RowAt.block (View.add_at _ _ _) (arrCells_up hle hc) (fun j _ => by simp)⟩, rfl⟩
  · simp only [execOp, Sem.run_bind, hr, Result.andThen_ok, Sem.run_pure]
  · have h1 := hL.small
    have h2 := hL.pos
    have h3 : 0 < Rep.n α := Nat.pos_of_ne_zero (fun e => by rw [e] at h2; simp at h2)
    have := Nat.le_mul_of_pos_right len h3
    unfold maxLen; omega
theorem OpOk.makeFunc {f : FuncId} {caps : Array Operand} {ps : List VP} (h : Typs I Γ caps.toList ps) : OpOk P I B Γ Δ ⟨d, .makeFunc (.func f) #[] caps, ty, pos, aft, gd⟩ (.clo f ps) := by
  refine .still fun m c w hl hf hI hh => ?_
  refine ⟨.func (.func f) #[] (caps.toList.map c.eval).toArray, ?_, _, rfl, h.at hI hl (fun x hx => by simp only [Op.operands]; simpa using hx)⟩
  have e : caps.map c.eval = (caps.toList.map c.eval).toArray := by apply Array.toList_inj.1; simp
  simp [execOp, Instr.makeFunc, e]
theorem OpOk.addStr {t u : TypeId} {x y : Operand} {a b : Str} (hx : Typ I Γ x (V a)) (hy : Typ I Γ y (V b)) (hs : a.length + b.length ≤ maxLen) : OpOk P I B Γ Δ ⟨d, .binOp .add t x y u, ty, pos, aft, gd⟩ (V (a ++ b)) := by
  refine .still fun m c w hl hf hI hh => ?_
  have ex := (V_str (hx.at hI hl (by simp [Op.operands]))).1
  have ey := (V_str (hy.at hI hl (by simp [Op.operands]))).1
  refine ⟨str (a ++ b), ?_, V_str_mk (by rw [List.length_append]; exact hs) m⟩
  have h1 : (⟨a.toArray⟩ : ByteArray).size = a.length := rfl
  have h2 : (⟨b.toArray⟩ : ByteArray).size = b.length := rfl
  have h3 : (⟨a.toArray⟩ : ByteArray) ++ ⟨b.toArray⟩ = ⟨(a ++ b).toArray⟩ := by apply ByteArray.ext; simp
  have h4 : ¬ (((a.length + b.length : Nat) : Int) > IntKind.i64.max) := by
    have : IntKind.i64.max = 9223372036854775807 := by decide
    rw [this]; unfold maxLen at hs; omega
  simp only [execOp, ex, ey, str, eqGuard, Sem.run_bind, Sem.run_pure]
  simp only [binOp, Op.stringOp, h1, h2, h3, if_neg h4]
  simp
end
/-! rows of the call's own -/
def Own.row {α : Type} [Rep α] (v : Value) (e : TypeId) (xs : List α) : Own where
  on m w bs := bs = v.ownBlock.toList ∧ ∃ cs, arrCells m xs cs ∧ w.ownsRow 0 e (Rep.n α) v xs.length cs
  up hm hk h := by
    obtain ⟨e1, cs, h1, h2, h3⟩ := h
    refine ⟨e1, cs, arrCells_up hm h1, h2, ?_⟩
    rcases h3 with h3 | ⟨g, cap, cur, hv, hb, hg, h4⟩
    · exact .inl h3
    · refine .inr ⟨g, cap, cur, hv, hb, ?_, h4⟩
      rw [hk g (by rw [e1, hv]; simp [Value.ownBlock])]; exact hg
section
variable {P : Program} {C : Cx} {Γ : Env} {Δ : List Own} {ks : List KI} {ops : Array Oper} {rest : List Oper} {ty : TypeId} {pos : String} {aft : Array Edge}
/-- a nil slice is an own row -/
theorem Held.nilRow {B : Nat → Prop} {m : View} {w : World} (h : Held B Δ m w) {α : Type} [Rep α] (e : TypeId) : Held B (Δ ++ [Own.row (.slice none 0 0) e ([] : List α)]) m w := by
  obtain ⟨bs, h1, hb⟩ := h
  have h0 : (Own.row (.slice none 0 0) e ([] : List α)).on m w [] := ⟨rfl, [], rfl, World.ownsRow_nil w 0 e (Rep.n α)⟩
  exact ⟨bs ++ [[]], Owns.snoc h0 h1, by simpa using hb.dup, by simpa using hb.inn⟩
theorem SL.nilRow (α : Type) [Rep α] (e : TypeId) {l : List Oper} (k : SL P C Γ (Δ ++ [Own.row (.slice none 0 0) e ([] : List α)]) ops l ks) : SL P C Γ Δ ops l ks :=
  fun m a w st => k m a w { st with held := st.held.nilRow e }
theorem SC.nilRow (α : Type) [Rep α] (e : TypeId) {c : Code} (k : SC P C Γ (Δ ++ [Own.row (.slice none 0 0) e ([] : List α)]) c ks) : SC P C Γ Δ c ks :=
  fun m a w st => k m a w { st with held := st.held.nilRow e }
theorem SL.sliceOwn {d : Nat} {t e : TypeId} {len : Nat} {α : Type} [Rep α] {z : α} (hL : SLit P t e len z) {parts : List (Nat × Operand)} (hidx : parts.map (·.1) = List.range' 0 len) {ys : List α} (hy : TypL C.I Γ (parts.map (·.2)) ys) (hN : Nat.ble (d + 1) C.N = true)
    (k : ∀ v, SL P C ((d, .eq v) :: Γ) (Δ ++ [Own.row v e ys]) ops rest ks) : SL P C Γ Δ ops (⟨some d, .buildSlice t len parts.toArray, ty, pos, aft, none⟩ :: rest) ks := by
  intro m a w st
  refine wpList_plain rfl fun K hK => ?_
  obtain ⟨hys, cs, hc, hr⟩ := run_buildLit hL hidx hy st.glob (Look.of st.env _) w
  have h1 := hL.small
  have h2 := hL.pos
  have h3 : 0 < Rep.n α := Nat.pos_of_ne_zero (fun e => by rw [e] at h2; simp at h2)
  have h4 := Nat.le_mul_of_pos_right len h3
  have hcl := arrCells_len hc
  have st2 := st.own (o' := .cells cs.toArray e (0, 0)) (o := Own.row (.slice (some ⟨w.heap.size, 0, none⟩) len len) e ys)
    ⟨rfl, cs, hc, by rw [hcl], .inr ⟨w.heap.size, len, cs.toArray, by rw [hys], Nat.zero_le _, heap_alloc_at _ _, by omega, by unfold maxLen; omega, by simp [hcl, hys], by rw [← hcl]; simp⟩⟩
  have hrun : (execOp a.eval ⟨some d, .buildSlice t len parts.toArray, ty, pos, aft, none⟩).run P w = .ok (.value (.slice (some ⟨w.heap.size, 0, none⟩) len len)) (w.alloc (.cells cs.toArray e (0, 0))) := by
    simp only [execOp, Sem.run_bind, hr, Result.andThen_ok, Sem.run_pure]
  unfold Oper.wp
  rw [hrun]
  exact hK _ _ (k _ m _ _ (st2.put (Nat.le_of_ble_eq_true hN) rfl))
theorem Held.row {B : Nat → Prop} {α : Type} [Rep α] {m : View} {w : World} {v : Value} {e : TypeId} {xs : List α} {i : Nat} (h : Held B Δ m w) (hi : Δ[i]? = some (Own.row v e xs)) : ∃ cs, arrCells m xs cs ∧ w.ownsRow 0 e (Rep.n α) v xs.length cs := by
  obtain ⟨bs, ⟨_, cs, h1, h2⟩, _⟩ := h.at hi
  exact ⟨cs, h1, h2⟩
/-- appending something to a row of the call's own -/
theorem SL.append {d : Nat} {t e : TypeId} {x y : Operand} {α : Type} [Rep α] {bytes : Nat} {v : Value} {xs ys : List α} {i : Nat} (ht : P.underlying t = some (.slice e)) (he : TyI P e α bytes) (hi : Δ[i]? = some (Own.row v e xs))
    (hx : Typ C.I Γ x (.eq v)) (hy : Typ C.I Γ y (V ys)) (hne : ys ≠ []) (hb : (xs.length + ys.length) * bytes ≤ 140737488355328) (hm : xs.length + ys.length ≤ maxLen) (hN : Nat.ble (d + 1) C.N = true)
    (k : ∀ v', SL P C ((d, .eq v') :: Γ) (Δ.set i (Own.row v' e (xs ++ ys))) ops rest ks) :
    SL P C Γ Δ ops (⟨some d, .call { callee := .builtin .append, args := #[x, y], argTypes := #[t, t] }, ty, pos, aft, none⟩ :: rest) ks := by
  intro m a w st
  refine wpList_plain rfl fun K hK => ?_
  have hlk := Look.of (a := a) st.env (.call { callee := .builtin .append, args := #[x, y], argTypes := #[t, t] })
  have ex : a.eval x = v := hx.at st.glob hlk (by simp [Op.operands, Call.operands])
  obtain ⟨A, cap, ey, hc1, hc2, hr⟩ := V_list (hy.at st.glob hlk (by simp [Op.operands, Call.operands]))
  obtain ⟨cs, hcs, hown⟩ := st.held.row hi
  obtain ⟨ad, rfl⟩ : ∃ ad, A = some ad := by
    rcases hr with h | ⟨b, off, h, _⟩
    · exact absurd h hne
    · exact ⟨_, h⟩
  obtain ⟨ds, hds, hcell⟩ := hr.cells st.fits hne
  obtain ⟨ii, z, i1, i2, i3, i4, i5⟩ := he.get
  have hylen : 0 < ys.length := List.length_pos_iff.2 hne
  obtain ⟨g, cap', w', hrun, hown', hgrow, hlies, hlt⟩ := run_append_lies (P := P) w t ty 0 e ii z (Rep.n α) bytes ht i1 i2 i3 i4 i5 he.pos v xs.length cs hown ad ys.length cap ds (arrCells_len hds) hcell (arrCells_plain hds) hylen hm hb (Nat.zero_le _) w.heap.size rfl
  have hrun' : (execOp a.eval ⟨some d, .call { callee := .builtin .append, args := #[x, y], argTypes := #[t, t] }, ty, pos, aft, none⟩).run P w = .ok (.value (.slice (some ⟨g, 0, none⟩) (xs.length + ys.length) cap')) w' := by
    simp [execOp, resolve, invoke, builtin, ex, ey, hrun]
  unfold Oper.wp
  rw [hrun']
  refine hK _ _ (k (.slice (some ⟨g, 0, none⟩) (xs.length + ys.length) cap') m _ _ (St.put ?_ (Nat.le_of_ble_eq_true hN) rfl))
  obtain ⟨b, ⟨hbe, _⟩, hnd, hin, hupd⟩ := st.held.upd hi
  have hblk : ∀ k, k < w.heap.size → k ∉ b → w'.heap[k]? = w.heap[k]? := by
    intro k hk hkb
    refine hgrow.block k hk (fun e => hkb ?_)
    rw [hbe, ← e]; simp
  refine { size := st.size, defers := st.defers, env := st.env, held := ?_, fits := ?_, below := ?_, le := st.le, fresh := st.fresh, glob := st.glob }
  · refine hupd m w' [g] _ (View.le_refl m) hblk (fun _ _ _ => rfl) hgrow.size (Cx.Y_new st.below.size) ⟨rfl, cs ++ ds, arrCells_append hcs hds, by rw [List.length_append]; exact hown'⟩ (by simp) (fun x hx => ?_)
    simp at hx; subst hx
    rcases hlies with h | h
    · have hxb : x ∈ b := by rw [hbe, h]; simp
      exact ⟨.inl hxb, hlt, (hin x hxb).1⟩
    · exact ⟨.inr (by omega), hlt, View.fits_none st.fits (by omega)⟩
  · intro q o hq
    rw [hblk q (View.fits_lt st.fits hq) (fun hqb => by rw [(hin q hqb).1] at hq; cases hq)]
    exact st.fits q o hq
  · refine st.below.then' hgrow.os hgrow.tape hgrow.output hgrow.size (fun q hq hx => hblk q (by have := st.below.size; omega) (fun hqb => ?_))
    rcases (hin q hqb).2.1 with h2 | h2
    · omega
    · exact hx h2
/-- an own row is shown to all -/
theorem St.publishRow {m : View} {a : Act} {w : World} (st : St C Γ Δ m a w) {α : Type} [Rep α] {v : Value} {e : TypeId} {xs : List α} {i : Nat} (hi : Δ[i]? = some (Own.row v e xs)) :
    ∃ m', St C Γ (Δ.set i Own.none) m' a w ∧ (V xs).on m' v ∧ m.le m' := by
  obtain ⟨cs, hc, hown⟩ := st.held.row hi
  have hl := arrCells_len hc
  rcases hown.2 with ⟨hv, hn⟩ | ⟨g, cap, cur, hv, _, hg, hnc, hcm, hsz, htake⟩
  · have hx : xs = [] := List.eq_nil_of_length_eq_zero hn
    subst hx
    subst hv
    refine ⟨m, { st with held := ?_ }, ⟨_, ⟨none, 0, rfl, Nat.le_refl _, Nat.zero_le _, .inl rfl⟩, rfl⟩, View.le_refl m⟩
    obtain ⟨b, ⟨hbe, _⟩, hnd, hin, hupd⟩ := st.held.upd hi
    exact hupd m w [] Own.none (View.le_refl m) (fun _ _ _ => rfl) (fun _ _ _ => rfl) (Nat.le_refl _) (Cx.Y_new st.below.size) rfl (by simp) (by simp)
  · obtain ⟨hn, st2⟩ := st.publish hi (fun bs h => by rw [h.1, hv]; rfl) hg
    subst hv
    refine ⟨_, st2, ⟨_, ⟨some ⟨g, 0, none⟩, cap, rfl, hnc, hcm, RowAt.block (View.add_at _ _ _) (arrCells_up (View.le_add hn) hc) (fun j hj => ?_)⟩, rfl⟩, View.le_add hn⟩
    rw [← htake, List.getElem?_take, if_pos (by rw [← hl]; exact hj)]; simp
theorem SC.publishRow {t : Nat} {v : Value} {e : TypeId} {α : Type} [Rep α] {xs : List α} {i : Nat} {c : Code} (hi : Δ[i]? = some (Own.row v e xs)) (ht : Γ.get t = some (.eq v)) (k : SC P C ((t, V xs) :: Γ) (Δ.set i Own.none) c ks) : SC P C Γ Δ c ks := by
  intro m a w st
  obtain ⟨m', st2, hv, _⟩ := st.publishRow hi
  refine k _ a w (st2.env' ?_)
  intro s p hp
  by_cases e : s = t
  · subst e
    rw [Env.get_same] at hp; cases hp
    have : a.tmps.getD s undef = v := st.env s _ ht
    rw [this]; exact hv
  · rw [Env.get_ne _ _ e] at hp
    exact st2.env s p hp
theorem SL.publishRow {t : Nat} {v : Value} {e : TypeId} {α : Type} [Rep α] {xs : List α} {i : Nat} {l : List Oper} (hi : Δ[i]? = some (Own.row v e xs)) (ht : Γ.get t = some (.eq v)) (k : SL P C ((t, V xs) :: Γ) (Δ.set i Own.none) ops l ks) : SL P C Γ Δ ops l ks := by
  intro m a w st
  obtain ⟨m', st2, hv, _⟩ := st.publishRow hi
  refine k _ a w (st2.env' ?_)
  intro s p hp
  by_cases e : s = t
  · subst e
    rw [Env.get_same] at hp; cases hp
    have : a.tmps.getD s undef = v := st.env s _ ht
    rw [this]; exact hv
  · rw [Env.get_ne _ _ e] at hp
    exact st2.env s p hp
end
end Go.Inn
