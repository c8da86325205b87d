/- The rules for code: sequences, tests, blocks, loops, regions (in the text's order, and in whatever order Go leaves open), a function's body. No program in it. -/
import Derived.Test.YtgnblhmejecgfaaGreatDoorK1
set_option linter.all false
namespace Go.Inn
open Go Go.RowKit

/-- 'X': the caller's own blocks that this call may write -/
structure Cx where
  I : GI
  N : Nat
  w0 : World
  m0 : View
  R : Act → World → Prop
  X : Nat → Prop := fun _ => False
/-- the blocks that the call may own -/
def Cx.Y (C : Cx) : Nat → Prop := fun b => C.w0.heap.size ≤ b ∨ C.X b
theorem Cx.Y_new {C : Cx} {n : Nat} (h : C.w0.heap.size ≤ n) : ∀ x, n ≤ x → C.Y x := fun _ hx => .inl (Nat.le_trans h hx)
/-- what lay is as it lay, but for the blocks 'X' -/
structure BelowX (X : Nat → Prop) (w w' : World) : Prop where
  os : w'.os = w.os
  tape : w'.tape = w.tape
  output : w'.output = w.output
  size : w.heap.size ≤ w'.heap.size
  block : ∀ k, k < w.heap.size → ¬ X k → w'.heap[k]? = w.heap[k]?
theorem BelowX.refl (X : Nat → Prop) (w : World) : BelowX X w w := ⟨rfl, rfl, rfl, Nat.le_refl _, fun _ _ _ => rfl⟩
theorem BelowX.then {X : Nat → Prop} {w w' w'' : World} (h : BelowX X w w') (k : Below w.heap.size w' w'') : BelowX X w w'' :=
  ⟨k.os.trans h.os, k.tape.trans h.tape, k.output.trans h.output, Nat.le_trans h.size k.size, fun i hi hx => (k.block i hi).trans (h.block i hi hx)⟩
theorem BelowX.then' {X : Nat → Prop} {w w' w'' : World} (h : BelowX X w w') (k1 : w''.os = w'.os) (k2 : w''.tape = w'.tape) (k3 : w''.output = w'.output) (k4 : w'.heap.size ≤ w''.heap.size) (k5 : ∀ k, k < w.heap.size → ¬ X k → w''.heap[k]? = w'.heap[k]?) : BelowX X w w'' :=
  ⟨k1.trans h.os, k2.trans h.tape, k3.trans h.output, Nat.le_trans h.size k4, fun i hi hx => (k5 i hi hx).trans (h.block i hi hx)⟩
theorem BelowX.plain {w w' : World} (h : BelowX (fun _ => False) w w') : Below w.heap.size w w' := ⟨h.os, h.tape, h.output, h.size, fun k hk => h.block k hk (fun h => h)⟩
/-- what holds at a place of a function's body -/
structure St (C : Cx) (Γ : Env) (Δ : List Own) (m : View) (a : Act) (w : World) : Prop where
  size : a.tmps.size = C.N
  defers : a.defers = []
  env : Γ.holds m a
  held : Held C.Y Δ m w
  fits : m.fits w
  below : BelowX C.X C.w0 w
  le : C.m0.le m
  fresh : ∀ k, k < C.w0.heap.size → ¬ C.X k → m k = C.m0 k
  glob : C.I.on m
theorem St.base {C : Cx} {Γ : Env} {Δ : List Own} {m : View} {a : Act} {w : World} (h : St C Γ Δ m a w) : C.w0.heap.size ≤ w.heap.size := h.below.size
theorem St.grow {C : Cx} {Γ : Env} {Δ : List Own} {m m' : View} {a : Act} {w w' : World} (h : St C Γ Δ m a w) (g : Grow m w m' w') : St C Γ Δ m' a w' where
  size := h.size
  defers := h.defers
  env := h.env.up g.le
  held := h.held.grow g
  fits := g.fits
  below := h.below.then (g.below.mono h.below.size)
  le := View.le_trans h.le g.le
  fresh := fun k hk hx => (g.fresh k (Nat.lt_of_lt_of_le hk h.below.size)).trans (h.fresh k hk hx)
  glob := C.I.up g.le h.glob
theorem St.put {C : Cx} {Γ : Env} {Δ : List Own} {m : View} {a : Act} {w : World} {d : Nat} {v : Value} {F : VP} (h : St C Γ Δ m a w) (hd : d < C.N) (hF : F.on m v) :
    St C ((d, F) :: Γ) Δ m (a.put (some d) v) w :=
  { h with size := (size_put _ _ _).trans h.size, defers := (defers_put _ _ _).trans h.defers, env := h.env.put (by rw [h.size]; exact hd) hF }
theorem St.env' {C : Cx} {Γ Γ' : Env} {Δ : List Own} {m : View} {a : Act} {w : World} (h : St C Γ Δ m a w) (e : Γ'.holds m a) : St C Γ' Δ m a w := { h with env := e }

/-! what is still to come -/
inductive KI where
  | code (c : Code)
  | blk (id : Nat)
  | loop (I : Act → World → Prop)
def KQ (P : Program) (R : Act → World → Prop) : List KI → Exit → Act → World → Prop
  | [] => fun e a w => match e with
    | .normal | .ret => R a w
    | _ => False
  | .code c :: ks => Exit.then (c.wp P (KQ P R ks)) (KQ P R ks)
  | .blk id :: ks => Exit.inBlock id (KQ P R ks)
  | .loop I :: ks => Exit.then I (KQ P R ks)
theorem KQ_ret {P : Program} {R : Act → World → Prop} {a : Act} {w : World} (h : R a w) : ∀ ks, KQ P R ks .ret a w
  | [] => h
  | .code _ :: ks => KQ_ret h ks
  | .blk _ :: ks => KQ_ret h ks
  | .loop _ :: ks => KQ_ret h ks
def exitK (id : Nat) : List KI → Option (List KI)
  | [] => none
  | .blk id' :: ks => match Nat.beq id id' with
    | true => some ks
    | false => exitK id ks
  | _ :: ks => exitK id ks
theorem KQ_exit {P : Program} {R : Act → World → Prop} {a : Act} {w : World} {id : Nat} : ∀ {ks ks' : List KI}, exitK id ks = some ks' → KQ P R ks' .normal a w → KQ P R ks (.exit id) a w
  | [], _, h, _ => by simp [exitK] at h
  | .code _ :: ks, ks', h, k => KQ_exit (ks := ks) (by simpa [exitK] using h) k
  | .loop _ :: ks, ks', h, k => KQ_exit (ks := ks) (by simpa [exitK] using h) k
  | .blk id' :: ks, ks', h, k => by
    show (if id = id' then KQ P R ks .normal a w else KQ P R ks (.exit id) a w)
    by_cases e : id = id'
    · subst e
      have hb : Nat.beq id id = true := Nat.beq_refl id
      simp only [exitK, hb, Option.some.injEq] at h
      subst h
      rw [if_pos rfl]; exact k
    · have hb : Nat.beq id id' = false := by
        cases hq : Nat.beq id id' with
        | false => rfl
        | true => exact absurd (Nat.eq_of_beq_eq_true hq) e
      simp only [exitK, hb] at h
      rw [if_neg e]; exact KQ_exit h k

section
variable (P : Program) (C : Cx)
def SC (Γ : Env) (Δ : List Own) (c : Code) (ks : List KI) : Prop := ∀ m a w, St C Γ Δ m a w → c.wp P (KQ P C.R ks) a w
def SK (Γ : Env) (Δ : List Own) (ks : List KI) : Prop := ∀ m a w, St C Γ Δ m a w → KQ P C.R ks .normal a w
def SL (Γ : Env) (Δ : List Own) (ops : Array Oper) (l : List Oper) (ks : List KI) : Prop := ∀ m a w, St C Γ Δ m a w → wpList P ops (KQ P C.R ks) l a w
/-- the function's end -/
def SR (Γ : Env) (Δ : List Own) : Prop := ∀ m a w, St C Γ Δ m a w → C.R a w
end
section
variable {P : Program} {C : Cx} {Γ : Env} {Δ : List Own} {ks : List KI}
theorem SC.seq {x y : Code} (h : SC P C Γ Δ x (.code y :: ks)) : SC P C Γ Δ (.seq x y) ks := fun m a w st => wp_seq (h m a w st)
theorem SC.skip (h : SK P C Γ Δ ks) : SC P C Γ Δ .skip ks := fun m a w st => wp_skip (h m a w st)
theorem SC.label {l : Nat} (h : SK P C Γ Δ ks) : SC P C Γ Δ (.label l) ks := fun m a w st => wp_label (h m a w st)
theorem SC.block {id : Nat} {c : Code} (h : SC P C Γ Δ c (.blk id :: ks)) : SC P C Γ Δ (.block id c) ks := fun m a w st => wp_block (h m a w st)
theorem SC.ret (h : SR C Γ Δ) : SC P C Γ Δ .ret ks := fun m a w st => wp_ret (KQ_ret (h m a w st) ks)
theorem SC.exit {id : Nat} {ks' : List KI} (e : exitK id ks = some ks') (h : SK P C Γ Δ ks') : SC P C Γ Δ (.exit id) ks := fun m a w st => wp_exit (KQ_exit e (h m a w st))
theorem SK.code {c : Code} (h : SC P C Γ Δ c ks) : SK P C Γ Δ (.code c :: ks) := h
theorem SK.blk {id : Nat} (h : SK P C Γ Δ ks) : SK P C Γ Δ (.blk id :: ks) := h
theorem SK.nil (h : SR C Γ Δ) : SK P C Γ Δ [] := h
theorem SK.loop {I : Act → World → Prop} (h : ∀ m a w, St C Γ Δ m a w → I a w) : SK P C Γ Δ (.loop I :: ks) := h
theorem SC.region {id : Nat} {ops : Array Oper} (h : SL P C Γ Δ ops ops.toList ks) : SC P C Γ Δ (.region id ops false) ks := fun m a w st => wp_region_list (h m a w st)
theorem SL.nil {ops : Array Oper} (h : SK P C Γ Δ ks) : SL P C Γ Δ ops [] ks := h
/-- weaker facts -/
theorem SC.weak {Γ' : Env} {c : Code} (hΓ : ∀ (m : View) (a : Act), Γ.holds m a → Γ'.holds m a) (h : SC P C Γ' Δ c ks) : SC P C Γ Δ c ks := fun m a w st => h m a w (st.env' (hΓ m a st.env))
theorem SK.weak {Γ' : Env} (hΓ : ∀ (m : View) (a : Act), Γ.holds m a → Γ'.holds m a) (h : SK P C Γ' Δ ks) : SK P C Γ Δ ks := fun m a w st => h m a w (st.env' (hΓ m a st.env))
end

/-! what an operand holds -/
def Typ (I : GI) (Γ : Env) (x : Operand) (p : VP) : Prop := ∀ (m : View) (a : Act), I.on m → (∀ t q, x = .tmp t → Γ.get t = some q → q.on m (a.tmps.getD t undef)) → p.on m (a.eval x)
theorem Typ.tmp {I : GI} {Γ : Env} {t : Nat} {p : VP} (h : Γ.get t = some p) : Typ I Γ (.tmp t) p := fun _ _ _ k => k t p rfl h
theorem Typ.con {I : GI} {Γ : Env} {v : Value} {p : VP} (h : ∀ m, p.on m v) : Typ I Γ (.const v) p := fun m _ _ _ => h m
theorem Typ.func {I : GI} {Γ : Env} {f : FuncId} : Typ I Γ (.func f) (.eq (.func (.func f) #[] #[])) := fun _ _ _ _ => rfl
theorem Typ.glob {I : GI} {Γ : Env} {g : Nat} : Typ I Γ (.global g) (.eq (.pointer (some ⟨g, 0, none⟩))) := fun _ _ _ _ => rfl
theorem Typ.cond {I : GI} {Γ : Env} {t : Nat} {c : Prop} {p : VP} (hc : c) (h : Γ.get t = some (.cond c p)) : Typ I Γ (.tmp t) p := fun _ _ _ k => (k t _ rfl h).1 hc
theorem Typ.weak {I : GI} {Γ : Env} {x : Operand} {p q : VP} (hw : ∀ m v, I.on m → p.on m v → q.on m v) (h : Typ I Γ x p) : Typ I Γ x q := fun m a hi k => hw m _ hi (h m a hi k)

/-! one operation -/
def Look (Γ : Env) (m : View) (a : Act) (o : Op) : Prop := ∀ t, Operand.tmp t ∈ o.operands → ∀ p, Γ.get t = some p → p.on m (a.tmps.getD t undef)
theorem Typ.at {I : GI} {Γ : Env} {x : Operand} {p : VP} (h : Typ I Γ x p) {m : View} {a : Act} {o : Op} (hI : I.on m) (hl : Look Γ m a o) (hx : x ∈ o.operands) : p.on m (a.eval x) :=
  h m a hI fun t q e hq => hl t (e ▸ hx) q hq
def OpOk (P : Program) (I : GI) (B : Nat → Prop) (Γ : Env) (Δ : List Own) (o : Oper) (F : VP) : Prop :=
  ∀ (m : View) (a : Act) (w : World) (Q : Exit → Act → World → Prop) (K : Act → World → Prop), Look Γ m a o.op → m.fits w → I.on m → Held B Δ m w → (∀ v m' w', Grow m w m' w' → F.on m' v → K (a.put o.dst v) w') → o.wp P a w K Q
theorem OpOk.run {P : Program} {I : GI} {B : Nat → Prop} {Γ : Env} {Δ : List Own} {o : Oper} {F : VP}
    (h : ∀ (m : View) (a : Act) (w : World), Look Γ m a o.op → m.fits w → I.on m → Held B Δ m w → ∃ v m' w', (execOp a.eval o).run P w = .ok (.value v) w' ∧ Grow m w m' w' ∧ F.on m' v) : OpOk P I B Γ Δ o F := by
  intro m a w Q K hl hf hi hh hk
  obtain ⟨v, m', w', hr, g, hF⟩ := h m a w hl hf hi hh
  unfold Oper.wp
  rw [hr]
  exact hk v m' w' g hF
theorem OpOk.still {P : Program} {I : GI} {B : Nat → Prop} {Γ : Env} {Δ : List Own} {o : Oper} {F : VP}
    (h : ∀ (m : View) (a : Act) (w : World), Look Γ m a o.op → m.fits w → I.on m → Held B Δ m w → ∃ v, (execOp a.eval o).run P w = .ok (.value v) w ∧ F.on m v) : OpOk P I B Γ Δ o F :=
  .run fun m a w hl hf hi hh => let ⟨v, hr, hF⟩ := h m a w hl hf hi hh; ⟨v, m, w, hr, Grow.refl hf, hF⟩
theorem OpOk.weak {P : Program} {I : GI} {B : Nat → Prop} {Γ : Env} {Δ : List Own} {o : Oper} {F G : VP} (hw : ∀ m v, F.on m v → G.on m v) (h : OpOk P I B Γ Δ o F) : OpOk P I B Γ Δ o G :=
  fun m a w Q K hl hf hi hh hk => h m a w Q K hl hf hi hh fun v m' w' g hF => hk v m' w' g (hw m' v hF)
/-- with its guard -/
def OpT (P : Program) (I : GI) (B : Nat → Prop) (Γ : Env) (Δ : List Own) (ops : Array Oper) (o : Oper) (F : VP) : Prop :=
  ∀ (m : View) (a : Act) (w : World) (Q : Exit → Act → World → Prop) (K : Act → World → Prop), (∀ t, t ∈ o.looksAt ops → ∀ p, Γ.get t = some p → p.on m (a.tmps.getD t undef)) → m.fits w → I.on m → Held B Δ m w →
    (∀ v m' w', Grow m w m' w' → F.on m' v → K (a.put o.dst v) w') → if Region.wanted o (yielded ops a.tmps) then o.wp P a w K Q else K (a.put o.dst undef) w
theorem looks_operand {ops : Array Oper} {o : Oper} {t : Nat} (h : Operand.tmp t ∈ o.op.operands) : t ∈ o.looksAt ops := by
  unfold Oper.looksAt
  refine List.mem_append.2 (.inl (List.mem_filterMap.2 ⟨.tmp t, by simpa using h, rfl⟩))
theorem OpT.plain {P : Program} {I : GI} {B : Nat → Prop} {Γ : Env} {Δ : List Own} {ops : Array Oper} {o : Oper} {F : VP} (hg : o.guard = none) (h : OpOk P I B Γ Δ o F) : OpT P I B Γ Δ ops o F := by
  intro m a w Q K hl hf hi hh hk
  rw [if_pos (by simp [Region.wanted, hg])]
  exact h m a w Q K (fun t ht p hp => hl t (looks_operand ht) p hp) hf hi hh hk
theorem getD_bool {a : Act} {g : Nat} {b : Bool} (h : a.tmps.getD g undef = .bool b) : a.tmps[g]? = some (.bool b) := by
  rw [Array.getD_eq_getD_getElem?] at h
  cases e : a.tmps[g]? with
  | none => rw [e] at h; simp [undef] at h
  | some v => rw [e] at h; simp at h; rw [h]
theorem OpT.guard {P : Program} {I : GI} {B : Nat → Prop} {Γ : Env} {Δ : List Own} {ops : Array Oper} {o : Oper} {F p : VP} {j g : Nat} {want b : Bool} (hg : o.guard = some (j, want))
    (hd : (ops[j]?).bind (·.dst) = some g) (hp : Γ.get g = some p) (hb : ∀ m v, p.on m v → v = .bool b) (h : b = want → OpOk P I B Γ Δ o F) : OpT P I B Γ Δ ops o (.cond (b = want) F) := by
  intro m a w Q K hl hf hi hh hk
  have hv : a.tmps.getD g undef = .bool b := hb m _ (hl g (by simp [Oper.looksAt, hg, hd]) p hp)
  have hw : Region.wanted o (yielded ops a.tmps) = (b == want) := by
    simp only [Region.wanted, hg, yielded, hd, Option.bind_some, getD_bool hv]
    cases b <;> cases want <;> rfl
  rw [hw]
  by_cases e : b = want
  · rw [if_pos (by simp [e])]
    exact h e m a w Q K (fun t ht q hq => hl t (looks_operand ht) q hq) hf hi hh (fun v m' w' gr hF => hk v m' w' gr ⟨fun _ => hF, fun hn => absurd e hn⟩)
  · rw [if_neg (by simp [e])]
    exact hk undef m w (Grow.refl hf) ⟨fun hc => absurd hc e, fun _ => rfl⟩
theorem OpT.guard2 {P : Program} {I : GI} {B : Nat → Prop} {Γ : Env} {Δ : List Own} {ops : Array Oper} {o : Oper} {F p : VP} {j g : Nat} {want b : Bool} {c : Prop} (hg : o.guard = some (j, want))
    (hd : (ops[j]?).bind (·.dst) = some g) (hp : Γ.get g = some (.cond c p)) (hb : ∀ m v, p.on m v → v = .bool b) (h : c → b = want → OpOk P I B Γ Δ o F) : OpT P I B Γ Δ ops o (.cond (c ∧ b = want) F) := by
  intro m a w Q K hl hf hi hh hk
  have hs := hl g (by simp [Oper.looksAt, hg, hd]) _ hp
  by_cases hc : c
  · have hv : a.tmps.getD g undef = .bool b := hb m _ (hs.1 hc)
    have hw : Region.wanted o (yielded ops a.tmps) = (b == want) := by
      simp only [Region.wanted, hg, yielded, hd, Option.bind_some, getD_bool hv]
      cases b <;> cases want <;> rfl
    rw [hw]
    by_cases e : b = want
    · rw [if_pos (by simp [e])]
      exact h hc e m a w Q K (fun t ht q hq => hl t (looks_operand ht) q hq) hf hi hh (fun v m' w' gr hF => hk v m' w' gr ⟨fun _ => hF, fun hn => absurd ⟨hc, e⟩ hn⟩)
    · rw [if_neg (by simp [e])]
      exact hk undef m w (Grow.refl hf) ⟨fun hc' => absurd hc'.2 e, fun _ => rfl⟩
  · have hv : a.tmps.getD g undef = undef := hs.2 hc
    have hw : Region.wanted o (yielded ops a.tmps) = false := by
      simp only [Region.wanted, hg, yielded, hd, Option.bind_some]
      rw [Array.getD_eq_getD_getElem?] at hv
      cases e : a.tmps[g]? with
      | none => cases want <;> rfl
      | some v => rw [e] at hv; simp at hv; subst hv; cases want <;> rfl
    rw [hw, if_neg (by simp)]
    exact hk undef m w (Grow.refl hf) ⟨fun hc' => absurd hc'.1 hc, fun _ => rfl⟩
section
variable {P : Program} {C : Cx} {Γ : Env} {Δ : List Own} {ks : List KI} {ops : Array Oper} {rest : List Oper} {o : Oper}
theorem looks_all {C : Cx} {Γ : Env} {Δ : List Own} {m : View} {a : Act} {w : World} (st : St C Γ Δ m a w) (l : List Tmp) : ∀ t, t ∈ l → ∀ p, Γ.get t = some p → p.on m (a.tmps.getD t undef) := fun t _ p hp => st.env t p hp
theorem SL.op {d : Nat} {F : VP} (h : OpT P C.I C.Y Γ Δ ops o F) (hd : o.dst = some d) (hN : Nat.ble (d + 1) C.N = true) (k : SL P C ((d, F) :: Γ) Δ ops rest ks) : SL P C Γ Δ ops (o :: rest) ks := by
  intro m a w st
  refine wpList_step fun K hK => h m a w _ K (looks_all st _) st.fits st.glob st.held fun v m' w' g hF => hK _ _ ?_
  rw [hd]
  exact k m' _ w' ((st.grow g).put (Nat.le_of_ble_eq_true hN) hF)
theorem SL.op0 {F : VP} (h : OpT P C.I C.Y Γ Δ ops o F) (hd : o.dst = none) (k : SL P C Γ Δ ops rest ks) : SL P C Γ Δ ops (o :: rest) ks := by
  intro m a w st
  refine wpList_step fun K hK => h m a w _ K (looks_all st _) st.fits st.glob st.held fun v m' w' g hF => hK _ _ ?_
  rw [hd]
  exact k m' a w' (st.grow g)
end

/-! a test -/
theorem SC.cond {P : Program} {C : Cx} {Γ : Env} {Δ : List Own} {ks : List KI} {t : Nat} {p : VP} {b : Bool} {x y : Code} (hp : Γ.get t = some p) (hb : ∀ m v, p.on m v → v = .bool b)
    (h1 : b = true → SC P C Γ Δ x ks) (h2 : b = false → SC P C Γ Δ y ks) : SC P C Γ Δ (.cond (.tmp t) x y) ks := by
  intro m a w st
  have hv : a.eval (.tmp t) = .bool b := hb m _ (st.env t p hp)
  exact wp_cond_split hv (fun e => h1 e m a w st) (fun e => h2 e m a w st)

/-! a loop: 'σ' is what a round knows, 'φ' what holds of it -/
def Again (C : Cx) {σ : Type} (G : σ → Env) (D : σ → List Own) (μ : σ → Nat) (φ : σ → Prop) (s : σ) (a : Act) (w : World) : Prop := ∃ n, n < μ s ∧ ∃ s' m, μ s' = n ∧ φ s' ∧ St C (G s') (D s') m a w
theorem SC.loop {P : Program} {C : Cx} {Γ : Env} {Δ : List Own} {ks : List KI} {c : Code} {σ : Type} (G : σ → Env) (D : σ → List Own) (μ : σ → Nat) (φ : σ → Prop) (s0 : σ) (h1 : φ s0)
    (h0 : ∀ m a w, St C Γ Δ m a w → ∃ m', St C (G s0) (D s0) m' a w)
    (round : ∀ s, φ s → SC P C (G s) (D s) c (.loop (Again C G D μ φ s) :: ks)) : SC P C Γ Δ (.loop c) ks := by
  intro m a w st
  refine wp_loop_ghost (fun n a w => ∃ s m, μ s = n ∧ φ s ∧ St C (G s) (D s) m a w) (μ s0) (let ⟨m', h⟩ := h0 m a w st; ⟨s0, m', rfl, h1, h⟩) ?_
  rintro n a' w' ⟨s, m', rfl, hφ, st'⟩
  exact round s hφ m' a' w' st'
theorem SK.round {P : Program} {C : Cx} {Γ : Env} {Δ : List Own} {ks : List KI} {σ : Type} {G : σ → Env} {D : σ → List Own} {μ : σ → Nat} {φ : σ → Prop} {s : σ} (s' : σ) (hμ : μ s' < μ s) (hφ : φ s')
    (h : ∀ m a w, St C Γ Δ m a w → ∃ m', St C (G s') (D s') m' a w) : SK P C Γ Δ (.loop (Again C G D μ φ s) :: ks) :=
  fun m a w st => let ⟨m', k⟩ := h m a w st; ⟨μ s', hμ, s', m', rfl, hφ, k⟩
/-- ways that meet -/
def Meets (C : Cx) {σ : Type} (G : σ → Env) (D : σ → List Own) (φ : σ → Prop) (a : Act) (w : World) : Prop := ∃ s m, φ s ∧ St C (G s) (D s) m a w
theorem SC.meet {P : Program} {C : Cx} {Γ : Env} {Δ : List Own} {ks : List KI} {c y : Code} {σ : Type} (G : σ → Env) (D : σ → List Own) (φ : σ → Prop)
    (h : SC P C Γ Δ c (.loop (Meets C G D φ) :: ks)) (k : ∀ s, φ s → SC P C (G s) (D s) y ks) : SC P C Γ Δ c (.code y :: ks) := by
  intro m a w st
  refine wp_mono (h m a w st) ?_
  intro e a' w' hq
  cases e with
  | normal => obtain ⟨s, m', hφ, st'⟩ := hq; exact k s hφ m' a' w' st'
  | exit id => exact hq
  | goto l => exact hq
  | ret => exact hq
  | panic ch => exact hq
  | outgrown => exact hq
theorem SK.met {P : Program} {C : Cx} {Γ : Env} {Δ : List Own} {ks : List KI} {σ : Type} {G : σ → Env} {D : σ → List Own} {φ : σ → Prop} (s : σ) (hφ : φ s) (h : ∀ m a w, St C Γ Δ m a w → ∃ m', St C (G s) (D s) m' a w) : SK P C Γ Δ (.loop (Meets C G D φ) :: ks) :=
  fun m a w st => let ⟨m', k⟩ := h m a w st; ⟨s, m', hφ, k⟩
theorem holds_nil {m : View} {a : Act} : Env.holds [] m a := fun t p h => by simp [Env.get] at h
theorem holds_cons {k : Nat} {p : VP} {Γ : Env} {m : View} {a : Act} (h : p.on m (a.tmps.getD k undef)) (t : Env.holds Γ m a) : Env.holds ((k, p) :: Γ) m a := by
  intro s q hq
  by_cases e : s = k
  · subst e; rw [Env.get_same] at hq; cases hq; exact h
  · rw [Env.get_ne _ _ e] at hq; exact t s q hq

/-! a region whose order Go leaves open -/
/-- one that writes what is owned -/
def OpW (P : Program) (C : Cx) (Γ : Env) (Δ : List Own) (ops : Array Oper) (o : Oper) (Δ' : List Own) : Prop :=
  ∀ (m : View) (a : Act) (w : World) (Q : Exit → Act → World → Prop) (K : Act → World → Prop), (∀ t, t ∈ o.looksAt ops → ∀ p, Γ.get t = some p → p.on m (a.tmps.getD t undef)) → St C [] Δ m a w →
    (∀ m' w', m.le m' → St C [] Δ' m' a w' → K a w') → if Region.wanted o (yielded ops a.tmps) then o.wp P a w K Q else K (a.put o.dst undef) w
theorem SL.opW {P : Program} {C : Cx} {Γ : Env} {Δ Δ' : List Own} {ks : List KI} {ops : Array Oper} {rest : List Oper} {o : Oper} (h : OpW P C Γ Δ ops o Δ') (k : SL P C Γ Δ' ops rest ks) : SL P C Γ Δ ops (o :: rest) ks := by
  intro m a w st
  refine wpList_step fun K hK => h m a w _ K (looks_all st _) (st.env' (fun t p hp => by simp [Env.get] at hp)) fun m' w' hm st' => hK _ _ (k m' a w' (st'.env' (st.env.up hm)))
/-- how each is met: 0: whatever is owned · 1: it looks into what is owned · 2: it writes what is owned -/
inductive DT (P : Program) (C : Cx) (Δ0 : List Own) (ops : Array Oper) (Γ0 : Env) : Nat → Env → List Own → List Nat → Prop
  | nil : DT P C Δ0 ops Γ0 0 Γ0 Δ0 []
  | op {i : Nat} {Γ : Env} {Δ : List Own} {ks : List Nat} {o : Oper} {d : Nat} {F : VP} (h : DT P C Δ0 ops Γ0 i Γ Δ ks) (ho : ops[i]? = some o) (hd : o.dst = some d) (hT : ∀ Δ, OpT P C.I C.Y Γ Δ ops o F) : DT P C Δ0 ops Γ0 (i + 1) ((d, F) :: Γ) Δ (ks ++ [0])
  | op0 {i : Nat} {Γ : Env} {Δ : List Own} {ks : List Nat} {o : Oper} {F : VP} (h : DT P C Δ0 ops Γ0 i Γ Δ ks) (ho : ops[i]? = some o) (hd : o.dst = none) (hT : ∀ Δ, OpT P C.I C.Y Γ Δ ops o F) : DT P C Δ0 ops Γ0 (i + 1) Γ Δ (ks ++ [0])
  | opR {i : Nat} {Γ : Env} {Δ : List Own} {ks : List Nat} {o : Oper} {d : Nat} {F : VP} (h : DT P C Δ0 ops Γ0 i Γ Δ ks) (ho : ops[i]? = some o) (hd : o.dst = some d) (hT : OpT P C.I C.Y Γ Δ ops o F) : DT P C Δ0 ops Γ0 (i + 1) ((d, F) :: Γ) Δ (ks ++ [1])
  | wr {i : Nat} {Γ : Env} {Δ Δ' : List Own} {ks : List Nat} {o : Oper} (h : DT P C Δ0 ops Γ0 i Γ Δ ks) (ho : ops[i]? = some o) (hd : o.dst = none) (hT : OpW P C Γ Δ ops o Δ') : DT P C Δ0 ops Γ0 (i + 1) Γ Δ' (ks ++ [2])
def nextEnv (o : Oper) (F : VP) (Γ : Env) : Env := match o.dst with
  | some d => (d, F) :: Γ
  | none => Γ
structure DF (P : Program) (C : Cx) (ops : Array Oper) (kd : Nat) (o : Oper) (F : VP) (Γ Γ' : Env) (Δ Δ' : List Own) : Prop where
  env : Γ' = nextEnv o F Γ
  own : kd ≠ 2 → Δ' = Δ
  k0 : kd ≠ 1 → kd ≠ 2 → ∀ Δ, OpT P C.I C.Y Γ Δ ops o F
  k1 : kd = 1 → OpT P C.I C.Y Γ Δ ops o F
  k2 : kd = 2 → OpW P C Γ Δ ops o Δ' ∧ o.dst = none
theorem DT.facts {P : Program} {C : Cx} {Δ0 : List Own} {ops : Array Oper} {Γ0 : Env} {n : Nat} {Γ : Env} {Δ : List Own} {ks : List Nat} (h : DT P C Δ0 ops Γ0 n Γ Δ ks) :
    ks.length = n ∧ ∃ (F : Nat → VP) (G : Nat → Env) (D : Nat → List Own), G 0 = Γ0 ∧ G n = Γ ∧ D 0 = Δ0 ∧ D n = Δ ∧ ∀ j, j < n → ∃ o, ops[j]? = some o ∧ DF P C ops (ks.getD j 0) o (F j) (G j) (G (j + 1)) (D j) (D (j + 1)) := by
  have ext : ∀ {i : Nat} {Γ Γ' : Env} {Δ Δ' : List Own} {ks : List Nat} {o : Oper} {F0 : VP} {kd : Nat}, (ks.length = i ∧ ∃ (F : Nat → VP) (G : Nat → Env) (D : Nat → List Own), G 0 = Γ0 ∧ G i = Γ ∧ D 0 = Δ0 ∧ D i = Δ ∧ ∀ j, j < i → ∃ o, ops[j]? = some o ∧ DF P C ops (ks.getD j 0) o (F j) (G j) (G (j + 1)) (D j) (D (j + 1))) →
      ops[i]? = some o → DF P C ops kd o F0 Γ Γ' Δ Δ' → ((ks ++ [kd]).length = i + 1 ∧ ∃ (F : Nat → VP) (G : Nat → Env) (D : Nat → List Own), G 0 = Γ0 ∧ G (i + 1) = Γ' ∧ D 0 = Δ0 ∧ D (i + 1) = Δ' ∧ ∀ j, j < i + 1 → ∃ o, ops[j]? = some o ∧ DF P C ops ((ks ++ [kd]).getD j 0) o (F j) (G j) (G (j + 1)) (D j) (D (j + 1))) := by
    rintro i Γ Γ' Δ Δ' ks o F0 kd ⟨hl, F, G, D, g0, gn, d0, dn, hj⟩ ho hDF
    refine ⟨by simp [hl], fun j => if j = i then F0 else F j, fun j => if j = i + 1 then Γ' else G j, fun j => if j = i + 1 then Δ' else D j, by simp [g0], by simp, by simp [d0], by simp, fun j hjn => ?_⟩
    by_cases e : j = i
    · subst e
      refine ⟨o, ho, ?_⟩
      have hk : (ks ++ [kd]).getD j 0 = kd := by simp [List.getD, ← hl]
      rw [hk]
      simpa [gn, dn] using hDF
    · obtain ⟨o', h1, h2⟩ := hj j (by omega)
      refine ⟨o', h1, ?_⟩
      have e1 : j ≠ i + 1 := by omega
      have e2 : ¬ j + 1 = i + 1 := by omega
      have hk : (ks ++ [kd]).getD j 0 = ks.getD j 0 := by
        rw [List.getD_eq_getElem?_getD, List.getElem?_append_left (by omega), ← List.getD_eq_getElem?_getD]
      rw [hk]
      simpa [e, e1, e2] using h2
  induction h with
  | nil => exact ⟨rfl, fun _ => .any, fun _ => Γ0, fun _ => Δ0, rfl, rfl, rfl, rfl, fun j hj => by omega⟩
  | op h ho hd hT ih => exact ext ih ho ⟨by simp [nextEnv, hd], fun _ => rfl, fun _ _ => hT, (fun e => by cases e), (fun e => by cases e)⟩
  | @op0 i Γ Δ ks o F h ho hd hT ih => exact ext (F0 := F) ih ho ⟨by simp [nextEnv, hd], fun _ => rfl, fun _ _ => hT, (fun e => by cases e), (fun e => by cases e)⟩
  | opR h ho hd hT ih => exact ext ih ho ⟨by simp [nextEnv, hd], fun _ => rfl, fun e => absurd rfl e, fun _ => hT, (fun e => by cases e)⟩
  | wr h ho hd hT ih => exact ext (F0 := .any) ih ho ⟨by simp [nextEnv, hd], fun e => absurd rfl e, fun _ e => absurd rfl e, (fun e => by cases e), fun _ => ⟨hT, hd⟩⟩

def depsOf (o : Oper) : List Nat := (o.after.toList.filter (Region.binds .any ·)).map (·.on)
def maskOf (acc : List Nat) (es : List Nat) : Nat := es.foldl (fun s e => s ||| (1 <<< e) ||| acc.getD e 0) 0
def anc : List Oper → List Nat → List Nat
  | [], acc => acc
  | o :: os, acc => anc os (acc ++ [maskOf acc (depsOf o)])
theorem testBit_one_shift (e j : Nat) : (1 <<< e).testBit j = decide (e = j) := by
  rw [Nat.one_shiftLeft, Nat.testBit_two_pow]
theorem maskOf_bit {acc : List Nat} (es : List Nat) (j : Nat) : (maskOf acc es).testBit j = true → ∃ e, e ∈ es ∧ (e = j ∨ (acc.getD e 0).testBit j = true) := by
  have key : ∀ (es : List Nat) (s : Nat), (es.foldl (fun s e => s ||| (1 <<< e) ||| acc.getD e 0) s).testBit j = true → s.testBit j = true ∨ ∃ e, e ∈ es ∧ (e = j ∨ (acc.getD e 0).testBit j = true) := by
    intro es
    induction es with
    | nil => intro s h; exact .inl h
    | cons e es ih =>
      intro s h
      rcases ih _ h with h | ⟨x, hx, hj⟩
      · simp only [Nat.testBit_or, testBit_one_shift, Bool.or_eq_true, decide_eq_true_eq] at h
        rcases h with (h | h) | h
        · exact .inl h
        · exact .inr ⟨e, by simp, .inl h⟩
        · exact .inr ⟨e, by simp, .inr h⟩
      · exact .inr ⟨x, by simp [hx], hj⟩
  intro h
  rcases key es 0 h with h | h
  · simp at h
  · exact h
def Closed (ops : Array Oper) (L : Nat → Bool) : Prop := ∀ i o, ops[i]? = some o → L i = true → ∀ e, e ∈ depsOf o → L e = true
theorem anc_spec {ops : Array Oper} {L : Nat → Bool} (hL : Closed ops L) : ∀ (l : List Oper) (acc : List Nat), (∀ i, l[i]? = ops[acc.length + i]?) →
    (∀ i, i < acc.length → ∀ o, ops[i]? = some o → (∀ e, e ∈ depsOf o → L e = true) → ∀ j, (acc.getD i 0).testBit j = true → L j = true) →
    ∀ i, i < acc.length + l.length → ∀ o, ops[i]? = some o → (∀ e, e ∈ depsOf o → L e = true) → ∀ j, ((anc l acc).getD i 0).testBit j = true → L j = true := by
  intro l
  induction l with
  | nil => intro acc _ h i hi; simpa [anc] using h i (by simpa using hi)
  | cons o os ih =>
    intro acc hl h i hi
    simp only [anc]
    refine ih (acc ++ [maskOf acc (depsOf o)]) (fun i => ?_) (fun i hi o' ho' hd j hj => ?_) i (by simp at hi ⊢; omega)
    · have := hl (i + 1)
      simpa [Nat.add_assoc, Nat.add_comm 1 i] using this
    · simp only [List.length_append, List.length_singleton] at hi
      by_cases e : i < acc.length
      · rw [List.getD_eq_getElem?_getD, List.getElem?_append_left e, ← List.getD_eq_getElem?_getD] at hj
        exact h i e o' ho' hd j hj
      · have e : i = acc.length := by omega
        subst e
        have h0 : ops[acc.length]? = some o := by simpa using (hl 0).symm
        rw [h0] at ho'; cases ho'
        have hg : (acc ++ [maskOf acc (depsOf o)]).getD acc.length 0 = maskOf acc (depsOf o) := by simp [List.getD]
        rw [hg] at hj
        obtain ⟨e, he, hj⟩ := maskOf_bit _ _ hj
        rcases hj with rfl | hj
        · exact hd e he
        · by_cases hlt : e < acc.length
          · cases hoe : ops[e]? with
            | none =>
              have := hd e he
              have hge := Array.getElem?_eq_none_iff.1 hoe
              have hsz : acc.length < ops.size := (Array.getElem?_eq_some_iff.1 h0).1
              omega
            | some oe => exact h e hlt oe hoe (hL e oe hoe (hd e he)) j hj
          · rw [List.getD_eq_getElem?_getD, List.getElem?_eq_none (by omega)] at hj
            simp at hj
def dcheck (ops : Array Oper) (k : Nat) (kds : List Nat) : Bool :=
  let ms := anc ops.toList []
  let n := ops.size
  Nat.ble k n &&
  ((List.range n).all fun i => ((ops[i]?).map fun o => (depsOf o).all fun e => Nat.blt e i).getD true) &&
  ((List.range k).all fun i => (List.range k).all fun j => Nat.beq i j || (match (ops[i]?).bind (·.dst), (ops[j]?).bind (·.dst) with
    | some d, some d' => !(Nat.beq d d')
    | _, _ => true)) &&
  ((List.range k).all fun i => ((ops[i]?).map fun o => (o.looksAt ops).all fun t => (List.range k).all fun j => match (ops[j]?).bind (·.dst) with
    | some d => !(Nat.beq d t) || (Nat.blt j i && (ms.getD i 0).testBit j) || Nat.beq i j || (Nat.blt i j && (ms.getD j 0).testBit i)
    | none => true).getD true) &&
  ((List.range n).all fun i => Nat.blt i k || ((List.range i).all fun j => (ms.getD i 0).testBit j)) &&
  ((List.range k).all fun i => Nat.beq (kds.getD i 0) 0 || ((List.range k).all fun j => !(Nat.beq (kds.getD j 0) 2) || Nat.beq i j || (Nat.blt j i && (ms.getD i 0).testBit j) || (Nat.blt i j && (ms.getD j 0).testBit i)))
end Go.Inn
