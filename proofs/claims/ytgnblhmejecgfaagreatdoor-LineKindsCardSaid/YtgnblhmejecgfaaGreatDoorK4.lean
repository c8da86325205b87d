/- Values of Go that read as data of Lean: numbers, bools, texts, slices, structs; a function's contract; its body; a call. No program in it. -/
import Derived.Test.YtgnblhmejecgfaaGreatDoorK3
import Derived.Laws.Sem
set_option linter.all false
namespace Go.Inn
open Go Go.RowKit

abbrev Str := List UInt8
def str (l : Str) : Value := .string ⟨l.toArray⟩
/-- a datum, told by cells of one view -/
class Rep (α : Type) where
  n : Nat
  agg : Bool
  cells : View → α → List Value → Prop
  len : ∀ {m : View} {x : α} {cs : List Value}, cells m x cs → cs.length = n
  one : agg = false → n = 1
  plain : ∀ {m : View} {x : α} {cs : List Value}, cells m x cs → ∀ v, v ∈ cs → v.oneCell' = true
  up : ∀ {m m' : View} {x : α} {cs : List Value}, m.le m' → cells m x cs → cells m' x cs
def packed (agg : Bool) (cs : List Value) : Value := if agg then .agg cs.toArray else cs.headD undef
def V {α : Type} [Rep α] (x : α) : VP := ⟨fun m v => ∃ cs, Rep.cells m x cs ∧ v = packed (Rep.agg α) cs, fun hm ⟨cs, h, e⟩ => ⟨cs, Rep.up hm h, e⟩⟩
theorem packed_cells {α : Type} [Rep α] {m : View} {x : α} {cs : List Value} (h : Rep.cells m x cs) : (packed (Rep.agg α) cs).cells = cs.toArray := by
  unfold packed
  cases hag : Rep.agg α with
  | true => rfl
  | false =>
    have hl := Rep.len h
    rw [Rep.one hag] at hl
    match cs, hl with
    | [v], _ =>
      have := Rep.plain h v (by simp)
      cases v <;> first | rfl | (simp [Value.oneCell'] at this)
/-- one cell -/
@[reducible] def Rep.scalar {α : Type} (ok : α → Prop) (enc : α → Value) (h1 : ∀ x, (enc x).oneCell' = true) : Rep α where
  n := 1
  agg := false
  cells _ x cs := cs = [enc x] ∧ ok x
  len h := by rw [h.1]; rfl
  one _ := rfl
  plain h v hv := by rw [h.1] at hv; simp at hv; rw [hv]; exact h1 _
  up _ h := h
def in64 (x : Int) : Prop := -9223372036854775808 ≤ x ∧ x ≤ 9223372036854775807
instance : Rep Int := Rep.scalar in64 (Value.int .i64) (fun _ => rfl)
instance : Rep Bool := Rep.scalar (fun _ => True) Value.bool (fun _ => rfl)
instance : Rep UInt8 := Rep.scalar (fun _ => True) (fun x => Value.int .u8 x.toNat) (fun _ => rfl)
instance : Rep UInt16 := Rep.scalar (fun _ => True) (fun x => Value.int .u16 x.toNat) (fun _ => rfl)
instance : Rep UInt32 := Rep.scalar (fun _ => True) (fun x => Value.int .u32 x.toNat) (fun _ => rfl)
instance repStr : Rep Str := Rep.scalar (fun l => l.length ≤ maxLen) str (fun _ => rfl)
theorem V_int {x : Int} {m : View} {v : Value} (h : (V x).on m v) : v = .int .i64 x ∧ in64 x := by
  obtain ⟨cs, ⟨rfl, hx⟩, e⟩ := h; exact ⟨e, hx⟩
theorem V_bool {b : Bool} {m : View} {v : Value} (h : (V b).on m v) : v = .bool b := by
  obtain ⟨cs, ⟨rfl, _⟩, e⟩ := h; exact e
theorem V_u8 {x : UInt8} {m : View} {v : Value} (h : (V x).on m v) : v = .int .u8 x.toNat := by
  obtain ⟨cs, ⟨rfl, _⟩, e⟩ := h; exact e
theorem V_str {x : Str} {m : View} {v : Value} (h : (V x).on m v) : v = str x ∧ x.length ≤ maxLen := by
  obtain ⟨cs, ⟨rfl, hx⟩, e⟩ := h; exact ⟨e, hx⟩
theorem V_int_mk {x : Int} (hx : in64 x) (m : View) : (V x).on m (.int .i64 x) := ⟨_, ⟨rfl, hx⟩, rfl⟩
theorem V_bool_mk (b : Bool) (m : View) : (V b).on m (.bool b) := ⟨_, ⟨rfl, trivial⟩, rfl⟩
theorem V_u8_mk (x : UInt8) (m : View) : (V x).on m (.int .u8 x.toNat) := ⟨_, ⟨rfl, trivial⟩, rfl⟩
theorem V_str_mk {x : Str} (hx : x.length ≤ maxLen) (m : View) : (V x).on m (str x) := ⟨_, ⟨rfl, hx⟩, rfl⟩

/-- cells of a block that read as a datum -/
def At {α : Type} [Rep α] (m : View) (b off : Nat) (x : α) : Prop :=
  ∃ (c : Array Value) (e : TypeId) (fr : Nat × Nat) (cs : List Value), m b = some (.cells c e fr) ∧ Rep.cells m x cs ∧ (∀ j, j < Rep.n α → c[off + j]? = cs[j]?)
theorem At.up {α : Type} [Rep α] {m m' : View} {b off : Nat} {x : α} (hm : m.le m') (h : At m b off x) : At m' b off x := by
  obtain ⟨c, e, fr, cs, h1, h2, h3⟩ := h
  exact ⟨c, e, fr, cs, hm _ _ h1, Rep.up hm h2, h3⟩
def RowAt {α : Type} [Rep α] (m : View) (A : Option Addr) (xs : List α) : Prop :=
  xs = [] ∨ ∃ b off, A = some ⟨b, off, none⟩ ∧ ∀ (i : Nat) (h : i < xs.length), At m b (off + i * Rep.n α) (xs[i]'h)
instance repList {α : Type} [Rep α] : Rep (List α) where
  n := 1
  agg := false
  cells m xs cs := ∃ A cap, cs = [.slice A xs.length cap] ∧ xs.length ≤ cap ∧ cap ≤ maxLen ∧ RowAt m A xs
  len h := by obtain ⟨A, cap, rfl, _⟩ := h; rfl
  one _ := rfl
  plain h v hv := by obtain ⟨A, cap, rfl, _⟩ := h; simp at hv; rw [hv]; rfl
  up hm h := by
    obtain ⟨A, cap, rfl, h1, h2, h3⟩ := h
    refine ⟨A, cap, rfl, h1, h2, ?_⟩
    rcases h3 with h3 | ⟨b, off, h3, h4⟩
    · exact .inl h3
    · exact .inr ⟨b, off, h3, fun i hi => (h4 i hi).up hm⟩
theorem V_list {α : Type} [Rep α] {xs : List α} {m : View} {v : Value} (h : (V xs).on m v) : ∃ A cap, v = .slice A xs.length cap ∧ xs.length ≤ cap ∧ cap ≤ maxLen ∧ RowAt m A xs := by
  obtain ⟨cs, ⟨A, cap, rfl, h1, h2, h3⟩, e⟩ := h
  exact ⟨A, cap, e, h1, h2, h3⟩
/-- a struct's value, as its cells one behind the other -/
def Rep.pairs {α β : Type} [Rep α] [Rep β] (m : View) (x : α) (y : β) (cs : List Value) : Prop := ∃ c d, cs = c ++ d ∧ Rep.cells m x c ∧ Rep.cells m y d
instance repPair {α β : Type} [Rep α] [Rep β] : Rep (α × β) where
  n := Rep.n α + Rep.n β
  agg := true
  cells m p cs := Rep.pairs m p.1 p.2 cs
  len h := by obtain ⟨c, d, rfl, h1, h2⟩ := h; rw [List.length_append, Rep.len h1, Rep.len h2]
  one h := by cases h
  plain h v hv := by
    obtain ⟨c, d, rfl, h1, h2⟩ := h
    rcases List.mem_append.1 hv with hv | hv
    · exact Rep.plain h1 v hv
    · exact Rep.plain h2 v hv
  up hm h := by obtain ⟨c, d, rfl, h1, h2⟩ := h; exact ⟨c, d, rfl, Rep.up hm h1, Rep.up hm h2⟩
@[reducible] def Rep.iso {α β : Type} [Rep β] (f : α → β) : Rep α where
  n := Rep.n β
  agg := true
  cells m x cs := Rep.cells m (f x) cs
  len h := Rep.len h
  one h := by cases h
  plain h := Rep.plain h
  up hm h := Rep.up hm h
/-- an array: its cells one behind the other -/
structure Arr (k : Nat) (α : Type) where
  list : List α
  len : list.length = k
def arrCells {α : Type} [Rep α] (m : View) : List α → List Value → Prop
  | [], cs => cs = []
  | x :: xs, cs => ∃ c d, cs = c ++ d ∧ Rep.cells m x c ∧ arrCells m xs d
theorem arrCells_len {α : Type} [Rep α] {m : View} : ∀ {xs : List α} {cs : List Value}, arrCells m xs cs → cs.length = xs.length * Rep.n α
  | [], cs, h => by cases h; simp
  | x :: xs, cs, h => by obtain ⟨c, d, rfl, h1, h2⟩ := h; rw [List.length_append, Rep.len h1, arrCells_len h2, List.length_cons, Nat.add_mul]; omega
theorem arrCells_plain {α : Type} [Rep α] {m : View} : ∀ {xs : List α} {cs : List Value}, arrCells m xs cs → ∀ v, v ∈ cs → v.oneCell' = true
  | [], cs, h, v, hv => by cases h; cases hv
  | x :: xs, cs, h, v, hv => by
    obtain ⟨c, d, rfl, h1, h2⟩ := h
    rcases List.mem_append.1 hv with hv | hv
    · exact Rep.plain h1 v hv
    · exact arrCells_plain h2 v hv
theorem arrCells_up {α : Type} [Rep α] {m m' : View} (hm : m.le m') : ∀ {xs : List α} {cs : List Value}, arrCells m xs cs → arrCells m' xs cs
  | [], _, h => h
  | x :: xs, _, h => by obtain ⟨c, d, rfl, h1, h2⟩ := h; exact ⟨c, d, rfl, Rep.up hm h1, arrCells_up hm h2⟩
instance repArr {k : Nat} {α : Type} [Rep α] : Rep (Arr k α) where
  n := k * Rep.n α
  agg := true
  cells m x cs := arrCells m x.list cs
  len h := by rw [arrCells_len h, Arr.len]
  one h := by cases h
  plain h := arrCells_plain h
  up hm h := arrCells_up hm h

/-! pointers -/
def VP.ptr (b off : Nat) : VP := .eq (.pointer (some ⟨b, off, none⟩))
/-- a pointer to what stays -/
def VP.ref {α : Type} [Rep α] (x : α) : VP := ⟨fun m v => ∃ b off, v = .pointer (some ⟨b, off, none⟩) ∧ At m b off x, fun hm ⟨b, off, e, h⟩ => ⟨b, off, e, h.up hm⟩⟩
/-- a function value -/
def VP.clo (f : FuncId) (ps : List VP) : VP := ⟨fun m v => ∃ cs : List Value, v = .func (.func f) #[] cs.toArray ∧ Alls m ps cs, fun hm ⟨cs, e, h⟩ => ⟨cs, e, h.up hm⟩⟩
theorem Typ.fn {I : GI} {Γ : Env} {f : FuncId} : Typ I Γ (.func f) (.clo f []) := fun _ _ _ _ => ⟨[], rfl, trivial⟩

/-! a contract -/
def Ret (m : View) (w : World) (r : VP) : Ending → World → Prop := fun e w' => ∃ v m', e = .returned v ∧ Grow m w m' w' ∧ r.on m' v
def FnSpec (P : Program) (I : GI) (f : FuncId) (ps : List VP) (r : VP) : Prop :=
  ∀ (m : View) (w : World) (args : List Value), m.fits w → I.on m → Alls m ps args → Calls P f args.toArray w (Ret m w r)
def RetR (P : Program) (fn : Func) (m0 : View) (w0 : World) (r : VP) : Act → World → Prop := fun a w => a.defers = [] ∧ ∃ v, (results fn a.tmps).run P w = .ok v w ∧ Ret m0 w0 r (.returned v) w
def argEnv : Nat → List VP → Env
  | _, [] => []
  | i, p :: ps => (i, p) :: argEnv (i + 1) ps
theorem argEnv_get : ∀ (ps : List VP) (i t : Nat) (p : VP), (argEnv i ps).get t = some p → i ≤ t ∧ ps[t - i]? = some p := by
  intro ps
  induction ps with
  | nil => intro i t p h; simp [argEnv, Env.get] at h
  | cons q ps ih =>
    intro i t p h
    by_cases e : t = i
    · subst e
      rw [argEnv, Env.get_same] at h
      cases h
      exact ⟨Nat.le_refl _, by simp⟩
    · rw [argEnv, Env.get_ne _ _ e] at h
      obtain ⟨h1, h2⟩ := ih (i + 1) t p h
      refine ⟨by omega, ?_⟩
      have : t - i = (t - (i + 1)) + 1 := by omega
      rw [this]; simpa using h2
theorem FnSpec.enter {P : Program} {I : GI} {f : FuncId} {ps : List VP} {r : VP} {fn : Func} {c : Code} {N : Nat} (hf : P.funcs[f]? = some fn) (hb : fn.body = some c) (hN : fn.ntmps = N) (hp : Nat.ble ps.length N = true)
    (h : ∀ (m0 : View) (w0 : World), SC P ⟨I, N, w0, m0, RetR P fn m0 w0 r, fun _ => False⟩ (argEnv 0 ps) [] c []) : FnSpec P I f ps r := by
  intro m w args hfit hI ha
  refine calls_of_wp hf hb ?_
  have hl := ha.length
  have hple := Nat.le_of_ble_eq_true hp
  refine wp_mono (h m w m { tmps := args.toArray ++ Array.replicate (fn.ntmps - args.toArray.size) undef, defers := [] } w ?_) ?_
  · refine { size := ?_, defers := rfl, env := ?_, held := Held.nil _ _ _, fits := hfit, below := BelowX.refl _ _, le := View.le_refl _, fresh := fun _ _ _ => rfl, glob := hI }
    · simp [hN]; omega
    · intro t p ht
      obtain ⟨_, h2⟩ := argEnv_get ps 0 t p ht
      obtain ⟨v, hv, hpv⟩ := ha.get (by simpa using h2)
      have hlt : t < args.length := (List.getElem?_eq_some_iff.1 hv).1
      have : (args.toArray ++ Array.replicate (fn.ntmps - args.toArray.size) undef).getD t undef = v := by
        rw [Array.getD_eq_getD_getElem?, Array.getElem?_append_left (by simpa using hlt)]
        simp [hv]
      show p.on m ((args.toArray ++ Array.replicate (fn.ntmps - args.toArray.size) undef).getD t undef)
      rw [this]; exact hpv
  · intro e a' w' hq
    cases e with
    | normal => obtain ⟨hd, v, hr, hR⟩ := hq; exact ⟨hd, v, hr, hR⟩
    | ret => obtain ⟨hd, v, hr, hR⟩ := hq; exact ⟨hd, v, hr, hR⟩
    | exit id => exact hq.elim
    | goto l => exact hq.elim
    | panic ch => exact hq.elim
    | outgrown => exact hq.elim
theorem FnSpec.weak {P : Program} {I : GI} {f : FuncId} {ps : List VP} {r r' : VP} (hw : ∀ m v, r.on m v → r'.on m v) (h : FnSpec P I f ps r) : FnSpec P I f ps r' :=
  fun m w args hf hi ha => (h m w args hf hi ha).mono fun _ _ ⟨v, m', e, g, hr⟩ => ⟨v, m', e, g, hw m' v hr⟩
theorem St.toGrow {I : GI} {N : Nat} {w0 : World} {m0 : View} {R : Act → World → Prop} {Γ : Env} {Δ : List Own} {m : View} {a : Act} {w : World} (h : St ⟨I, N, w0, m0, R, fun _ => False⟩ Γ Δ m a w) : Grow m0 w0 m w :=
  ⟨h.le, h.fits, BelowX.plain h.below, fun k hk => h.fresh k hk (fun h => h)⟩
/-- a result variable -/
def resSem (tmps : Array Value) : ResultVar → Sem Value
  | .tmp t => pure (tmps.getD t undef)
  | .cell a t => do loadVar t (← asAddr (tmps.getD a undef))
theorem results_sem (fn : Func) (tmps : Array Value) : results fn tmps = (do let vs ← fn.results.mapM (resSem tmps); pure (if h : vs.size = 1 then vs[0] else .tuple vs)) := by
  unfold results
  have : (fun | .tmp t => pure (tmps.getD t undef) | .cell a t => do loadVar t (← asAddr (tmps.getD a undef)) : ResultVar → Sem Value) = resSem tmps := by
    funext rv; cases rv <;> rfl
  rw [← this]
  rfl
def ResV (P : Program) (a : Act) (w : World) (rv : ResultVar) (v : Value) : Prop := (resSem a.tmps rv).run P w = .ok v w
def ResT (P : Program) (C : Cx) (Γ : Env) (Δ : List Own) (rv : ResultVar) (p : VP) : Prop := ∀ m a w, St C Γ Δ m a w → ∃ v, ResV P a w rv v ∧ p.on m v
theorem ResT.tmp {P : Program} {C : Cx} {Γ : Env} {Δ : List Own} {t : Nat} {p : VP} (h : Γ.get t = some p) : ResT P C Γ Δ (.tmp t) p := fun _ _ _ st => ⟨_, rfl, st.env t p h⟩
theorem V_eq {α : Type} [Rep α] {x y : α} (e : x = y) {m : View} {v : Value} (h : (V x).on m v) : (V y).on m v := e ▸ h
theorem ResT.eq {P : Program} {C : Cx} {Γ : Env} {Δ : List Own} {t : Nat} {α : Type} [Rep α] {x y : α} (h : Γ.get t = some (V x)) (e : x = y) : ResT P C Γ Δ (.tmp t) (V y) := fun _ _ _ st => ⟨_, rfl, V_eq e (st.env t _ h)⟩
theorem ResT.weak {P : Program} {C : Cx} {Γ : Env} {Δ : List Own} {rv : ResultVar} {p q : VP} (hw : ∀ m v, p.on m v → q.on m v) (h : ResT P C Γ Δ rv p) : ResT P C Γ Δ rv q :=
  fun m a w st => let ⟨v, h1, h2⟩ := h m a w st; ⟨v, h1, hw m v h2⟩
theorem SR.one {P : Program} {I : GI} {N : Nat} {w0 : World} {m0 : View} {fn : Func} {r : VP} {Γ : Env} {Δ : List Own} {rv : ResultVar} (hr : fn.results = #[rv]) (h : ResT P ⟨I, N, w0, m0, RetR P fn m0 w0 r, fun _ => False⟩ Γ Δ rv r) :
    SR ⟨I, N, w0, m0, RetR P fn m0 w0 r, fun _ => False⟩ Γ Δ := by
  intro m a w st
  obtain ⟨v, hv, hp⟩ := h m a w st
  refine ⟨st.defers, v, ?_, v, m, rfl, st.toGrow, hp⟩
  have hv : (resSem a.tmps rv).run P w = .ok v w := hv
  rw [results_sem, hr]
  simp [hv]
theorem SR.two {P : Program} {I : GI} {N : Nat} {w0 : World} {m0 : View} {fn : Func} {r1 r2 : VP} {Γ : Env} {Δ : List Own} {rv1 rv2 : ResultVar} (hr : fn.results = #[rv1, rv2])
    (h1 : ResT P ⟨I, N, w0, m0, RetR P fn m0 w0 (.tup [r1, r2]), fun _ => False⟩ Γ Δ rv1 r1) (h2 : ResT P ⟨I, N, w0, m0, RetR P fn m0 w0 (.tup [r1, r2]), fun _ => False⟩ Γ Δ rv2 r2) :
    SR ⟨I, N, w0, m0, RetR P fn m0 w0 (.tup [r1, r2]), fun _ => False⟩ Γ Δ := by
  intro m a w st
  obtain ⟨v1, hv1, hp1⟩ := h1 m a w st
  obtain ⟨v2, hv2, hp2⟩ := h2 m a w st
  refine ⟨st.defers, .tuple #[v1, v2], ?_, .tuple #[v1, v2], m, rfl, st.toGrow, [v1, v2], rfl, hp1, hp2, trivial⟩
  have e1 : (resSem a.tmps rv1).run P w = .ok v1 w := hv1
  have e2 : (resSem a.tmps rv2).run P w = .ok v2 w := hv2
  rw [results_sem, hr]
  simp [e1, e2]
theorem SR.three {P : Program} {I : GI} {N : Nat} {w0 : World} {m0 : View} {fn : Func} {r1 r2 r3 : VP} {Γ : Env} {Δ : List Own} {rv1 rv2 rv3 : ResultVar} (hr : fn.results = #[rv1, rv2, rv3])
    (h1 : ResT P ⟨I, N, w0, m0, RetR P fn m0 w0 (.tup [r1, r2, r3]), fun _ => False⟩ Γ Δ rv1 r1) (h2 : ResT P ⟨I, N, w0, m0, RetR P fn m0 w0 (.tup [r1, r2, r3]), fun _ => False⟩ Γ Δ rv2 r2) (h3 : ResT P ⟨I, N, w0, m0, RetR P fn m0 w0 (.tup [r1, r2, r3]), fun _ => False⟩ Γ Δ rv3 r3) :
    SR ⟨I, N, w0, m0, RetR P fn m0 w0 (.tup [r1, r2, r3]), fun _ => False⟩ Γ Δ := by
  intro m a w st
  obtain ⟨v1, hv1, hp1⟩ := h1 m a w st
  obtain ⟨v2, hv2, hp2⟩ := h2 m a w st
  obtain ⟨v3, hv3, hp3⟩ := h3 m a w st
  refine ⟨st.defers, .tuple #[v1, v2, v3], ?_, .tuple #[v1, v2, v3], m, rfl, st.toGrow, [v1, v2, v3], rfl, hp1, hp2, hp3, trivial⟩
  have e1 : (resSem a.tmps rv1).run P w = .ok v1 w := hv1
  have e2 : (resSem a.tmps rv2).run P w = .ok v2 w := hv2
  have e3 : (resSem a.tmps rv3).run P w = .ok v3 w := hv3
  rw [results_sem, hr]
  simp [e1, e2, e3]

/-! a call -/
def Typs (I : GI) (Γ : Env) : List Operand → List VP → Prop
  | [], [] => True
  | x :: xs, p :: ps => Typ I Γ x p ∧ Typs I Γ xs ps
  | _, _ => False
theorem Typs.cons {I : GI} {Γ : Env} {x : Operand} {p : VP} {xs : List Operand} {ps : List VP} (h : Typ I Γ x p) (k : Typs I Γ xs ps) : Typs I Γ (x :: xs) (p :: ps) := ⟨h, k⟩
theorem Typs.nil {I : GI} {Γ : Env} : Typs I Γ [] [] := trivial
theorem Typs.at {I : GI} {Γ : Env} {m : View} {a : Act} {o : Op} (hI : I.on m) (hl : Look Γ m a o) : ∀ {xs : List Operand} {ps : List VP}, Typs I Γ xs ps → (∀ x, x ∈ xs → x ∈ o.operands) → Alls m ps (xs.map a.eval)
  | [], [], _, _ => trivial
  | x :: _, _ :: _, h, hx => ⟨h.1.at hI hl (hx x (by simp)), Typs.at hI hl h.2 (fun y hy => hx y (by simp [hy]))⟩
theorem Alls.append {m : View} : ∀ {ps qs : List VP} {vs us : List Value}, Alls m ps vs → Alls m qs us → Alls m (ps ++ qs) (vs ++ us)
  | [], _, [], _, _, k => k
  | _ :: _, _, _ :: _, _, h, k => ⟨h.1, Alls.append h.2 k⟩
theorem OpOk.call {P : Program} {I : GI} {B : Nat → Prop} {Γ : Env} {Δ : List Own} {d : Option Tmp} {callee : Operand} {args : List Operand} {tys : Array TypeId} {ty : TypeId} {pos : String} {aft : Array Edge} {gd : Option (Nat × Bool)} {f : FuncId} {cps ps : List VP} {r : VP}
    (hc : ∀ (args : Array Value) (w : World), (callFunc f args).run P w = .ok (.enter f args) w) (hf : Typ I Γ callee (.clo f cps)) (ha : Typs I Γ args ps) (h : FnSpec P I f (ps ++ cps) r) :
    OpOk P I B Γ Δ ⟨d, .call { callee := .value callee, args := args.toArray, argTypes := tys }, ty, pos, aft, gd⟩ r := by
  intro m a w Q K hl hfit hI hh hk
  obtain ⟨cs, e, hcs⟩ := hf.at hI hl (by simp [Op.operands, Call.operands])
  have hA := ha.at hI hl (fun x hx => by simp [Op.operands, Call.operands, hx])
  have hcall := h m w _ hfit hI (hA.append hcs)
  unfold Oper.wp
  have hrun : (execOp a.eval ⟨d, .call { callee := .value callee, args := args.toArray, argTypes := tys }, ty, pos, aft, gd⟩).run P w = .ok (.enter f (args.map a.eval ++ cs).toArray) w := by
    simp [execOp, resolve, Deferred.ofValue, e, invoke, hc]
  rw [hrun, Oper.upon_enter]
  refine hcall.mono ?_
  rintro e' w' ⟨v, m', rfl, g, hr⟩
  exact hk v m' w' g hr
end Go.Inn
