/- Calls that turn a variable of the caller's; calls of function values that are data. No program in it. -/
import Derived.Test.YtgnblhmejecgfaaGreatDoorKA
set_option linter.all false
namespace Go.Inn
open Go Go.RowKit

/-- a plain function as a datum -/
structure Fn0 where
  f : Nat
instance : Inhabited Fn0 := ⟨⟨0⟩⟩
instance : Rep Fn0 := Rep.scalar (fun _ => True) (fun x => Value.func (.func x.f) #[] #[]) (fun _ => rfl)
theorem V_fn0 {x : Fn0} {m : View} {v : Value} (h : (V x).on m v) : v = .func (.func x.f) #[] #[] := by
  obtain ⟨cs, ⟨rfl, _⟩, e⟩ := h; exact e
theorem Typ.fn0 {I : GI} {Γ : Env} {f : FuncId} : Typ I Γ (.func f) (V (⟨f⟩ : Fn0)) := fun m _ _ _ => ⟨_, ⟨rfl, trivial⟩, rfl⟩

structure GrowX (X : Nat → Prop) (m : View) (w : World) (m' : View) (w' : World) : Prop where
  le : m.le m'
  fits : m'.fits w'
  below : BelowX X w w'
  fresh : ∀ k, k < w.heap.size → ¬ X k → m' k = m k
/-- a contract: what is handed over (blocks 'bs') may be turned -/
def RetD (m : View) (w : World) (bs : List (List Nat)) (Post : List Own → Prop) (r : VP) : Ending → World → Prop :=
  fun e w' => ∃ v m' Δ', e = .returned v ∧ GrowX (fun k => k ∈ bs.flatten) m w m' w' ∧ r.on m' v ∧ Post Δ' ∧ Held (fun x => x ∈ bs.flatten ∨ w.heap.size ≤ x) Δ' m' w'
def FnSpecD (P : Program) (I : GI) (f : FuncId) (Δ : List Own) (ps : List VP) (Post : List Own → Prop) (r : VP) : Prop :=
  ∀ (m : View) (w : World) (args : List Value) (bs : List (List Nat)), m.fits w → I.on m → Alls m ps args → Owns Δ m w bs → Bs (fun _ => True) m w bs → Calls P f args.toArray w (RetD m w bs Post r)
def RetDR (P : Program) (fn : Func) (m0 : View) (w0 : World) (bs : List (List Nat)) (Post : List Own → Prop) (r : VP) : Act → World → Prop :=
  fun a w => a.defers = [] ∧ ∃ v, (results fn a.tmps).run P w = .ok v w ∧ RetD m0 w0 bs Post r (.returned v) w
theorem FnSpecD.enter {P : Program} {I : GI} {f : FuncId} {Δ : List Own} {Post : List Own → Prop} {ps : List VP} {r : VP} {fn : Func} {cd : Code} {N : Nat} (hf : P.funcs[f]? = some fn) (hb : fn.body = some cd) (hN : fn.ntmps = N) (hp : Nat.ble ps.length N = true)
    (h : ∀ (m0 : View) (w0 : World) (bs : List (List Nat)), SC P ⟨I, N, w0, m0, RetDR P fn m0 w0 bs Post r, fun k => k ∈ bs.flatten⟩ (argEnv 0 ps) Δ cd []) : FnSpecD P I f Δ ps Post r := by
  intro m w args bs hfit hI ha hown hbs
  refine calls_of_wp hf hb ?_
  have hl := ha.length
  have hple := Nat.le_of_ble_eq_true hp
  refine wp_mono (h m w bs m { tmps := args.toArray ++ Array.replicate (fn.ntmps - args.toArray.size) undef, defers := [] } w ?_) ?_
  · refine { size := ?_, defers := rfl, env := ?_, held := ?_, fits := hfit, below := BelowX.refl _ _, le := View.le_refl _, fresh := fun _ _ _ => rfl, glob := hI }
    · simp [hN]; omega
    · intro t p ht
      obtain ⟨_, h2⟩ := argEnv_get ps 0 t p ht
      obtain ⟨v, hv, hpv⟩ := ha.get (by simpa using h2)
      have hlt : t < args.length := (List.getElem?_eq_some_iff.1 hv).1
      have : (args.toArray ++ Array.replicate (fn.ntmps - args.toArray.size) undef).getD t undef = v := by
        rw [Array.getD_eq_getD_getElem?, Array.getElem?_append_left (by simpa using hlt)]
        simp [hv]
      show p.on m ((args.toArray ++ Array.replicate (fn.ntmps - args.toArray.size) undef).getD t undef)
      rw [this]; exact hpv
    · exact ⟨bs, hown, hbs.dup, fun x hx => ⟨(hbs.inn x hx).1, .inr hx, (hbs.inn x hx).2.2⟩⟩
  · intro e a' w' hq
    cases e with
    | normal => obtain ⟨hd, v, hr, hR⟩ := hq; exact ⟨hd, v, hr, hR⟩
    | ret => obtain ⟨hd, v, hr, hR⟩ := hq; exact ⟨hd, v, hr, hR⟩
    | exit id => exact hq.elim
    | goto l => exact hq.elim
    | panic ch => exact hq.elim
    | outgrown => exact hq.elim
theorem St.retD {I : GI} {N : Nat} {w0 : World} {m0 : View} {R : Act → World → Prop} {Γ : Env} {Δ : List Own} {m : View} {a : Act} {w : World} {bs : List (List Nat)} {Post : List Own → Prop} {r : VP} {v : Value}
    (st : St ⟨I, N, w0, m0, R, fun k => k ∈ bs.flatten⟩ Γ Δ m a w) (hP : Post Δ) (hv : r.on m v) : RetD m0 w0 bs Post r (.returned v) w := by
  obtain ⟨cs, h1, h2⟩ := st.held
  exact ⟨v, m, Δ, rfl, ⟨st.le, st.fits, st.below, st.fresh⟩, hv, hP, cs, h1, h2.dup, fun x hx => ⟨(h2.inn x hx).1, (h2.inn x hx).2.1.elim .inr .inl, (h2.inn x hx).2.2⟩⟩
theorem var_eq {T : TypeId} {α : Type} [Rep α] {b i : Nat} {x y : α} {Δ : List Own} (h : Δ[i]? = some (Own.var b T x)) (e : x = y) : Δ[i]? = some (Own.var b T y) := e ▸ h
theorem SR.oneD {P : Program} {I : GI} {N : Nat} {w0 : World} {m0 : View} {fn : Func} {bs : List (List Nat)} {Post : List Own → Prop} {r : VP} {Γ : Env} {Δ : List Own} {rv : ResultVar} (hr : fn.results = #[rv]) (hP : Post Δ)
    (h : ResT P ⟨I, N, w0, m0, RetDR P fn m0 w0 bs Post r, fun k => k ∈ bs.flatten⟩ Γ Δ rv r) : SR ⟨I, N, w0, m0, RetDR P fn m0 w0 bs Post r, fun k => k ∈ bs.flatten⟩ Γ Δ := by
  intro m a w st
  obtain ⟨v, hv, hp⟩ := h m a w st
  refine ⟨st.defers, v, ?_, st.retD hP hp⟩
  have hv : (resSem a.tmps rv).run P w = .ok v w := hv
  rw [results_sem, hr]
  simp [hv]
theorem SR.twoD {P : Program} {I : GI} {N : Nat} {w0 : World} {m0 : View} {fn : Func} {bs : List (List Nat)} {Post : List Own → Prop} {r1 r2 : VP} {Γ : Env} {Δ : List Own} {rv1 rv2 : ResultVar} (hr : fn.results = #[rv1, rv2]) (hP : Post Δ)
    (h1 : ResT P ⟨I, N, w0, m0, RetDR P fn m0 w0 bs Post (.tup [r1, r2]), fun k => k ∈ bs.flatten⟩ Γ Δ rv1 r1) (h2 : ResT P ⟨I, N, w0, m0, RetDR P fn m0 w0 bs Post (.tup [r1, r2]), fun k => k ∈ bs.flatten⟩ Γ Δ rv2 r2) :
    SR ⟨I, N, w0, m0, RetDR P fn m0 w0 bs Post (.tup [r1, r2]), fun k => k ∈ bs.flatten⟩ Γ Δ := by
  intro m a w st
  obtain ⟨v1, hv1, hp1⟩ := h1 m a w st
  obtain ⟨v2, hv2, hp2⟩ := h2 m a w st
  refine ⟨st.defers, .tuple #[v1, v2], ?_, st.retD hP ⟨[v1, v2], rfl, hp1, hp2, trivial⟩⟩
  have e1 : (resSem a.tmps rv1).run P w = .ok v1 w := hv1
  have e2 : (resSem a.tmps rv2).run P w = .ok v2 w := hv2
  rw [results_sem, hr]
  simp [e1, e2]
theorem Owns.split {m : View} {w : World} : ∀ {Δ1 Δ2 : List Own} {bs : List (List Nat)}, Owns (Δ1 ++ Δ2) m w bs → ∃ b1 b2, bs = b1 ++ b2 ∧ Owns Δ1 m w b1 ∧ Owns Δ2 m w b2
  | [], _, bs, h => ⟨[], bs, rfl, trivial, h⟩
  | o :: Δ1, Δ2, b :: bs, h => by
    obtain ⟨b1, b2, e, h1, h2⟩ := Owns.split (Δ1 := Δ1) h.2
    exact ⟨b :: b1, b2, by rw [e]; rfl, ⟨h.1, h1⟩, h2⟩
  | _ :: _, _, [], h => h.elim
theorem Owns.join {m : View} {w : World} : ∀ {Δ1 Δ2 : List Own} {b1 b2 : List (List Nat)}, Owns Δ1 m w b1 → Owns Δ2 m w b2 → Owns (Δ1 ++ Δ2) m w (b1 ++ b2)
  | [], _, [], _, _, k => k
  | _ :: _, _, _ :: _, _, h, k => ⟨h.1, Owns.join h.2 k⟩
/-- the last of what is owned is handed over, and comes back as something else -/
theorem Held.swap {Y : Nat → Prop} {Δ1 Δ2 : List Own} {m : View} {w : World} (h : Held Y (Δ1 ++ Δ2) m w) : ∃ bs, Owns Δ2 m w bs ∧ Bs Y m w bs ∧
    ∀ (m' : View) (w' : World) (Δ' : List Own), m.le m' → (∀ k, k < w.heap.size → k ∉ bs.flatten → w'.heap[k]? = w.heap[k]?) → (∀ k, k < w.heap.size → k ∉ bs.flatten → m' k = m k) → w.heap.size ≤ w'.heap.size → (∀ x, w.heap.size ≤ x → Y x) →
      Held (fun x => x ∈ bs.flatten ∨ w.heap.size ≤ x) Δ' m' w' → Held Y (Δ1 ++ Δ') m' w' := by
  obtain ⟨bs, ho, hb⟩ := h
  obtain ⟨b1, b2, rfl, h1, h2⟩ := ho.split
  have hd := hb.dup
  rw [List.flatten_append, List.nodup_append] at hd
  have i1 : ∀ x, x ∈ b1.flatten → m x = Option.none ∧ Y x ∧ x < w.heap.size := fun x hx => hb.inn x (by rw [List.flatten_append]; exact List.mem_append_left _ hx)
  have i2 : ∀ x, x ∈ b2.flatten → m x = Option.none ∧ Y x ∧ x < w.heap.size := fun x hx => hb.inn x (by rw [List.flatten_append]; exact List.mem_append_right _ hx)
  refine ⟨b2, h2, ⟨hd.2.1, i2⟩, ?_⟩
  rintro m' w' Δ' hm hk hmk hs hY ⟨cs, hc, hcb⟩
  have ne : ∀ x, x ∈ b1.flatten → x ∉ b2.flatten := fun x hx hx2 => hd.2.2 x hx x hx2 rfl
  refine ⟨b1 ++ cs, Owns.join (h1.up hm (fun x hx => hk x (i1 x hx).2.2 (ne x hx))) hc, ?_, ?_⟩
  · rw [List.flatten_append, List.nodup_append]
    refine ⟨hd.1, hcb.dup, fun x hx y hy e => ?_⟩
    subst e
    rcases (hcb.inn x hy).2.1 with h | h
    · exact ne x hx h
    · have := (i1 x hx).2.2; omega
  · intro x hx
    rw [List.flatten_append] at hx
    rcases List.mem_append.1 hx with hx | hx
    · obtain ⟨a1, a2, a3⟩ := i1 x hx
      exact ⟨(hmk x a3 (ne x hx)).trans a1, a2, Nat.lt_of_lt_of_le a3 hs⟩
    · obtain ⟨a1, a2, a3⟩ := hcb.inn x hx
      exact ⟨a1, a2.elim (fun h => (i2 x h).2.1) (hY x), a3⟩
/-- whatever is told of a function's value: what a call of it does -/
def CalleeD (P : Program) (I : GI) (p : VP) (Δ : List Own) (ps : List VP) (Post : List Own → Prop) (r : VP) : Prop :=
  ∀ m v, I.on m → p.on m v → ∃ (f : FuncId) (cs : List Value) (cps : List VP), v = .func (.func f) #[] cs.toArray ∧ (∀ (args : Array Value) (w : World), (callFunc f args).run P w = .ok (.enter f args) w) ∧ Alls m cps cs ∧ FnSpecD P I f Δ (ps ++ cps) Post r
theorem CalleeD.clo {P : Program} {I : GI} {f : FuncId} {cps : List VP} {Δ : List Own} {ps : List VP} {Post : List Own → Prop} {r : VP} (hc : ∀ (args : Array Value) (w : World), (callFunc f args).run P w = .ok (.enter f args) w)
    (h : FnSpecD P I f Δ (ps ++ cps) Post r) : CalleeD P I (.clo f cps) Δ ps Post r := fun m v _ ⟨cs, e, ha⟩ => ⟨f, cs, cps, e, hc, ha, h⟩
def CalleeF (P : Program) (I : GI) (p : VP) (ps : List VP) (r : VP) : Prop :=
  ∀ m v, I.on m → p.on m v → ∃ (f : FuncId) (cs : List Value) (cps : List VP), v = .func (.func f) #[] cs.toArray ∧ (∀ (args : Array Value) (w : World), (callFunc f args).run P w = .ok (.enter f args) w) ∧ Alls m cps cs ∧ FnSpec P I f (ps ++ cps) r
theorem CalleeF.fn0 {P : Program} {I : GI} {f : FuncId} {ps : List VP} {r : VP} (hc : ∀ (args : Array Value) (w : World), (callFunc f args).run P w = .ok (.enter f args) w) (h : FnSpec P I f ps r) : CalleeF P I (V (⟨f⟩ : Fn0)) ps r :=
  fun m v _ hv => ⟨f, [], [], V_fn0 hv, hc, trivial, by simpa using h⟩
theorem OpOk.callV {P : Program} {I : GI} {B : Nat → Prop} {Γ : Env} {Δ : List Own} {d : Option Tmp} {callee : Operand} {args : List Operand} {tys : Array TypeId} {ty : TypeId} {pos : String} {aft : Array Edge} {gd : Option (Nat × Bool)} {p : VP} {ps : List VP} {r : VP}
    (h : CalleeF P I p ps r) (hf : Typ I Γ callee p) (ha : Typs I Γ args ps) : OpOk P I B Γ Δ ⟨d, .call { callee := .value callee, args := args.toArray, argTypes := tys }, ty, pos, aft, gd⟩ r := by
  intro m a w Q K hl hfit hI hh hk
  obtain ⟨f, cs, cps, e, hc, hcs, hspec⟩ := h m _ hI (hf.at hI hl (by simp [Op.operands, Call.operands]))
  have hA := ha.at hI hl (fun x hx => by simp [Op.operands, Call.operands, hx])
  have hcall := hspec m w _ hfit hI (hA.append hcs)
  unfold Oper.wp
  have hrun : (execOp a.eval ⟨d, .call { callee := .value callee, args := args.toArray, argTypes := tys }, ty, pos, aft, gd⟩).run P w = .ok (.enter f (args.map a.eval ++ cs).toArray) w := by
    simp [execOp, resolve, Deferred.ofValue, e, invoke, hc]
  rw [hrun, Oper.upon_enter]
  refine hcall.mono ?_
  rintro e' w' ⟨v, m', rfl, g, hr⟩
  exact hk v m' w' g hr
section
variable {P : Program} {C : Cx} {Γ : Env} {Δ : List Own} {ks : List KI} {ops : Array Oper} {rest : List Oper} {ty : TypeId} {pos : String} {aft : Array Edge}
theorem SL.callD {d : Nat} {callee : Operand} {args : List Operand} {tys : Array TypeId} {p : VP} {Δ2 : List Own} {ps : List VP} {Post : List Own → Prop} {r : VP} (Δ1 : List Own) (h : CalleeD P C.I p Δ2 ps Post r) (hi : Δ = Δ1 ++ Δ2)
    (hf : Typ C.I Γ callee p) (ha : Typs C.I Γ args ps) (hN : Nat.ble (d + 1) C.N = true) (k : ∀ Δ', Post Δ' → SL P C ((d, r) :: Γ) (Δ1 ++ Δ') ops rest ks) :
    SL P C Γ Δ ops (⟨some d, .call { callee := .value callee, args := args.toArray, argTypes := tys }, ty, pos, aft, none⟩ :: rest) ks := by
  intro m a w st
  refine wpList_plain rfl fun K hK => ?_
  have hlk := Look.of (a := a) st.env (.call { callee := .value callee, args := args.toArray, argTypes := tys })
  obtain ⟨f, cs, cps, e, hc, hcs, hspec⟩ := h m _ st.glob (hf.at st.glob hlk (by simp [Op.operands, Call.operands]))
  have hA := ha.at st.glob hlk (fun x hx => by simp [Op.operands, Call.operands, hx])
  subst hi
  obtain ⟨bs, hb, hbs, hswap⟩ := st.held.swap
  have hcall := hspec m w _ bs st.fits st.glob (hA.append hcs) hb ⟨hbs.dup, fun x hx => ⟨(hbs.inn x hx).1, trivial, (hbs.inn x hx).2.2⟩⟩
  unfold Oper.wp
  have hrun : (execOp a.eval ⟨some d, .call { callee := .value callee, args := args.toArray, argTypes := tys }, ty, pos, aft, none⟩).run P w = .ok (.enter f (args.map a.eval ++ cs).toArray) w := by
    simp [execOp, resolve, Deferred.ofValue, e, invoke, hc]
  rw [hrun, Oper.upon_enter]
  refine hcall.mono ?_
  rintro e' w' ⟨v, m', Δ', rfl, g, hr, hP, hheld⟩
  have hsz := g.below.size
  have notX : ∀ x, x < C.w0.heap.size → ¬ C.X x → x ∉ bs.flatten := fun x hx hxx hm => by
    rcases (hbs.inn x hm).2.1 with h | h
    · omega
    · exact hxx h
  refine hK _ _ (k Δ' hP m' _ w' (St.put ?_ (Nat.le_of_ble_eq_true hN) hr))
  refine { size := st.size, defers := st.defers, env := st.env.up g.le, held := ?_, fits := g.fits, below := ?_, le := View.le_trans st.le g.le, fresh := ?_, glob := C.I.up g.le st.glob }
  · exact hswap m' w' Δ' g.le g.below.block g.fresh hsz (Cx.Y_new st.below.size) hheld
  · exact st.below.then' g.below.os g.below.tape g.below.output hsz (fun k hk hx => g.below.block k (by have := st.below.size; omega) (notX k hk hx))
  · intro k hk hx
    rw [g.fresh k (by have := st.below.size; omega) (notX k hk hx)]
    exact st.fresh k hk hx
end
end Go.Inn
