/- Rules for whole numbers without sign. No program in it. -/
import Derived.Test.YtgnblhmejecgfaaGreatDoorKE
set_option linter.all false
namespace Go.Inn
open Go Go.RowKit
section
variable {P : Program} {I : GI} {B : Nat → Prop} {Γ : Env} {Δ : List Own} {d : Option Tmp} {ty : TypeId} {pos : String} {aft : Array Edge} {gd : Option (Nat × Bool)}
theorem V_u32 {x : UInt32} {m : View} {v : Value} (h : (V x).on m v) : v = .int .u32 x.toNat := by
  obtain ⟨cs, ⟨rfl, _⟩, e⟩ := h; exact e
theorem V_u32_mk (x : UInt32) (m : View) : (V x).on m (.int .u32 x.toNat) := ⟨_, ⟨rfl, trivial⟩, rfl⟩
theorem Typ.cu32n {I : GI} {Γ : Env} (k : UInt32) : Typ I Γ (.const (.int .u32 (k.toNat : Int))) (V k) := Typ.con fun m => V_u32_mk k m
theorem OpOk.cmpU32 {t u : TypeId} {op : BinOp} {x y : Operand} {a b : UInt32} (r : Bool) (hf : ∀ (w : World), (binOp op t (.int .u32 a.toNat) (.int .u32 b.toNat)).run P w = .ok (.bool r) w) (hx : Typ I Γ x (V a)) (hy : Typ I Γ y (V b)) :
    OpOk P I B Γ Δ ⟨d, .binOp op t x y u, ty, pos, aft, gd⟩ (V r) :=
  .still fun m c w hl hfit hI hh => ⟨.bool r, by
    rw [run_bin_int (V_u32 (hx.at hI hl (by simp [Op.operands]))) (V_u32 (hy.at hI hl (by simp [Op.operands]))) (hf w)]; rfl, V_bool_mk _ m⟩
theorem OpOk.gtrU32 {t u : TypeId} {x y : Operand} {a b : UInt32} (hx : Typ I Γ x (V a)) (hy : Typ I Γ y (V b)) : OpOk P I B Γ Δ ⟨d, .binOp .gtr t x y u, ty, pos, aft, gd⟩ (V (decide (b < a))) :=
  .cmpU32 _ (fun w => by simp [binOp, Op.intCmp, UInt32.lt_iff_toNat_lt]) hx hy
theorem in64_u32 (x : UInt32) : in64 (x.toNat : Int) := by have := x.toNat_lt; unfold in64; omega
theorem OpOk.convU32 {s t : TypeId} {x : Operand} {a : UInt32} (hs : ∃ k, P.underlying s = some (.int k)) (ht : P.underlying t = some (.int .i64)) (hx : Typ I Γ x (V a)) : OpOk P I B Γ Δ ⟨d, .convert s t x, ty, pos, aft, gd⟩ (V (a.toNat : Int)) :=
  .still fun m e w hl hfit hI hh => by
    obtain ⟨k, hs⟩ := hs
    have h1 := V_u32 (hx.at hI hl (by simp [Op.operands]))
    exact ⟨.int .i64 a.toNat, by simp [execOp, h1, convert, run_underlying hs, run_underlying ht, Conv.intToInt, wrap_in64 (in64_u32 a)], V_int_mk (in64_u32 a) m⟩
theorem OpOk.remU8 {t u : TypeId} {x y : Operand} {a b : UInt8} (hx : Typ I Γ x (V a)) (hy : Typ I Γ y (V b)) (hb : b ≠ 0) : OpOk P I B Γ Δ ⟨d, .binOp .rem t x y u, ty, pos, aft, gd⟩ (V (a % b)) :=
  .still fun m c w hl hfit hI hh => by
    have h1 := V_u8 (hx.at hI hl (by simp [Op.operands]))
    have h2 := V_u8 (hy.at hI hl (by simp [Op.operands]))
    have hb' : ¬ ((b.toNat : Int) = 0) := fun e => hb (UInt8.toNat_inj.1 (by simpa using e))
    have hr : (binOp .rem t (.int .u8 a.toNat) (.int .u8 b.toNat)).run P w = .ok (.int .u8 ((a % b).toNat : Int)) w := by
      have hb2 : ¬ b.toNat = 0 := by omega
      have e : ((a.toNat : Int).tmod (b.toNat : Int)) = (a.toNat : Int) % (b.toNat : Int) := Int.tmod_eq_emod_of_nonneg (by omega)
      simp [binOp, Op.intDiv, hb2, e]
    exact ⟨_, by rw [run_bin_int h1 h2 hr]; rfl, V_u8_mk _ m⟩
end
/-! calls that turn a variable of the caller's -/
section
variable {P : Program} {C : Cx} {Γ : Env} {Δ : List Own} {ks : List KI} {ops : Array Oper} {rest : List Oper} {ty : TypeId} {pos : String} {aft : Array Edge}
theorem St.turned {m : View} {a : Act} {w : World} (st : St C Γ Δ m a w) {i : Nat} {o o' : Own} (hi : Δ[i]? = some o) :
    ∃ bs, o.on m w bs ∧ Bs (fun _ => True) m w [bs] ∧ ∀ (m' : View) (w' : World), GrowX (fun k => k ∈ [bs].flatten) m w m' w' → Held (fun x => x ∈ [bs].flatten ∨ w.heap.size ≤ x) [o'] m' w' → St C Γ (Δ.set i o') m' a w' := by
  obtain ⟨bs, hon, hnd, hin, hupd⟩ := st.held.upd hi
  have hfl : [bs].flatten = bs := by simp
  refine ⟨bs, hon, ⟨by rw [hfl]; exact hnd, fun x hx => ⟨(hin x (by rwa [hfl] at hx)).1, trivial, (hin x (by rwa [hfl] at hx)).2.2⟩⟩, fun m' w' g hh => ?_⟩
  rw [hfl] at g hh
  obtain ⟨bss, ho', hb'⟩ := hh
  match bss, ho' with
  | [b'], ho' =>
    have hfl' : [b'].flatten = b' := by simp
    have hd' := hb'.dup
    have hi' := hb'.inn
    rw [hfl'] at hd' hi'
    have notX : ∀ x, x < C.w0.heap.size → ¬ C.X x → x ∉ bs := fun x hx hxx hm => by
      rcases (hin x hm).2.1 with h | h
      · omega
      · exact hxx h
    have hsz := g.below.size
    refine { size := st.size, defers := st.defers, env := st.env.up g.le, held := ?_, fits := g.fits, below := ?_, le := View.le_trans st.le g.le, fresh := ?_, glob := C.I.up g.le st.glob }
    · exact hupd m' w' b' o' g.le (fun k hk hkb => g.below.block k hk hkb) (fun k hk hkb => g.fresh k hk hkb) hsz (Cx.Y_new st.below.size) ho'.1 hd' (fun x hx => ⟨(hi' x hx).2.1, (hi' x hx).2.2, (hi' x hx).1⟩)
    · exact st.below.then' g.below.os g.below.tape g.below.output hsz (fun k hk hx => g.below.block k (by have := st.below.size; omega) (notX k hk hx))
    · intro k hk hx
      rw [g.fresh k (by have := st.below.size; omega) (notX k hk hx)]
      exact st.fresh k hk hx
/-- what is called, and with what -/
def Enters (P : Program) (C : Cx) (Γ : Env) (op : Op) (f : FuncId) (ps : List VP) : Prop := ∀ (m : View) (a : Act) (w : World) (o : Oper), o.op = op → C.I.on m → Look Γ m a op → ∃ vs : List Value, Alls m ps vs ∧ (execOp a.eval o).run P w = .ok (.enter f vs.toArray) w
theorem Enters.fn {callee : Operand} {args : List Operand} {tys : Array TypeId} {f : FuncId} {ps : List VP} (hc : ∀ (args : Array Value) (w : World), (callFunc f args).run P w = .ok (.enter f args) w) (hf : Typ C.I Γ callee (.clo f [])) (ha : Typs C.I Γ args ps) :
    Enters P C Γ (.call { callee := .value callee, args := args.toArray, argTypes := tys }) f ps := by
  rintro m a w ⟨d, op, ty, pos, aft, gd⟩ rfl hI hlk
  obtain ⟨cs, ef, hcs⟩ := hf.at hI hlk (by simp [Op.operands, Call.operands])
  have hA := ha.at hI hlk (fun x hx => by simp [Op.operands, Call.operands, hx])
  have hcs : cs = [] := by
    cases cs with
    | nil => rfl
    | cons _ _ => exact hcs.elim
  subst hcs
  exact ⟨args.map a.eval, hA, by simp [execOp, resolve, Deferred.ofValue, ef, invoke, hc]⟩
/-- a method's value, bound to a pointer -/
def VP.meth (f : FuncId) (b : Nat) : VP := .eq (.func (.func f) #[.pointer (some ⟨b, 0, none⟩)] #[])
theorem OpOk.makeMeth {I : GI} {B : Nat → Prop} {d : Option Tmp} {gd : Option (Nat × Bool)} {f : FuncId} {x : Operand} {b : Nat} (hx : Typ I Γ x (.ptr b 0)) : OpOk P I B Γ Δ ⟨d, .makeFunc (.func f) #[x] #[], ty, pos, aft, gd⟩ (.meth f b) :=
  .still fun m c w hl hf hI hh => by
    have e : c.eval x = _ := hx.at hI hl (by simp [Op.operands])
    exact ⟨_, by simp [execOp, e, Instr.makeFunc], rfl⟩
theorem Enters.meth {callee : Operand} {args : List Operand} {tys : Array TypeId} {f : FuncId} {b : Nat} {ps : List VP} (hc : ∀ (args : Array Value) (w : World), (callFunc f args).run P w = .ok (.enter f args) w) (hf : Typ C.I Γ callee (.meth f b)) (ha : Typs C.I Γ args ps) :
    Enters P C Γ (.call { callee := .value callee, args := args.toArray, argTypes := tys }) f (.ptr b 0 :: ps) := by
  rintro m a w ⟨d, op, ty, pos, aft, gd⟩ rfl hI hlk
  have ef : a.eval callee = _ := hf.at hI hlk (by simp [Op.operands, Call.operands])
  have hA := ha.at hI hlk (fun x hx => by simp [Op.operands, Call.operands, hx])
  exact ⟨.pointer (some ⟨b, 0, none⟩) :: args.map a.eval, ⟨rfl, hA⟩, by simp [execOp, resolve, Deferred.ofValue, ef, invoke, hc]⟩
theorem SL.callU {d : Nat} {op : Op} {f : FuncId} {T : TypeId} {α : Type} [Rep α] {b i : Nat} {x x' : α} {ps : List VP} {r : VP} (he : Enters P C Γ op f ps) (h : FnSpecD P C.I f [Own.var b T x] ps (fun Δ' => Δ' = [Own.var b T x']) r) (hi : Δ[i]? = some (Own.var b T x))
    (hN : Nat.ble (d + 1) C.N = true) (k : SL P C ((d, r) :: Γ) (Δ.set i (Own.var b T x')) ops rest ks) : SL P C Γ Δ ops (⟨some d, op, ty, pos, aft, none⟩ :: rest) ks := by
  intro m a w st
  refine wpList_plain rfl fun K hK => ?_
  obtain ⟨vs, hA, hrun⟩ := he m a w ⟨some d, op, ty, pos, aft, none⟩ rfl st.glob (Look.of st.env _)
  obtain ⟨bs, hon, hbs, hturn⟩ := st.turned (o' := Own.var b T x') hi
  unfold Oper.wp
  rw [hrun, Oper.upon_enter]
  refine (h m w vs [bs] st.fits st.glob hA ⟨hon, trivial⟩ hbs).mono ?_
  rintro e' w' ⟨v, m', Δ', rfl, g, hr, rfl, hheld⟩
  exact hK _ _ (k m' _ w' (St.put (hturn m' w' g hheld) (Nat.le_of_ble_eq_true hN) hr))
theorem SL.callUG {d j g : Nat} {want c : Bool} {op : Op} {f : FuncId} {T : TypeId} {α : Type} [Rep α] {b i : Nat} {x x' : α} {ps : List VP} {r : VP} (hd : (ops[j]?).bind (·.dst) = some g) (hp : Γ.get g = some (V c)) (he : Enters P C Γ op f ps)
    (h : FnSpecD P C.I f [Own.var b T x] ps (fun Δ' => Δ' = [Own.var b T x']) r) (hi : Δ[i]? = some (Own.var b T x))
    (hN : Nat.ble (d + 1) C.N = true) (k : SL P C ((d, .cond (c = want) r) :: Γ) (Δ.set i (Own.var b T (if c = want then x' else x))) ops rest ks) : SL P C Γ Δ ops (⟨some d, op, ty, pos, aft, some (j, want)⟩ :: rest) ks := by
  intro m a w st
  have hv : a.tmps.getD g undef = .bool c := V_bool (st.env g _ hp)
  have hw : Region.wanted ⟨some d, op, ty, pos, aft, some (j, want)⟩ (yielded ops a.tmps) = (c == want) := by
    simp only [Region.wanted, yielded, hd, Option.bind_some]
    rw [getD_bool hv]
    cases c <;> cases want <;> rfl
  unfold wpList
  rw [hw]
  by_cases e : c = want
  · rw [if_pos (by simp [e])]
    left
    obtain ⟨vs, hA, hrun⟩ := he m a w ⟨some d, op, ty, pos, aft, some (j, want)⟩ rfl st.glob (Look.of st.env _)
    obtain ⟨bs, hon, hbs, hturn⟩ := st.turned (o' := Own.var b T x') hi
    unfold Oper.wp
    rw [hrun, Oper.upon_enter]
    refine (h m w vs [bs] st.fits st.glob hA ⟨hon, trivial⟩ hbs).mono ?_
    rintro e' w' ⟨v, m', Δ', rfl, g', hr, rfl, hheld⟩
    rw [if_pos e] at k
    exact k m' _ w' (St.put (hturn m' w' g' hheld) (Nat.le_of_ble_eq_true hN) ⟨fun _ => hr, fun hn => absurd e hn⟩)
  · rw [if_neg (by simp [e])]
    rw [if_neg e] at k
    have hset : Δ.set i (Own.var b T x) = Δ := by
      refine List.ext_getElem? fun q => ?_
      rw [List.getElem?_set]
      split
      · rename_i hq; subst hq; split
        · exact hi.symm
        · rename_i hlt; exact (List.getElem?_eq_none (by omega)).symm
      · rfl
    rw [hset] at k
    exact k m _ w (st.put (Nat.le_of_ble_eq_true hN) ⟨fun hn => absurd hn e, fun _ => rfl⟩)
end
end Go.Inn
