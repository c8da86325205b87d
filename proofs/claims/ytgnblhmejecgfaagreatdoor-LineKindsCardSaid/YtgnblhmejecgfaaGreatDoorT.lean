/- The parts of line.Get as data; the fields of a command as data. -/
import Derived.Test.YtgnblhmejecgfaaGreatDoorD
import Derived.Test.YtgnblhmejecgfaaGreatDoorKB
set_option linter.all false
namespace Go.Inn
open Go Go.RowKit
/-- a number's field of a command -/
inductive IntF where | item | box | who | pay | fee
  deriving DecidableEq
inductive RowF where | gives | wants
  deriving DecidableEq
def IntF.get : IntF → CmdR → Int
  | .item, c => c.item | .box, c => c.box | .who, c => c.who | .pay, c => c.pay | .fee, c => c.fee
def IntF.set : IntF → CmdR → Int → CmdR
  | .item => CmdR.s_item | .box => CmdR.s_box | .who => CmdR.s_who | .pay => CmdR.s_pay | .fee => CmdR.s_fee
def IntF.off : IntF → Nat
  | .item => 2 | .box => 3 | .who => 4 | .pay => 6 | .fee => 8
def RowF.get : RowF → CmdR → RawSl
  | .gives, c => c.gives | .wants, c => c.wants
def RowF.set : RowF → CmdR → RawSl → CmdR
  | .gives => CmdR.s_gives | .wants => CmdR.s_wants
def RowF.off : RowF → Nat
  | .gives => 5 | .wants => 7
theorem IntF.L (f : IntF) : Lens f.off f.get f.set := by
  cases f
  · exact CmdR.l_item
  · exact CmdR.l_box
  · exact CmdR.l_who
  · exact CmdR.l_pay
  · exact CmdR.l_fee
theorem RowF.L (f : RowF) : Lens f.off f.get f.set := by
  cases f
  · exact CmdR.l_gives
  · exact CmdR.l_wants
def IntF.fn : IntF → Fn0
  | .item => ⟨93⟩ | .box => ⟨95⟩ | .who => ⟨92⟩ | .pay => ⟨98⟩ | .fee => ⟨100⟩
def RowF.fn : RowF → Fn0
  | .gives => ⟨97⟩ | .wants => ⟨99⟩
/-- a command that is being made: its numbers, and bare rows -/
def rawC (c : Cmd) (v1 v2 : Value) : CmdR := { kind := c.kind, dir := c.dir, item := c.item, box := c.box, who := c.who, gives := ⟨v1⟩, pay := c.pay, wants := ⟨v2⟩, fee := c.fee }
abbrev cmdOwn (T E b : Nat) (c : Cmd) (v1 v2 : Value) : List Own := [Own.var b T (rawC c v1 v2), Own.row v1 E c.gives, Own.row v2 E c.wants]
def cmdPost (T E b : Nat) (c : Cmd) (Δ : List Own) : Prop := ∃ v1 v2, Δ = cmdOwn T E b c v1 v2
def IntF.setC : IntF → Cmd → Int → Cmd
  | .item => Cmd.s_item | .box => Cmd.s_box | .who => Cmd.s_who | .pay => Cmd.s_pay | .fee => Cmd.s_fee
def RowF.getC : RowF → Cmd → List Int
  | .gives, c => c.gives | .wants, c => c.wants
def RowF.setC : RowF → Cmd → List Int → Cmd
  | .gives => Cmd.s_gives | .wants => Cmd.s_wants
theorem post_int {T E b : Nat} {c : Cmd} {v1 v2 : Value} (f : IntF) (x : Int) : cmdPost T E b (f.setC c x) ((cmdOwn T E b c v1 v2).set 0 (Own.var b T (f.set (rawC c v1 v2) x))) := ⟨v1, v2, by cases f <;> rfl⟩
theorem post_dir {T E b : Nat} {c : Cmd} {v1 v2 : Value} (x : Int) : cmdPost T E b (c.s_dir x) ((cmdOwn T E b c v1 v2).set 0 (Own.var b T ((rawC c v1 v2).s_dir x))) := ⟨v1, v2, rfl⟩
theorem post_same {T E b : Nat} {c : Cmd} {v1 v2 : Value} : cmdPost T E b c (cmdOwn T E b c v1 v2) := ⟨v1, v2, rfl⟩
theorem post_eq {T E b : Nat} {c c' : Cmd} {Δ : List Own} (h : cmdPost T E b c Δ) (e : c = c') : cmdPost T E b c' Δ := e ▸ h
inductive Part where
  | nil
  | way
  | num (f : IntF)
  | word (w : Str)
  | row (f : RowF)
instance : Inhabited Part := ⟨.nil⟩
def PartOn (m : View) : Part → Value → Prop
  | .nil, v => v = Value.nilFunc
  | .way, v => v = .func (.func 90) #[] #[]
  | .num f, v => ∃ b off, v = .func (.func 116) #[] #[.pointer (some ⟨b, off, none⟩)] ∧ At m b off f.fn
  | .word w, v => ∃ b off, v = .func (.func 118) #[] #[.pointer (some ⟨b, off, none⟩)] ∧ At m b off w
  | .row f, v => ∃ b off, v = .func (.func 119) #[] #[.pointer (some ⟨b, off, none⟩)] ∧ At m b off f.fn
theorem PartOn.up {m m' : View} (hm : m.le m') {p : Part} {v : Value} (h : PartOn m p v) : PartOn m' p v := by
  cases p with
  | nil => exact h
  | way => exact h
  | num f => obtain ⟨b, off, h1, h2⟩ := h; exact ⟨b, off, h1, h2.up hm⟩
  | word f => obtain ⟨b, off, h1, h2⟩ := h; exact ⟨b, off, h1, h2.up hm⟩
  | row f => obtain ⟨b, off, h1, h2⟩ := h; exact ⟨b, off, h1, h2.up hm⟩
instance : Rep Part where
  n := 1
  agg := false
  cells m p cs := ∃ v, cs = [v] ∧ PartOn m p v
  len h := by obtain ⟨v, rfl, _⟩ := h; rfl
  one _ := rfl
  plain {m p cs} h v hv := by
    obtain ⟨u, rfl, h⟩ := h
    simp at hv; subst hv
    cases p with
    | nil => rw [show v = Value.nilFunc from h]; rfl
    | way => rw [show v = _ from h]; rfl
    | num f => obtain ⟨b, off, rfl, _⟩ := h; rfl
    | word f => obtain ⟨b, off, rfl, _⟩ := h; rfl
    | row f => obtain ⟨b, off, rfl, _⟩ := h; rfl
  up hm h := by obtain ⟨v, e, h⟩ := h; exact ⟨v, e, h.up hm⟩
theorem V_part {p : Part} {m : View} {v : Value} (h : (V p).on m v) : PartOn m p v := by
  obtain ⟨cs, ⟨u, rfl, h⟩, e⟩ := h
  have : v = u := e
  rw [this]; exact h
theorem V_part_mk {p : Part} {m : View} {v : Value} (h : PartOn m p v) : (V p).on m v := ⟨[v], ⟨v, rfl, h⟩, rfl⟩
theorem clo_ref {m : View} {v : Value} {f : FuncId} {α : Type} [Rep α] {x : α} (h : (VP.clo f [VP.ref x]).on m v) : ∃ b off, v = .func (.func f) #[] #[.pointer (some ⟨b, off, none⟩)] ∧ At m b off x := by
  obtain ⟨cs, e, ha⟩ := h
  match cs, ha with
  | [u], ⟨⟨b, off, hu, hat⟩, _⟩ => exact ⟨b, off, by rw [e, hu], hat⟩
theorem part_num {m : View} {v : Value} {f : IntF} (h : (VP.clo 116 [VP.ref f.fn]).on m v) : (V (Part.num f)).on m v := V_part_mk (clo_ref h)
theorem part_word {m : View} {v : Value} {w : Str} (h : (VP.clo 118 [VP.ref w]).on m v) : (V (Part.word w)).on m v := V_part_mk (clo_ref h)
theorem part_row {m : View} {v : Value} {f : RowF} (h : (VP.clo 119 [VP.ref f.fn]).on m v) : (V (Part.row f)).on m v := V_part_mk (clo_ref h)
theorem Typ.way {I : GI} {Γ : Env} : Typ I Γ (.func 90) (V Part.way) := fun m _ _ _ => V_part_mk rfl
section
variable {P : Program} {I : GI} {B : Nat → Prop} {Γ : Env} {Δ : List Own} {d : Option Tmp} {ty : TypeId} {pos : String} {aft : Array Edge} {gd : Option (Nat × Bool)}
theorem OpOk.buildSlice0 {t e : TypeId} (α : Type) [Rep α] (ht : P.underlying t = some (.slice e)) (he : Ty P e α) : OpOk P I B Γ Δ ⟨d, .buildSlice t 0 #[], ty, pos, aft, gd⟩ (V ([] : List α)) := by
  refine .run fun m c w hl hf hI hh => ?_
  have hn : m w.heap.size = none := View.fits_none hf (Nat.le_refl _)
  refine ⟨.slice (some ⟨w.heap.size, 0, none⟩) 0 0, m, w.alloc (.cells #[] e (0, 0)), ?_, Grow.alloc hf _, _, ⟨_, 0, rfl, Nat.le_refl _, Nat.zero_le _, .inl rfl⟩, rfl⟩
  have e0 : (Array.map (fun x => (default : Value)) (Array.range 0)) = #[] := by simp [Array.range]
  simp [execOp, Instr.buildSlice, run_underlying ht, he.size w, Instr.fill, newRow]
  rw [e0]
end
/-! bare slices -/
theorem Typ.raw {I : GI} {Γ : Env} {t : Nat} {x : RawSl} (h : Γ.get t = some (V x)) : Typ I Γ (.tmp t) (.eq x.v) := fun m a hi k => (V_raw (k t _ rfl h)).1
theorem Typ.toRaw {I : GI} {Γ : Env} {t : Nat} {v : Value} (h1 : v.oneCell' = true) (h : Γ.get t = some (.eq v)) : Typ I Γ (.tmp t) (V (⟨v⟩ : RawSl)) := fun m a hi k => by
  have e : a.eval (.tmp t) = v := k t _ rfl h
  rw [e]
  exact ⟨[v], ⟨rfl, h1⟩, rfl⟩
theorem SL.learnRow {P : Program} {C : Cx} {Γ : Env} {Δ : List Own} {ks : List KI} {ops : Array Oper} {l : List Oper} {v : Value} {e : TypeId} {α : Type} [Rep α] {xs : List α} {i : Nat} (hi : Δ[i]? = some (Own.row v e xs)) (k : v.oneCell' = true → SL P C Γ Δ ops l ks) : SL P C Γ Δ ops l ks :=
  fun m a w st => k (by
    obtain ⟨cs, hc, hown⟩ := st.held.row hi
    rcases hown.2 with ⟨rfl, _⟩ | ⟨g, cap, cur, rfl, _⟩ <;> rfl) m a w st
theorem cells_list {α : Type} [Rep α] {m : View} {xs : List α} {v : Value} (h : (V xs).on m v) : Rep.cells m xs [v] := by
  obtain ⟨cs, hc, e⟩ := h
  obtain ⟨A, cap, rfl, h1, h2, h3⟩ := hc
  have e : v = .slice A xs.length cap := e
  subst e
  exact ⟨A, cap, rfl, h1, h2, h3⟩
theorem raw_cells {m : View} {c : Cmd} {v1 v2 : Value} {cs : List Value} (h : Rep.cells m (rawC c v1 v2) cs) (h1 : (V c.gives).on m v1) (h2 : (V c.wants).on m v2) : Rep.cells m c cs := by
  obtain ⟨a1, r1, rfl, k1, h⟩ := h
  obtain ⟨a2, r2, rfl, k2, h⟩ := h
  obtain ⟨a3, r3, rfl, k3, h⟩ := h
  obtain ⟨a4, r4, rfl, k4, h⟩ := h
  obtain ⟨a5, r5, rfl, k5, h⟩ := h
  obtain ⟨a6, r6, rfl, k6, h⟩ := h
  obtain ⟨a7, r7, rfl, k7, h⟩ := h
  obtain ⟨a8, r8, rfl, k8, h⟩ := h
  have e6 : a6 = [v1] := k6.1
  have e8 : a8 = [v2] := k8.1
  subst e6
  subst e8
  exact ⟨a1, _, rfl, k1, a2, _, rfl, k2, a3, _, rfl, k3, a4, _, rfl, k4, a5, _, rfl, k5, _, _, rfl, cells_list h1, a7, _, rfl, k7, _, _, rfl, cells_list h2, h⟩
theorem set_append_right {α : Type} (l r : List α) (i : Nat) (x : α) : (l ++ r).set (l.length + i) x = l ++ r.set i x := by
  rw [List.set_append, if_neg (by omega)]; simp
/-- a command is made: its rows are shown to all -/
theorem SC.cmdDone {P : Program} {C : Cx} {Γ : Env} {Δ : List Own} {ks : List KI} {T E b : Nat} {c : Cmd} {v1 v2 : Value} {cd : Code} (Δ1 : List Own) (hi : Δ = Δ1 ++ cmdOwn T E b c v1 v2)
    (k : SC P C Γ (Δ1 ++ [Own.var b T c, Own.none, Own.none]) cd ks) : SC P C Γ Δ cd ks := by
  subst hi
  intro m a w st
  have g1 : (Δ1 ++ cmdOwn T E b c v1 v2)[Δ1.length + 1]? = some (Own.row v1 E c.gives) := by rw [List.getElem?_append_right (by omega)]; simp
  obtain ⟨m1, st1, hv1, hl1⟩ := st.publishRow g1
  rw [set_append_right] at st1
  have g2 : (Δ1 ++ (cmdOwn T E b c v1 v2).set 1 Own.none)[Δ1.length + 2]? = some (Own.row v2 E c.wants) := by rw [List.getElem?_append_right (by omega)]; simp
  obtain ⟨m2, st2, hv2, hl2⟩ := st1.publishRow g2
  rw [set_append_right] at st2
  refine k m2 a w { st2 with held := ?_ }
  obtain ⟨bs, ho, hb⟩ := st2.held
  obtain ⟨b1, b2, rfl, h1, h2⟩ := ho.split
  refine ⟨b1 ++ b2, Owns.join h1 ?_, hb⟩
  match b2, h2 with
  | x :: y :: z :: [], ⟨⟨e, cs, hc, hw⟩, h3, h4, _⟩ => exact ⟨⟨e, cs, raw_cells hc ((V c.gives).up hl2 hv1) hv2, hw⟩, h3, h4, trivial⟩
end Go.Inn
