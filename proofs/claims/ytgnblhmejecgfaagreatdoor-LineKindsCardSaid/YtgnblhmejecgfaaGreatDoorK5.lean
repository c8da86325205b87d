/- The rules for single operations: moves, numbers, bools, texts, tests, fields, loads, stores, lists. No program in it. -/
import Derived.Test.YtgnblhmejecgfaaGreatDoorK4
import Derived.IntWalk
import Derived.Laws.StructEq
set_option linter.all false
namespace Go.Inn
open Go Go.RowKit

section
variable {P : Program} {I : GI} {B : Nat → Prop} {Γ : Env} {Δ : List Own} {d : Option Tmp} {ty : TypeId} {pos : String} {aft : Array Edge} {gd : Option (Nat × Bool)}

theorem OpOk.move {x : Operand} {p : VP} (h : Typ I Γ x p) : OpOk P I B Γ Δ ⟨d, .move x, ty, pos, aft, gd⟩ p :=
  .still fun m a w hl hf hI hh => ⟨_, rfl, h.at hI hl (by simp [Op.operands])⟩
theorem OpOk.assign {x : Operand} {p : VP} (h : Typ I Γ x p) : OpOk P I B Γ Δ ⟨d, .assign x, ty, pos, aft, gd⟩ p :=
  .still fun m a w hl hf hI hh => ⟨_, rfl, h.at hI hl (by simp [Op.operands])⟩

/-! constants -/
theorem Typ.cint {x : Int} (h : in64 x := by unfold in64; omega) : Typ I Γ (.const (.int .i64 x)) (V x) := .con (V_int_mk h)
theorem Typ.cbool {b : Bool} : Typ I Γ (.const (.bool b)) (V b) := .con (V_bool_mk b)
theorem Typ.cu8n {I : GI} {Γ : Env} (k : UInt8) : Typ I Γ (.const (.int .u8 (k.toNat : Int))) (V k) := Typ.con fun m => V_u8_mk k m
theorem Typ.cu8 {x : Int} (h : 0 ≤ x ∧ x < 256 := by omega) : Typ I Γ (.const (.int .u8 x)) (V (UInt8.ofNat x.toNat)) := .con fun m => by
  have := V_u8_mk (UInt8.ofNat x.toNat) m
  have e : ((UInt8.ofNat x.toNat).toNat : Int) = x := by
    have h1 : (UInt8.ofNat x.toNat).toNat = x.toNat % 256 := UInt8.toNat_ofNat'
    rw [h1]; omega
  rwa [e] at this
theorem Typ.cstr {l : Str} (h : l.length ≤ maxLen := by simp [maxLen]) : Typ I Γ (.const (.string ⟨l.toArray⟩)) (V l) := .con (V_str_mk h)
theorem Typ.cnil {α : Type} [Rep α] : Typ I Γ (.const (.slice none 0 0)) (V ([] : List α)) := .con fun _ => ⟨_, ⟨none, 0, rfl, Nat.le_refl _, Nat.zero_le _, .inl rfl⟩, rfl⟩

/-! bools -/
theorem OpOk.not {t : TypeId} {x : Operand} {b : Bool} (h : Typ I Γ x (V b)) : OpOk P I B Γ Δ ⟨d, .unOp .not t x, ty, pos, aft, gd⟩ (V (!b)) :=
  .still fun m a w hl hf hI hh => ⟨.bool (!b), by simp [execOp, V_bool (h.at hI hl (by simp [Op.operands])), Op.unary], V_bool_mk _ m⟩
theorem OpOk.pick {c x y : Operand} {b : Bool} {p : VP} (hc : Typ I Γ c (V b)) (hx : b = true → Typ I Γ x p) (hy : b = false → Typ I Γ y p) : OpOk P I B Γ Δ ⟨d, .pick c x y, ty, pos, aft, gd⟩ p := by
  refine .still fun m a w hl hf hI hh => ⟨if b = true then a.eval x else a.eval y, ?_, ?_⟩
  · simp [execOp, V_bool (hc.at hI hl (by simp [Op.operands])), asBool]
  · by_cases e : b = true
    · rw [if_pos e]; exact (hx e).at hI hl (by simp [Op.operands])
    · rw [if_neg e]; exact (hy (by simpa using e)).at hI hl (by simp [Op.operands])
theorem OpOk.pickAnd {c x : Operand} {b1 b2 : Bool} (hc : Typ I Γ c (V b1)) (hx : b1 = true → Typ I Γ x (V b2)) : OpOk P I B Γ Δ ⟨d, .pick c x (.const (.bool false)), ty, pos, aft, gd⟩ (V (b1 && b2)) :=
  .pick hc (fun e => by rw [e]; simpa using hx e) (fun e => by rw [e]; exact Typ.cbool)
theorem OpOk.pickOr {c y : Operand} {b1 b2 : Bool} (hc : Typ I Γ c (V b1)) (hy : b1 = false → Typ I Γ y (V b2)) : OpOk P I B Γ Δ ⟨d, .pick c (.const (.bool true)) y, ty, pos, aft, gd⟩ (V (b1 || b2)) :=
  .pick hc (fun e => by rw [e]; exact Typ.cbool) (fun e => by rw [e]; simpa using hy e)
theorem run_eqlb {t : TypeId} {a b : Bool} (ht : P.underlying t = some .bool) (w : World) : (binOp .eql t (.bool a) (.bool b)).run P w = .ok (.bool (a == b)) w := by
  have h := run_equalIn_bool' w 9999 t a b ht
  show (do pure (Value.bool (← Op.equalIn (9999 + 1) t (.bool a) (.bool b))) : Sem Value).run P w = _
  simp [h]
theorem run_neqb {t : TypeId} {a b : Bool} (ht : P.underlying t = some .bool) (w : World) : (binOp .neq t (.bool a) (.bool b)).run P w = .ok (.bool (!(a == b))) w := by
  have h := run_equalIn_bool' w 9999 t a b ht
  show (do pure (Value.bool (!(← Op.equalIn (9999 + 1) t (.bool a) (.bool b)))) : Sem Value).run P w = _
  simp [h]
theorem OpOk.eqb {t u : TypeId} {x y : Operand} {a b : Bool} (ht : P.underlying t = some .bool) (hx : Typ I Γ x (V a)) (hy : Typ I Γ y (V b)) : OpOk P I B Γ Δ ⟨d, .binOp .eql t x y u, ty, pos, aft, gd⟩ (V (a == b)) :=
  .still fun m c w hl hf hI hh => ⟨.bool (a == b), by
    have h1 := V_bool (hx.at hI hl (by simp [Op.operands])); have h2 := V_bool (hy.at hI hl (by simp [Op.operands]))
    simp only [execOp, h1, h2, eqGuard]; simp [run_eqlb ht], V_bool_mk _ m⟩
theorem OpOk.neb {t u : TypeId} {x y : Operand} {a b : Bool} (ht : P.underlying t = some .bool) (hx : Typ I Γ x (V a)) (hy : Typ I Γ y (V b)) : OpOk P I B Γ Δ ⟨d, .binOp .neq t x y u, ty, pos, aft, gd⟩ (V (!(a == b))) :=
  .still fun m c w hl hf hI hh => ⟨.bool (!(a == b)), by
    have h1 := V_bool (hx.at hI hl (by simp [Op.operands])); have h2 := V_bool (hy.at hI hl (by simp [Op.operands]))
    simp only [execOp, h1, h2, eqGuard]; simp [run_neqb ht], V_bool_mk _ m⟩

/-! numbers: int -/
theorem run_bin_int {t u : TypeId} {op : BinOp} {x y : Operand} {k : IntKind} {a b : Int} {c : Act} {w : World} {r : Result Value} (hx : c.eval x = .int k a) (hy : c.eval y = .int k b)
    (h : (binOp op t (.int k a) (.int k b)).run P w = r) : (execOp c.eval ⟨d, .binOp op t x y u, ty, pos, aft, gd⟩).run P w = r.andThen fun v w' => .ok (.value v) w' := by
  simp only [execOp, hx, hy]
  subst h
  cases op <;> simp [eqGuard]
theorem wrap_in64 {x : Int} (h : in64 x) : IntKind.i64.wrap x = x := IntWalk.i64_in x h
theorem beq_dec (a b : Int) : (a == b) = decide (a = b) := by rw [Bool.eq_iff_iff]; simp
theorem OpOk.cmp {t u : TypeId} {op : BinOp} {x y : Operand} {a b : Int} (f : Int → Int → Bool) (hf : ∀ (w : World), (binOp op t (.int .i64 a) (.int .i64 b)).run P w = .ok (.bool (f a b)) w) (hx : Typ I Γ x (V a)) (hy : Typ I Γ y (V b)) :
    OpOk P I B Γ Δ ⟨d, .binOp op t x y u, ty, pos, aft, gd⟩ (V (f a b)) :=
  .still fun m c w hl hfit hI hh => ⟨.bool (f a b), by
    rw [run_bin_int (V_int (hx.at hI hl (by simp [Op.operands]))).1 (V_int (hy.at hI hl (by simp [Op.operands]))).1 (hf w)]; rfl, V_bool_mk _ m⟩
theorem OpOk.eql {t u : TypeId} {x y : Operand} {a b : Int} (hx : Typ I Γ x (V a)) (hy : Typ I Γ y (V b)) : OpOk P I B Γ Δ ⟨d, .binOp .eql t x y u, ty, pos, aft, gd⟩ (V (decide (a = b))) :=
  .cmp (fun a b => decide (a = b)) (fun w => by simp [binOp, Op.intCmp, beq_dec]) hx hy
theorem OpOk.neq {t u : TypeId} {x y : Operand} {a b : Int} (hx : Typ I Γ x (V a)) (hy : Typ I Γ y (V b)) : OpOk P I B Γ Δ ⟨d, .binOp .neq t x y u, ty, pos, aft, gd⟩ (V (decide (a ≠ b))) :=
  .cmp (fun a b => decide (a ≠ b)) (fun w => by simp [binOp, Op.intCmp, bne, beq_dec]) hx hy
theorem OpOk.lss {t u : TypeId} {x y : Operand} {a b : Int} (hx : Typ I Γ x (V a)) (hy : Typ I Γ y (V b)) : OpOk P I B Γ Δ ⟨d, .binOp .lss t x y u, ty, pos, aft, gd⟩ (V (decide (a < b))) :=
  .cmp (fun a b => decide (a < b)) (fun w => by simp [binOp, Op.intCmp]) hx hy
theorem OpOk.leq {t u : TypeId} {x y : Operand} {a b : Int} (hx : Typ I Γ x (V a)) (hy : Typ I Γ y (V b)) : OpOk P I B Γ Δ ⟨d, .binOp .leq t x y u, ty, pos, aft, gd⟩ (V (decide (a ≤ b))) :=
  .cmp (fun a b => decide (a ≤ b)) (fun w => by simp [binOp, Op.intCmp]) hx hy
theorem OpOk.gtr {t u : TypeId} {x y : Operand} {a b : Int} (hx : Typ I Γ x (V a)) (hy : Typ I Γ y (V b)) : OpOk P I B Γ Δ ⟨d, .binOp .gtr t x y u, ty, pos, aft, gd⟩ (V (decide (b < a))) :=
  .cmp (fun a b => decide (b < a)) (fun w => by simp [binOp, Op.intCmp]) hx hy
theorem OpOk.geq {t u : TypeId} {x y : Operand} {a b : Int} (hx : Typ I Γ x (V a)) (hy : Typ I Γ y (V b)) : OpOk P I B Γ Δ ⟨d, .binOp .geq t x y u, ty, pos, aft, gd⟩ (V (decide (b ≤ a))) :=
  .cmp (fun a b => decide (b ≤ a)) (fun w => by simp [binOp, Op.intCmp]) hx hy
theorem OpOk.arith {t u : TypeId} {op : BinOp} {x y : Operand} {a b c : Int} (hc : in64 c) (hf : ∀ (w : World), (binOp op t (.int .i64 a) (.int .i64 b)).run P w = .ok (.int .i64 c) w) (hx : Typ I Γ x (V a)) (hy : Typ I Γ y (V b)) :
    OpOk P I B Γ Δ ⟨d, .binOp op t x y u, ty, pos, aft, gd⟩ (V c) :=
  .still fun m e w hl hfit hI hh => ⟨.int .i64 c, by
    rw [run_bin_int (V_int (hx.at hI hl (by simp [Op.operands]))).1 (V_int (hy.at hI hl (by simp [Op.operands]))).1 (hf w)]; rfl, V_int_mk hc m⟩
theorem OpOk.add {t u : TypeId} {x y : Operand} {a b : Int} (hx : Typ I Γ x (V a)) (hy : Typ I Γ y (V b)) (hc : in64 (a + b)) : OpOk P I B Γ Δ ⟨d, .binOp .add t x y u, ty, pos, aft, gd⟩ (V (a + b)) :=
  .arith hc (fun w => by simp [binOp, Op.intArith, wrap_in64 hc]) hx hy
theorem OpOk.sub {t u : TypeId} {x y : Operand} {a b : Int} (hx : Typ I Γ x (V a)) (hy : Typ I Γ y (V b)) (hc : in64 (a - b)) : OpOk P I B Γ Δ ⟨d, .binOp .sub t x y u, ty, pos, aft, gd⟩ (V (a - b)) :=
  .arith hc (fun w => by simp [binOp, Op.intArith, wrap_in64 hc]) hx hy
theorem OpOk.mul {t u : TypeId} {x y : Operand} {a b : Int} (hx : Typ I Γ x (V a)) (hy : Typ I Γ y (V b)) (hc : in64 (a * b)) : OpOk P I B Γ Δ ⟨d, .binOp .mul t x y u, ty, pos, aft, gd⟩ (V (a * b)) :=
  .arith hc (fun w => by simp [binOp, Op.intArith, wrap_in64 hc]) hx hy
theorem OpOk.rem {t u : TypeId} {x y : Operand} {a b : Int} (hx : Typ I Γ x (V a)) (hy : Typ I Γ y (V b)) (hb : b ≠ 0) (hc : in64 (a.tmod b)) : OpOk P I B Γ Δ ⟨d, .binOp .rem t x y u, ty, pos, aft, gd⟩ (V (a.tmod b)) :=
  .arith hc (fun w => by simp [binOp, Op.intDiv, hb]) hx hy
theorem OpOk.quo {t u : TypeId} {x y : Operand} {a b : Int} (hx : Typ I Γ x (V a)) (hy : Typ I Γ y (V b)) (hb : b ≠ 0) (hc : in64 (a.tdiv b)) : OpOk P I B Γ Δ ⟨d, .binOp .quo t x y u, ty, pos, aft, gd⟩ (V (a.tdiv b)) :=
  .arith hc (fun w => by simp [binOp, Op.intDiv, hb, wrap_in64 hc]) hx hy
theorem OpOk.neg {t : TypeId} {x : Operand} {a : Int} (hx : Typ I Γ x (V a)) (hc : in64 (-a)) : OpOk P I B Γ Δ ⟨d, .unOp .neg t x, ty, pos, aft, gd⟩ (V (-a)) :=
  .still fun m e w hl hfit hI hh => ⟨.int .i64 (-a), by simp [execOp, (V_int (hx.at hI hl (by simp [Op.operands]))).1, Op.unary, Op.intArith, wrap_in64 hc], V_int_mk hc m⟩
/-- a conversion among int's own kind -/
theorem OpOk.conv {s t : TypeId} {x : Operand} {a : Int} (hs : ∃ k, P.underlying s = some (.int k)) (ht : P.underlying t = some (.int .i64)) (hx : Typ I Γ x (V a)) : OpOk P I B Γ Δ ⟨d, .convert s t x, ty, pos, aft, gd⟩ (V a) :=
  .still fun m e w hl hfit hI hh => by
    obtain ⟨k, hs⟩ := hs
    obtain ⟨h1, h2⟩ := V_int (hx.at hI hl (by simp [Op.operands]))
    exact ⟨.int .i64 a, by simp [execOp, h1, convert, run_underlying hs, run_underlying ht, Conv.intToInt, wrap_in64 h2], V_int_mk h2 m⟩
theorem in64_u8 (x : UInt8) : in64 (x.toNat : Int) := by have := x.toNat_lt; unfold in64; omega
theorem OpOk.convU8 {s t : TypeId} {x : Operand} {a : UInt8} (hs : ∃ k, P.underlying s = some (.int k)) (ht : P.underlying t = some (.int .i64)) (hx : Typ I Γ x (V a)) : OpOk P I B Γ Δ ⟨d, .convert s t x, ty, pos, aft, gd⟩ (V (a.toNat : Int)) :=
  .still fun m e w hl hfit hI hh => by
    obtain ⟨k, hs⟩ := hs
    have h1 := V_u8 (hx.at hI hl (by simp [Op.operands]))
    exact ⟨.int .i64 a.toNat, by simp [execOp, h1, convert, run_underlying hs, run_underlying ht, Conv.intToInt, wrap_in64 (in64_u8 a)], V_int_mk (in64_u8 a) m⟩
/-! bytes -/
theorem OpOk.cmpU8 {t u : TypeId} {op : BinOp} {x y : Operand} {a b : UInt8} (r : Bool) (hf : ∀ (w : World), (binOp op t (.int .u8 a.toNat) (.int .u8 b.toNat)).run P w = .ok (.bool r) w) (hx : Typ I Γ x (V a)) (hy : Typ I Γ y (V b)) :
    OpOk P I B Γ Δ ⟨d, .binOp op t x y u, ty, pos, aft, gd⟩ (V r) :=
  .still fun m c w hl hfit hI hh => ⟨.bool r, by
    rw [run_bin_int (V_u8 (hx.at hI hl (by simp [Op.operands]))) (V_u8 (hy.at hI hl (by simp [Op.operands]))) (hf w)]; rfl, V_bool_mk _ m⟩
theorem u8_eq (a b : UInt8) : ((a.toNat : Int) == (b.toNat : Int)) = decide (a = b) := by
  rw [Bool.eq_iff_iff]; simp [← UInt8.toNat_inj]; omega
theorem OpOk.eqlU8 {t u : TypeId} {x y : Operand} {a b : UInt8} (hx : Typ I Γ x (V a)) (hy : Typ I Γ y (V b)) : OpOk P I B Γ Δ ⟨d, .binOp .eql t x y u, ty, pos, aft, gd⟩ (V (decide (a = b))) :=
  .cmpU8 _ (fun w => by simp only [binOp, Op.intCmp]; rw [u8_eq]; simp) hx hy
theorem OpOk.neqU8 {t u : TypeId} {x y : Operand} {a b : UInt8} (hx : Typ I Γ x (V a)) (hy : Typ I Γ y (V b)) : OpOk P I B Γ Δ ⟨d, .binOp .neq t x y u, ty, pos, aft, gd⟩ (V (decide (a ≠ b))) :=
  .cmpU8 _ (fun w => by simp only [binOp, Op.intCmp, bne]; rw [u8_eq]; simp) hx hy
theorem OpOk.lssU8 {t u : TypeId} {x y : Operand} {a b : UInt8} (hx : Typ I Γ x (V a)) (hy : Typ I Γ y (V b)) : OpOk P I B Γ Δ ⟨d, .binOp .lss t x y u, ty, pos, aft, gd⟩ (V (decide (a < b))) :=
  .cmpU8 _ (fun w => by simp [binOp, Op.intCmp, UInt8.lt_iff_toNat_lt]) hx hy
theorem OpOk.gtrU8 {t u : TypeId} {x y : Operand} {a b : UInt8} (hx : Typ I Γ x (V a)) (hy : Typ I Γ y (V b)) : OpOk P I B Γ Δ ⟨d, .binOp .gtr t x y u, ty, pos, aft, gd⟩ (V (decide (b < a))) :=
  .cmpU8 _ (fun w => by simp [binOp, Op.intCmp, UInt8.lt_iff_toNat_lt]) hx hy

/-! texts -/
theorem toList_mk (l : Str) : (⟨l.toArray⟩ : ByteArray).toList = l := by
  rw [ByteArray.toList_eq]
theorem beq_str (a b : Str) : (a == b) = decide (a = b) := by rw [Bool.eq_iff_iff]; simp
theorem OpOk.eqlS {t u : TypeId} {x y : Operand} {a b : Str} (hx : Typ I Γ x (V a)) (hy : Typ I Γ y (V b)) : OpOk P I B Γ Δ ⟨d, .binOp .eql t x y u, ty, pos, aft, gd⟩ (V (decide (a = b))) :=
  .still fun m c w hl hfit hI hh => ⟨.bool (decide (a = b)), by
    have h1 := (V_str (hx.at hI hl (by simp [Op.operands]))).1; have h2 := (V_str (hy.at hI hl (by simp [Op.operands]))).1
    simp [execOp, h1, h2, str, eqGuard, binOp, Op.stringOp, beq_str], V_bool_mk _ m⟩
theorem OpOk.neqS {t u : TypeId} {x y : Operand} {a b : Str} (hx : Typ I Γ x (V a)) (hy : Typ I Γ y (V b)) : OpOk P I B Γ Δ ⟨d, .binOp .neq t x y u, ty, pos, aft, gd⟩ (V (decide (a ≠ b))) :=
  .still fun m c w hl hfit hI hh => ⟨.bool (decide (a ≠ b)), by
    have h1 := (V_str (hx.at hI hl (by simp [Op.operands]))).1; have h2 := (V_str (hy.at hI hl (by simp [Op.operands]))).1
    simp [execOp, h1, h2, str, eqGuard, binOp, Op.stringOp, beq_str], V_bool_mk _ m⟩
end
end Go.Inn
