/- Rules for arrays: a literal of all its elements, the address of an element, equality. No program in it. -/
import Derived.Test.YtgnblhmejecgfaaGreatDoorKB
set_option linter.all false
namespace Go.Inn
open Go Go.RowKit
instance {k : Nat} {α : Type} [Inhabited α] : Inhabited (Arr k α) := ⟨⟨List.replicate k default, List.length_replicate⟩⟩
section
variable {P : Program} {I : GI} {B : Nat → Prop} {Γ : Env} {Δ : List Own} {d : Option Tmp} {ty : TypeId} {pos : String} {aft : Array Edge} {gd : Option (Nat × Bool)}
theorem arrCells_at {α : Type} [Rep α] {m : View} : ∀ {xs : List α} {cs : List Value} (j : Nat), arrCells m xs cs → ∀ (hj : j < xs.length), Rep.cells m xs[j] ((cs.drop (j * Rep.n α)).take (Rep.n α))
  | [], _, j, _, hj => by simp at hj
  | x :: xs, cs, 0, h, _ => by
    obtain ⟨c, e, rfl, h1, h2⟩ := h
    rw [Nat.zero_mul, List.drop_zero, ← Rep.len h1, List.take_left]; exact h1
  | x :: xs, cs, j + 1, h, hj => by
    obtain ⟨c, e, rfl, h1, h2⟩ := h
    have hj' : j < xs.length := by simpa using hj
    have := arrCells_at j h2 hj'
    have e2 : (j + 1) * Rep.n α = c.length + j * Rep.n α := by rw [Nat.add_mul, Nat.one_mul, Rep.len h1]; omega
    have e3 : (c ++ e).drop ((j + 1) * Rep.n α) = e.drop (j * Rep.n α) := by rw [e2, ← List.drop_drop, List.drop_left]
    rw [e3]
    exact this
theorem OpOk.indexAddrArr {t e : TypeId} {n : Nat} {x y : Operand} {α : Type} [Rep α] [Inhabited α] {l : Arr n α} {i : Int} (ht : P.underlying t = some (.array n e)) (he : Ty P e α) (hx : Typ I Γ x (VP.ref l)) (hy : Typ I Γ y (V i)) (h0 : 0 ≤ i) (h1 : i < n) :
    OpOk P I B Γ Δ ⟨d, .indexAddr t x y, ty, pos, aft, gd⟩ (VP.ref (nth l.list i)) := by
  refine .still fun m c w hl hf hI hh => ?_
  obtain ⟨b, off, ex, cc, et, fr, cs, k1, k2, k3⟩ := hx.at hI hl (by simp [Op.operands])
  have ey := (V_int (hy.at hI hl (by simp [Op.operands]))).1
  have hlt : i.toNat < l.list.length := by rw [l.len]; omega
  refine ⟨.pointer (some ⟨b, off + i.toNat * Rep.n α, none⟩), ?_, b, _, rfl, cc, et, fr, _, k1, by rw [nth_eq hlt]; exact arrCells_at i.toNat k2 hlt, fun j hj => ?_⟩
  · simp [execOp, ex, ey, Instr.indexAt, Instr.sureAddr, asIntOf, run_underlying ht, h0, h1, he.size w, add_mk]
  · have hle : i.toNat * Rep.n α + j < n * Rep.n α := by
      have : (i.toNat + 1) * Rep.n α ≤ n * Rep.n α := Nat.mul_le_mul_right _ (by omega)
      rw [Nat.add_mul] at this; omega
    have := k3 (i.toNat * Rep.n α + j) hle
    rw [Nat.add_assoc, this, List.getElem?_take, if_pos hj, List.getElem?_drop]
theorem OpOk.buildArr {t e : TypeId} {n : Nat} {α : Type} [Rep α] {z : Arr n α} (ht : P.underlying t = some (.array n e)) (he : Ty P e α) (hz : TyZ P t z) {parts : List (Nat × Operand)} (hidx : parts.map (·.1) = List.range' 0 n) {ys : List α} (hy : TypL I Γ (parts.map (·.2)) ys) (hn : ys.length = n) :
    OpOk P I B Γ Δ ⟨d, .build t parts.toArray, ty, pos, aft, gd⟩ (V (⟨ys, hn⟩ : Arr n α)) := by
  refine .still fun m c w hl hf hI hh => ?_
  obtain ⟨zs, hz1, hz2⟩ := hz.zero
  have hzl : zs.length = n * Rep.n α := Rep.len (hz2 m)
  have hop : ∀ x, x ∈ parts.map (·.2) → x ∈ (Op.build t parts.toArray).operands := by
    intro x hx; simp only [Op.operands]; simpa using hx
  obtain ⟨ds, h1, h2⟩ := hy.fill hI hl hop 0 [] zs (by simp) (by rw [hzl, hn])
  have hpz : parts = (List.range' 0 (parts.map (·.2)).length).zip (parts.map (·.2)) := by
    have hlen : (parts.map (·.2)).length = n := by
      have := congrArg List.length hidx
      simpa using this
    rw [hlen, ← hidx]
    exact zip_back parts
  have hm : (parts.toArray.map fun p => (p.1, c.eval p.2)).toList = ((List.range' 0 (parts.map (·.2)).length).zip (parts.map (·.2))).map fun p => (p.1, c.eval p.2) := by
    rw [← hpz]; simp
  refine ⟨.agg ds.toArray, ?_, ds, h1, rfl⟩
  simp only [List.nil_append] at h2
  simp only [execOp, Instr.build, Sem.run_bind, hz1 w, Result.andThen_ok, run_underlying ht, he.size w, packed_cells (hz2 m), hm, h2, Sem.run_pure]
end
theorem run_part_at {P : Program} {t : TypeId} {α : Type} [Rep α] (ht : Ty P t α) {m : View} {xs : List α} {cs : List Value} (h : arrCells m xs cs) {j : Nat} (hj : j < xs.length) (w : World) :
    (part t cs.toArray (j * Rep.n α)).run P w = .ok (packed (Rep.agg α) ((cs.drop (j * Rep.n α)).take (Rep.n α))) w := run_part ht (arrCells_at j h hj) w
theorem TyQ.array {P : Program} {t e : TypeId} {k n : Nat} {α : Type} [Rep α] [DecidableEq α] (ht : P.underlying t = some (.array k e)) (he : Ty P e α) (q : TyQ P e n (fun a b : α => decide (a = b))) : TyQ P t (n + 1) (fun a b : Arr k α => decide (a.list = b.list)) where
  run {m x y cs ds} h1 h2 w d := by
    have e1 : packed (Rep.agg (Arr k α)) cs = .agg cs.toArray := rfl
    have e2 : packed (Rep.agg (Arr k α)) ds = .agg ds.toArray := rfl
    rw [e1, e2, ← Nat.add_assoc]
    have hx := x.len
    have hy := y.len
    simp only [Op.equalIn, Sem.run_bind, run_underlying ht, Result.andThen_ok, he.size w]
    have key : ∀ (c j : Nat), j + c = k → (Sem.run P (forIn (List.range' j c) ((none : Option Bool), ()) fun i __s => do
        let a ← part e cs.toArray (i * Rep.n α)
        let b ← part e ds.toArray (i * Rep.n α)
        let r ← Op.equalIn (d + n) e a b
        if (!r) = true then pure (ForInStep.done (some false, ())) else pure (ForInStep.yield (none, ()))) w) = .ok ((if x.list.drop j = y.list.drop j then none else some false), ()) w := by
      intro c
      induction c with
      | zero =>
        intro j hj
        rw [List.drop_of_length_le (by omega), List.drop_of_length_le (by omega)]
        simp
      | succ c ih =>
        intro j hj
        have hjx : j < x.list.length := by omega
        have hjy : j < y.list.length := by omega
        have hp1 := run_part_at (P := P) he (cs := cs) h1 hjx w
        have hp2 := run_part_at (P := P) he (cs := ds) h2 hjy w
        have hq := q.run (arrCells_at j h1 hjx) (arrCells_at j h2 hjy) w d
        rw [List.range'_succ, List.forIn_cons]
        simp only [Sem.run_bind, hp1, hp2, hq, Result.andThen_ok]
        rw [List.drop_eq_getElem_cons hjx, List.drop_eq_getElem_cons hjy]
        by_cases hxy : x.list[j] = y.list[j]
        · simp only [hxy, decide_true, Bool.not_true, Bool.false_eq_true, if_false, Sem.run_pure, Result.andThen_ok, List.cons.injEq, true_and]
          exact ih (j + 1) (by omega)
        · simp only [hxy, decide_false, Bool.not_false, if_true, Sem.run_pure, Result.andThen_ok, List.cons.injEq, false_and, if_false]
    rw [Std.Legacy.Range.forIn_eq_forIn_range']
    have := key k 0 (by omega)
    simp only [Std.Legacy.Range.size, Nat.sub_zero, Nat.add_sub_cancel, Nat.div_one]
    rw [this]
    by_cases hxy : x.list = y.list <;> simp [hxy]
end Go.Inn
