/- A function's result as an own row of the caller's; own rows read and written. No program in it. -/
import Derived.Test.YtgnblhmejecgfaaGreatDoorKF
set_option linter.all false
namespace Go.Inn
open Go Go.RowKit
def RetRow (m : View) (w : World) {α : Type} [Rep α] (e : TypeId) (xs : List α) : Ending → World → Prop :=
  fun en w' => ∃ v m', en = .returned v ∧ Grow m w m' w' ∧ Held (fun x => w.heap.size ≤ x) [Own.row v e xs] m' w'
def FnSpecW (P : Program) (I : GI) (f : FuncId) (ps : List VP) {α : Type} [Rep α] (e : TypeId) (xs : List α) : Prop :=
  ∀ (m : View) (w : World) (args : List Value), m.fits w → I.on m → Alls m ps args → Calls P f args.toArray w (RetRow m w e xs)
def RetRowR (P : Program) (fn : Func) (m0 : View) (w0 : World) {α : Type} [Rep α] (e : TypeId) (xs : List α) : Act → World → Prop :=
  fun a w => a.defers = [] ∧ ∃ v, (results fn a.tmps).run P w = .ok v w ∧ RetRow m0 w0 e xs (.returned v) w
theorem FnSpecW.enter {P : Program} {I : GI} {f : FuncId} {ps : List VP} {α : Type} [Rep α] {e : TypeId} {xs : List α} {fn : Func} {c : Code} {N : Nat} (hf : P.funcs[f]? = some fn) (hb : fn.body = some c) (hN : fn.ntmps = N) (hp : Nat.ble ps.length N = true)
    (h : ∀ (m0 : View) (w0 : World), SC P ⟨I, N, w0, m0, RetRowR P fn m0 w0 e xs, fun _ => False⟩ (argEnv 0 ps) [] c []) : FnSpecW P I f ps e xs := by
  intro m w args hfit hI ha
  refine calls_of_wp hf hb ?_
  have hl := ha.length
  have hple := Nat.le_of_ble_eq_true hp
  refine wp_mono (h m w m { tmps := args.toArray ++ Array.replicate (fn.ntmps - args.toArray.size) undef, defers := [] } w ?_) ?_
  · refine { size := ?_, defers := rfl, env := ?_, held := Held.nil _ _ _, fits := hfit, below := BelowX.refl _ _, le := View.le_refl _, fresh := fun _ _ _ => rfl, glob := hI }
    · simp [hN]; omega
    · intro t p ht
      obtain ⟨_, h2⟩ := argEnv_get ps 0 t p ht
      obtain ⟨v, hv, hpv⟩ := ha.get (by simpa using h2)
      have hlt : t < args.length := (List.getElem?_eq_some_iff.1 hv).1
      have : (args.toArray ++ Array.replicate (fn.ntmps - args.toArray.size) undef).getD t undef = v := by
        rw [Array.getD_eq_getD_getElem?, Array.getElem?_append_left (by simpa using hlt)]
        simp [hv]
      show p.on m ((args.toArray ++ Array.replicate (fn.ntmps - args.toArray.size) undef).getD t undef)
      rw [this]; exact hpv
  · intro e a' w' hq
    cases e with
    | normal => obtain ⟨hd, v, hr, hR⟩ := hq; exact ⟨hd, v, hr, hR⟩
    | ret => obtain ⟨hd, v, hr, hR⟩ := hq; exact ⟨hd, v, hr, hR⟩
    | exit id => exact hq.elim
    | goto l => exact hq.elim
    | panic ch => exact hq.elim
    | outgrown => exact hq.elim
theorem FnSpecW.eqv {P : Program} {I : GI} {f : FuncId} {ps : List VP} {α : Type} [Rep α] {e : TypeId} {xs ys : List α} (h : xs = ys) (k : FnSpecW P I f ps e xs) : FnSpecW P I f ps e ys := h ▸ k
theorem SR.oneRow {P : Program} {I : GI} {N : Nat} {w0 : World} {m0 : View} {fn : Func} {α : Type} [Rep α] {e : TypeId} {xs ys : List α} {Γ : Env} {Δ : List Own} {t : Nat} (i : Nat) {v : Value} (hr : fn.results = #[.tmp t]) (ht : Γ.get t = some (.eq v)) (hi : Δ[i]? = some (Own.row v e xs)) (he : xs = ys) :
    SR ⟨I, N, w0, m0, RetRowR P fn m0 w0 e ys, fun _ => False⟩ Γ Δ := by
  intro m a w st
  subst he
  have hv : a.tmps.getD t undef = v := st.env t _ ht
  obtain ⟨b, hb, hnd, hin, _⟩ := st.held.upd hi
  have e1 : (resSem a.tmps (.tmp t)).run P w = .ok v w := by simp [resSem, hv]
  refine ⟨st.defers, v, by rw [results_sem, hr]; simp [e1], v, m, rfl, st.toGrow, [b], ⟨hb, trivial⟩, by simpa using hnd, fun x hx => ?_⟩
  obtain ⟨h1, h2, h3⟩ := hin x (by simpa using hx)
  exact ⟨h1, h2.elim id (fun h => h.elim), h3⟩
section
variable {P : Program} {C : Cx} {Γ : Env} {Δ : List Own} {ks : List KI} {ops : Array Oper} {rest : List Oper} {ty : TypeId} {pos : String} {aft : Array Edge}
theorem SL.callRow {d : Nat} {op : Op} {f : FuncId} {α : Type} [Rep α] {e : TypeId} {xs : List α} {ps : List VP} (he : Enters P C Γ op f ps) (h : FnSpecW P C.I f ps e xs)
    (hN : Nat.ble (d + 1) C.N = true) (k : ∀ v, SL P C ((d, .eq v) :: Γ) (Δ ++ [Own.row v e xs]) ops rest ks) : SL P C Γ Δ ops (⟨some d, op, ty, pos, aft, none⟩ :: rest) ks := by
  intro m a w st
  refine wpList_plain rfl fun K hK => ?_
  obtain ⟨vs, hA, hrun⟩ := he m a w ⟨some d, op, ty, pos, aft, none⟩ rfl st.glob (Look.of st.env _)
  have st0 : Held C.Y (Δ ++ []) m w := by rw [List.append_nil]; exact st.held
  obtain ⟨bs, hb, hbs, hswap⟩ := st0.swap
  have hb0 : bs = [] := by
    cases bs with
    | nil => rfl
    | cons _ _ => exact hb.elim
  subst hb0
  unfold Oper.wp
  rw [hrun, Oper.upon_enter]
  refine (h m w vs st.fits st.glob hA).mono ?_
  rintro e' w' ⟨v, m', rfl, g, cs, h1, h2⟩
  have hsz := g.below.size
  have hs0 := st.below.size
  have hheld := hswap m' w' [Own.row v e xs] g.le (fun k hk _ => g.below.block k hk) (fun k hk _ => g.fresh k hk) hsz (Cx.Y_new hs0) ⟨cs, h1, h2.dup, fun x hx => ⟨(h2.inn x hx).1, .inr (h2.inn x hx).2.1, (h2.inn x hx).2.2⟩⟩
  have st' : St C Γ (Δ ++ [Own.row v e xs]) m' a w' :=
    { size := st.size, defers := st.defers, env := st.env.up g.le, held := hheld, fits := g.fits, below := st.below.then' g.below.os g.below.tape g.below.output hsz (fun k hk _ => g.below.block k (by omega)), le := View.le_trans st.le g.le
      fresh := fun k hk hx => (g.fresh k (by omega)).trans (st.fresh k hk hx), glob := C.I.up g.le st.glob }
  exact hK _ _ (k v m' _ w' (St.put st' (Nat.le_of_ble_eq_true hN) rfl))
theorem SC.rowShape {v : Value} {e : TypeId} {α : Type} [Rep α] {xs : List α} {i : Nat} {c : Code} (hi : Δ[i]? = some (Own.row v e xs)) (hx : xs ≠ []) (k : ∀ g cap, v = .slice (some ⟨g, 0, none⟩) xs.length cap → SC P C Γ Δ c ks) : SC P C Γ Δ c ks := by
  intro m a w st
  obtain ⟨cs, hc, hown⟩ := st.held.row hi
  rcases hown.2 with ⟨_, hn⟩ | ⟨g, cap, cur, hv, _⟩
  · exact absurd (List.eq_nil_of_length_eq_zero hn) hx
  · exact k g cap hv m a w st
theorem arrCells_set {α : Type} [Rep α] {m : View} {u : α} {ds : List Value} (hd : Rep.cells m u ds) : ∀ {xs : List α} {cs : List Value} {j : Nat}, arrCells m xs cs → j < xs.length → arrCells m (xs.set j u) (cs.take (j * Rep.n α) ++ ds ++ cs.drop (j * Rep.n α + Rep.n α))
  | [], _, _, _, hj => by simp at hj
  | y :: ys, _, 0, h, _ => by
    obtain ⟨c1, c2, rfl, h1, h2⟩ := h
    refine ⟨ds, c2, ?_, hd, h2⟩
    rw [Nat.zero_mul, List.take_zero, List.nil_append, Nat.zero_add, List.drop_left' (Rep.len h1)]
  | y :: ys, _, j + 1, h, hj => by
    obtain ⟨c1, c2, rfl, h1, h2⟩ := h
    have ih := arrCells_set hd (j := j) h2 (by simpa using hj)
    refine ⟨c1, _, ?_, h1, ih⟩
    have e1 : (j + 1) * Rep.n α = c1.length + j * Rep.n α := by rw [Rep.len h1, Nat.add_mul]; omega
    rw [e1, Nat.add_assoc, List.take_length_add_append, List.drop_length_add_append]
    simp only [List.append_assoc]
theorem OpW.storeRow {t e : TypeId} {x y : Operand} {α : Type} [Rep α] {xs : List α} {u : α} {g n cap i j off : Nat} (ht : Ty P t α) (hi : Δ[i]? = some (Own.row (.slice (some ⟨g, 0, none⟩) n cap) e xs)) (hj : j < xs.length) (ho : j * Rep.n α = off)
    (hx : Typ C.I Γ x (VP.ptr g off)) (hy : Typ C.I Γ y (V u)) : OpW P C Γ Δ ops ⟨none, .store t x y, ty, pos, aft, none⟩ (Δ.set i (Own.row (.slice (some ⟨g, 0, none⟩) n cap) e (xs.set j u))) := by
  intro m a w Q K hl st hK
  rw [if_pos (by simp [Region.wanted])]
  have hlk := Look.ofAt hl
  have ex : a.eval x = _ := hx.at st.glob hlk (by simp [Op.operands])
  obtain ⟨ds, hd, ey⟩ := hy.at st.glob hlk (by simp [Op.operands])
  obtain ⟨cs, hc, hown⟩ := st.held.row hi
  have hcl := arrCells_len hc
  have hdl := Rep.len hd
  have hle : off + Rep.n α ≤ cs.length := by rw [hcl, ← ho, ← Nat.succ_mul]; exact Nat.mul_le_mul_right _ hj
  rcases hown.2 with ⟨hv, _⟩ | ⟨g', cap', cur, hv, _, hw, hnc, hcm, hsz, htake⟩
  · cases hv
  · cases hv
    have hcur : cs.length ≤ cur.toList.length := by rw [← htake, List.length_take]; omega
    have hcur' : cs.length ≤ cur.size := by simpa using hcur
    have hst := run_storeCells_at P g off e ds 0 cur w hw (by simp only [Nat.add_zero]; omega) (fun v hv => Rep.plain hd v hv)
    simp only [Nat.add_zero] at hst
    have hrun : (execOp a.eval ⟨none, .store t x y, ty, pos, aft, none⟩).run P w = .ok .skip (w.setRow g (cur.toList.take off ++ ds ++ cur.toList.drop (off + ds.length)).toArray) := by
      simp [execOp, ex, ey, Instr.storeAt, Instr.sureAddr, storeVar, ht.size w, packed_cells hd, hdl, hst]
    unfold Oper.wp
    rw [hrun]
    refine hK m _ (View.le_refl m) ?_
    refine st.setRow hi (fun bs h => by rw [h.1]; rfl) _ ⟨rfl, _, arrCells_set hd hc hj, ?_, .inr ⟨g, cap, _, by rw [List.length_set], Nat.zero_le _, setRow_heap w g _ _ e _ hw, by rw [List.length_set]; exact hnc, hcm, ?_, ?_⟩⟩
    · rw [ho]; simp; omega
    · simp; omega
    · rw [ho, List.length_set, hdl]
      have h1 : cs.take off = cur.toList.take off := by rw [← htake, List.take_take]; congr 1; omega
      have h2 : cs.drop (off + Rep.n α) = (cur.toList.take (xs.length * Rep.n α)).drop (off + Rep.n α) := by rw [← htake]
      rw [h1, h2]
      have l1 : (cur.toList.take off ++ ds).length = off + Rep.n α := by rw [List.length_append, List.length_take, hdl]; omega
      rw [List.take_append, l1, List.take_of_length_le (by rw [l1]; omega), List.drop_take]
end
section
variable {P : Program} {I : GI} {B : Nat → Prop} {Γ : Env} {Δ : List Own} {d : Option Tmp} {ty : TypeId} {pos : String} {aft : Array Edge} {gd : Option (Nat × Bool)}
theorem OpOk.lenOwnR {t e e' : TypeId} {x : Operand} {α : Type} [Rep α] {xs : List α} {A : Option Addr} {n cap k : Nat} (ht : P.underlying t = some (.slice e)) (hk : Δ[k]? = some (Own.row (.slice A n cap) e' xs)) (hx : Typ I Γ x (.eq (.slice A n cap))) :
    OpOk P I B Γ Δ ⟨d, .call { callee := .builtin .len, args := #[x], argTypes := #[t] }, ty, pos, aft, gd⟩ (V (n : Int)) := by
  refine .still fun m c w hl hf hI hh => ?_
  have ex : c.eval x = _ := hx.at hI hl (by simp [Op.operands, Call.operands])
  obtain ⟨cs, _, hown⟩ := hh.row hk
  have hn : n ≤ maxLen := by
    rcases hown.2 with ⟨hv, h0⟩ | ⟨g, cap', cur, hv, _, _, hnc, hcm, _⟩
    · cases hv; exact Nat.zero_le _
    · cases hv; exact Nat.le_trans hnc hcm
  refine ⟨.int .i64 n, ?_, V_int_mk (in64_len hn) m⟩
  simp [execOp, resolve, invoke, builtin, ex, Builtin.len_, run_underlying ht, goInt]
theorem OpOk.indexAddrOwnR {t e : TypeId} {x y : Operand} (α : Type) [Rep α] {i : Int} {g n cap : Nat} (ht : P.underlying t = some (.slice e)) (he : Ty P e α) (hx : Typ I Γ x (.eq (.slice (some ⟨g, 0, none⟩) n cap))) (hy : Typ I Γ y (V i)) (h0 : 0 ≤ i) (h1 : i < n) :
    OpOk P I B Γ Δ ⟨d, .indexAddr t x y, ty, pos, aft, gd⟩ (VP.ptr g (i.toNat * Rep.n α)) := by
  refine .still fun m c w hl hf hI hh => ?_
  have ex : c.eval x = _ := hx.at hI hl (by simp [Op.operands])
  have ey := (V_int (hy.at hI hl (by simp [Op.operands]))).1
  refine ⟨.pointer (some ⟨g, i.toNat * Rep.n α, none⟩), ?_, rfl⟩
  simp [execOp, ex, ey, Instr.indexAt, asIntOf, run_underlying ht, h0, h1, he.size w, add_mk]
theorem OpOk.loadOwnR {t e : TypeId} {α : Type} [Rep α] [Inhabited α] (ht : Ty P t α) {x : Operand} {g n cap k off : Nat} {xs : List α} (j : Nat) (hk : Δ[k]? = some (Own.row (.slice (some ⟨g, 0, none⟩) n cap) e xs)) (hj : j < xs.length) (ho : j * Rep.n α = off) (hx : Typ I Γ x (VP.ptr g off)) :
    OpOk P I B Γ Δ ⟨d, .load t x, ty, pos, aft, gd⟩ (V (nth xs (j : Int))) := by
  refine .still fun m c w hl hf hI hh => ?_
  have ex : c.eval x = _ := hx.at hI hl (by simp [Op.operands])
  obtain ⟨cs, hc, hown⟩ := hh.row hk
  have hcl := arrCells_len hc
  have hg := arrCells_nth hc hj
  have hle : off + Rep.n α ≤ cs.length := by rw [hcl, ← ho, ← Nat.succ_mul]; exact Nat.mul_le_mul_right _ hj
  rcases hown.2 with ⟨hv, _⟩ | ⟨g', cap', cur, hv, _, hw, hnc, hcm, hsz, htake⟩
  · cases hv
  · cases hv
    subst ho
    rw [nth_eq (by simpa using hj)]
    refine ⟨_, ?_, _, by simpa using hg, rfl⟩
    have hr := run_loadVar (w := w) (a := ⟨g, j * Rep.n α, none⟩) ht hg (fun q hq => by
      rw [add_mk, cell_block hw, List.getElem?_take, if_pos hq, List.getElem?_drop, ← htake, List.getElem?_take, if_pos (by rw [hcl] at hle; omega)]; simp)
    simp [execOp, ex, Instr.loadAt, Instr.sureAddr, hr]
end
end Go.Inn
