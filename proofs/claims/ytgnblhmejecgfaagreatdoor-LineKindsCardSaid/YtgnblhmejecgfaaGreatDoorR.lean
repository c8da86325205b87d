/- From a row's condition on the listed tables, and from its arguments, to this logic's views: the plain part. No program in it. -/
import Derived.Test.YtgnblhmejecgfaaGreatDoorO
import Derived.Lay
import Derived.LaidMore
import Derived.Carry
import Derived.Handed
import Derived.ProofKit
import Derived.Stop.Joined
import Derived.SevenTiedAt
import Derived.MakeChecks
import Derived.Lib.LaidU8
set_option linter.all false
namespace Go.Inn
open Go Go.RowKit
def isCell : TypeDesc → Bool
  | .int _ | .slice _ | .string | .bool => true
  | _ => false
section
variable {P : Program} {W : World} {t e : TypeId}
theorem ok_cell {r : Reach} {b : Nat} {v : Value} {d : TypeDesc} (ht : P.underlying t = some d) (hd : isCell d = true) (h : Value.okWide P W r b t v) : v = packed false v.cells.toList := by
  unfold Value.okWide at h
  rw [ht] at h
  cases d <;> first | (simp [isCell] at hd; done) | (cases v <;> first | rfl | (simp [Cell.okWide, Cell.ok, ht] at h; done))
theorem ok_agg {r : Reach} {b : Nat} {v : Value} {fs : Array Field} (ht : P.underlying t = some (.struct fs)) (h : Value.okWide P W r b t v) : v = packed true v.cells.toList := by
  unfold Value.okWide at h
  rw [ht] at h
  obtain ⟨cs, rfl, _⟩ := h
  simp [packed, Value.cells]
variable {sp : Nat → Bool} {held : Bool} {fuel n : Nat} {cs : List Value} {p : List MemPlace}
theorem tab_cells {β : Type} {enc : β → Value} {lit : β → DataW Unit} {l : List β} (ht : P.underlying t = some (.array n e)) (hc : P.cellsOf e = 1) (hn : P.cellsOf t = l.length) (hn2 : n = l.length)
    (one : ∀ (cs : List Value) (x : DataW Unit × List MemPlace) (m : Nat) (y : β), DataW.trod (fun _ => ()) P W 0 sp held m e cs = some x → x.1 = lit y → cs = [enc y]) (h : DataW.trod (fun _ => ()) P W 0 sp held fuel t cs = some (.agg (l.map lit), p)) : cs = l.map enc := by
  obtain ⟨xs, m, _, ex, hl, hlen, hel⟩ := DataW.trod_array ht h
  have e1 : l.map lit = xs.map (·.1) := by
    have := (Prod.mk.inj ex).1
    exact DataW.agg.inj this
  refine List.ext_getElem? fun i => ?_
  by_cases hi : i < n
  · have h1 := hel i hi
    have h2 : xs[i]? = some (xs[i]'(by omega)) := List.getElem?_eq_getElem _
    have h3 : l[i]? = some (l[i]'(by omega)) := List.getElem?_eq_getElem _
    have h4 : (l.map lit)[i]? = (xs.map (·.1))[i]? := by rw [e1]
    rw [List.getElem?_map, List.getElem?_map, h2, h3] at h4
    rw [h2, hc, Nat.mul_one] at h1
    have h5 := one _ _ _ _ h1 (by simpa using h4.symm)
    have h6 : ((cs.drop i).take 1)[0]? = cs[i]? := by rw [List.getElem?_take, if_pos (by omega), List.getElem?_drop]; simp
    rw [← h6, h5, List.getElem?_map, h3]; rfl
  · rw [List.getElem?_eq_none (by omega), List.getElem?_eq_none (by rw [List.length_map]; omega)]
theorem one_str (he : P.underlying e = some .string) (cs : List Value) (x : DataW Unit × List MemPlace) (m : Nat) (y : Str) (h : DataW.trod (fun _ => ()) P W 0 sp held m e cs = some x) (hx : x.1 = .lit (.string y)) : cs = [str y] := by
  obtain ⟨s, rfl, rfl, _⟩ := DataW.trod_string he h
  simp only [DataW.lit.injEq, Lit.string.injEq] at hx
  subst hx; rfl
theorem one_int {k : IntKind} (he : P.underlying e = some (.int k)) (cs : List Value) (x : DataW Unit × List MemPlace) (m : Nat) (y : Int) (h : DataW.trod (fun _ => ()) P W 0 sp held m e cs = some x) (hx : x.1 = .lit (.int k y)) : cs = [.int k y] := by
  obtain ⟨n, rfl, rfl, _⟩ := DataW.trod_int he h
  simp only [DataW.lit.injEq, Lit.int.injEq, true_and] at hx
  subst hx; rfl
theorem arr_strs (m : View) : ∀ l : List Str, (∀ s, s ∈ l → s.length ≤ maxLen) → arrCells m l (l.map str)
  | [], _ => rfl
  | s :: l, h => ⟨[str s], l.map str, rfl, ⟨rfl, h s (by simp)⟩, arr_strs m l fun x hx => h x (by simp [hx])⟩
/-- an interface's cell -/
theorem one_iface {ms : Array (String × TypeId)} {name : String} {d : DataW Unit} (ht : P.underlying t = some (.interface ms)) (h : DataW.trod (fun _ => ()) P W 0 sp false fuel t cs = some (.iface name d, p)) : ∃ u v, cs = [.iface u v] := by
  cases fuel with
  | zero => simp [DataW.trod] at h
  | succ n =>
    unfold DataW.trod at h
    rw [ht] at h
    split at h <;> simp_all
theorem var_block {n : String} {g : Nat} {cs : Array Value} (hg : P.globalNamed n = some g) (h : W.var? P n = some cs) : ∃ ty fr, full W g = some (.cells cs ty fr) := by
  unfold World.var? at h
  rw [hg] at h
  simp only [Option.bind_some] at h
  show ∃ ty fr, W.heap[g]? = _
  split at h
  · rename_i c ty fr hb
    cases h
    exact ⟨ty, fr, hb⟩
  · cases h
theorem at_block {α : Type} [Rep α] {m : View} {g : Nat} {cs : Array Value} {x : α} (h : ∃ ty fr, m g = some (.cells cs ty fr)) (hx : Rep.cells m x cs.toList) : At m g 0 x := by
  obtain ⟨ty, fr, h⟩ := h
  exact ⟨cs, ty, fr, cs.toList, h, hx, fun j hj => by simp⟩
end
end Go.Inn
