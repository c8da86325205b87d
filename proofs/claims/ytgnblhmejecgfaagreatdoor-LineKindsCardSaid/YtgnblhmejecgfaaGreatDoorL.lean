/- The library's functions, as contracts of this logic: each is one of the shelf's, read anew. -/
import Derived.Test.YtgnblhmejecgfaaGreatDoorG
import Derived.Lib.ItoaLen
import Derived.Lib.AppendIntMem
import Derived.Lib.AtoiErrMem
import Derived.WideLaws
set_option linter.all false
namespace Go.Inn
open Go Go.RowKit
/-- the index of a text; -1 where there is none -/
def idxOf : List Str → Str → Int
  | [], _ => -1
  | y :: ys, x => if y = x then 0 else if idxOf ys x < 0 then -1 else idxOf ys x + 1
theorem idxOf_ge (x : Str) : ∀ ys : List Str, -1 ≤ idxOf ys x
  | [] => by simp [idxOf]
  | y :: ys => by
    have := idxOf_ge x ys
    unfold idxOf
    split
    · omega
    · split <;> omega
theorem idxOf_lt (x : Str) : ∀ ys : List Str, idxOf ys x < ys.length
  | [] => by simp [idxOf]
  | y :: ys => by
    have := idxOf_lt x ys
    unfold idxOf
    simp only [List.length_cons]
    split
    · omega
    · split <;> omega
def ba (l : Str) : ByteArray := ⟨l.toArray⟩
theorem ba_inj {a b : Str} : ba a = ba b ↔ a = b := by simp [ba]
theorem ba_list (l : Str) : (ba l).data.toList = l := rfl
theorem ba_size (l : Str) : (ba l).size = l.length := rfl
theorem idxFrom (x : Str) : ∀ (ys : List Str) (i : Nat), Lib.idxFromS (ys.map ba) (ba x) i = if idxOf ys x < 0 then -1 else i + idxOf ys x
  | [], i => by simp [Lib.idxFromS, idxOf]
  | y :: ys, i => by
    have hge := idxOf_ge x ys
    simp only [List.map_cons, Lib.idxFromS, ba_inj, idxOf, idxFrom x ys (i + 1)]
    by_cases e : y = x
    · simp [e]
    · simp only [e, if_false]
      split
      · simp
      · have : ¬ idxOf ys x + 1 < 0 := by omega
        simp [this]; omega
theorem idxOf_lib (ys : List Str) (x : Str) : Lib.idxOfS (ys.map ba) (ba x) = idxOf ys x := by
  have hge := idxOf_ge x ys
  simp only [Lib.idxOfS, idxFrom]
  by_cases h : idxOf ys x < 0
  · rw [if_pos h]; omega
  · rw [if_neg h]; omega
/-- what stands between gaps -/
def pieces : Str → List Str
  | [] => [[]]
  | b :: r => if b = 32 then [] :: pieces r else match pieces r with
    | w :: ws => (b :: w) :: ws
    | [] => [[b]]
/-- a line's words -/
def words (l : Str) : List Str := (pieces l).filter (· ≠ [])
/-- words with a gap between them -/
def join (l : List Str) : Str := Lib.join l [32]
theorem join_len (l : List Str) : l.length ≤ (join l).length + 1 := by
  cases l with
  | nil => simp
  | cons x r =>
    have h : ∀ r : List Str, r.length ≤ (Lib.joinTail [32] r).length := by
      intro r
      induction r with
      | nil => simp [Lib.joinTail]
      | cons y r ih => simp only [Lib.joinTail, List.map_cons, List.flatten_cons, List.length_append, List.length_cons] at ih ⊢; omega
    have := h r
    rw [join, Lib.join_cons, List.length_append, List.length_cons]; omega
/-- what strconv.Atoi answers -/
def atoi (s : Str) : Int × Bool := match Lib.atoiAll s with
  | .ok v => (v, false)
  | .range => (Lib.atoiSat s, true)
  | _ => (0, true)
/-- an error: none, or some one -/
def VP.err (b : Bool) : VP := ⟨fun _ v => if b then ∃ t p, v = .iface t p else v = .nilIface, fun _ h => h⟩
/-- what a row of texts holds -/
theorem RowAt.strs {m : View} {w : World} (hf : m.fits w) {A : Option Addr} {xs : List Str} (h : RowAt m A xs) (hne : xs ≠ []) : ∃ b off, A = some ⟨b, off, none⟩ ∧ b < w.heap.size ∧ ∀ j x, xs[j]? = some x → w.cell? ⟨b, off + j, none⟩ = some (str x) := by
  rcases h with h | ⟨b, off, h1, h2⟩
  · exact absurd h hne
  · refine ⟨b, off, h1, ?_, fun j x hx => ?_⟩
    · obtain ⟨c, e, fr, cs, k1, _⟩ := h2 0 (List.length_pos_iff.2 hne)
      exact View.fits_lt hf k1
    · obtain ⟨hj, hxe⟩ := List.getElem?_eq_some_iff.1 hx
      obtain ⟨c, e, fr, cs, k1, ⟨k2, _⟩, k3⟩ := h2 j hj
      subst k2
      have e1 : Rep.n Str = 1 := rfl
      have h0 := k3 0 (by decide)
      rw [e1, Nat.mul_one] at h0
      simp only [Nat.add_zero, List.getElem?_cons_zero] at h0
      rw [cell_block (hf _ _ k1), h0, hxe]
theorem Grow.of_below {m : View} {w w' : World} (hf : m.fits w) (h : Below w.heap.size w w') : Grow m w m w' :=
  ⟨View.le_refl m, fun k o hk => by rw [h.block k (View.fits_lt hf hk)]; exact hf k o hk, h, fun _ _ => rfl⟩
section
variable {P : Program} {I : GI} {B : Nat → Prop} {Γ : Env} {Δ : List Own} {d : Option Tmp} {ty : TypeId} {pos : String} {aft : Array Edge} {gd : Option (Nat × Bool)}
theorem OpOk.neqErr {t u : TypeId} {x : Operand} {b : Bool} {e : Array (String × TypeId)} (ht : P.underlying t = some (.interface e)) (hx : Typ I Γ x (.err b)) : OpOk P I B Γ Δ ⟨d, .binOp .neq t x (.const .nilIface) u, ty, pos, aft, gd⟩ (V b) :=
  .still fun m c w hl hfit hI hh => by
    have h := hx.at hI hl (by simp [Op.operands])
    refine ⟨.bool b, ?_, V_bool_mk _ m⟩
    have ec : c.eval (.const .nilIface) = .nilIface := rfl
    have ht' : P.underlying t = some (.interface (P.methodsAt t)) := by simp [Program.methodsAt, ht]
    cases b with
    | true =>
      obtain ⟨t', p, ex⟩ := h
      have hg : eqGuard .neq t x (.const .nilIface) (.iface t' p) .nilIface = pure () := by cases x <;> rfl
      simp only [execOp, ex, ec, hg, Sem.run_bind, Sem.run_pure, Result.andThen_ok, run_neq_held_nil w t t' p ht']
    | false =>
      have ex : c.eval x = .nilIface := h
      have hg : eqGuard .neq t x (.const .nilIface) .nilIface .nilIface = pure () := by cases x <;> rfl
      simp only [execOp, ex, ec, hg, Sem.run_bind, Sem.run_pure, Result.andThen_ok, run_neq_nil_nil w t ht']
end
end Go.Inn
namespace Go.Proofs.YtgnblhmejecgfaaGreatDoor
open Go Go.RowKit Go.Inn
theorem s_Itoa (n : Int) : FnSpec Tryz.prog glob 84 [V n] (V (Lib.itoa n : Str)) := by
  intro m w args hf hI ha
  match args, ha with
  | [v], ⟨hv, _⟩ =>
    obtain ⟨rfl, h0, h1⟩ := V_int hv
    refine (Tryz.strconv_Itoa n h0 h1 w (hI.pow.var hf rfl)).mono ?_
    rintro e w' ⟨rfl, k, os, rfl⟩
    refine ⟨_, m, rfl, Grow.of_below hf ((Lib.below_grow _ w (Nat.le_refl _) k os)), V_str_mk ?_ m⟩
    have := Lib.itoa_length_le n h0 h1
    unfold maxLen; omega
theorem s_Index (xs : List Str) (x : Str) : FnSpec Tryz.prog glob 114 [V xs, V x] (V (idxOf xs x)) := by
  intro m w args hf hI ha
  match args, ha with
  | [v, u], ⟨hv, hu, _⟩ =>
    obtain ⟨A, cap, rfl, h1, h2, hr⟩ := V_list hv
    obtain ⟨rfl, hx⟩ := V_str hu
    have hin : in64 (idxOf xs x) := by
      have h3 := idxOf_ge x xs
      have h4 := idxOf_lt x xs
      unfold maxLen at h2; unfold in64; omega
    by_cases hne : xs = []
    · subst hne
      refine (Tryz.slices_Index_string_empty A cap (ba x) w).mono ?_
      rintro e w' ⟨rfl, rfl⟩
      exact ⟨_, m, rfl, Grow.refl hf, by rw [← idxOf_lib]; exact V_int_mk (by rw [← idxOf_lib] at hin; exact hin) m⟩
    · obtain ⟨b, off, rfl, hb, hc⟩ := hr.strs hf hne
      refine (Tryz.slices_Index_string b off xs.length cap (xs.map ba) (ba x) w (by simp) (by unfold maxLen at h2; omega) (fun j hj => ?_)).mono ?_
      · have hj : j < xs.length := by simpa using hj
        rw [hc j xs[j] (List.getElem?_eq_getElem hj)]
        simp [List.getD, List.getElem?_eq_getElem hj, str, ba]
      · rintro e w' ⟨rfl, rfl⟩
        have e1 : (xs.map ba).take xs.length = xs.map ba := List.take_of_length_le (by simp)
        rw [e1, idxOf_lib]
        exact ⟨_, m, rfl, Grow.refl hf, V_int_mk hin m⟩
theorem s_Join (xs : List Str) (hl : (join xs).length ≤ 140737488355327) : FnSpec Tryz.prog glob 87 [V xs, V ([32] : Str)] (V (join xs)) := by
  intro m w args hf hI ha
  match args, ha with
  | [v, u], ⟨hv, hu, _⟩ =>
    obtain ⟨A, cap, rfl, h1, h2, hr⟩ := V_list hv
    obtain ⟨rfl, _⟩ := V_str hu
    by_cases hne : xs = []
    · subst hne
      refine (Tryz.strings_Join_none A cap (ba [32]) w).mono ?_
      rintro e w' ⟨rfl, rfl⟩
      exact ⟨_, m, rfl, Grow.refl hf, V_str_mk (by simp [join, Lib.join]) m⟩
    · obtain ⟨b, off, rfl, hb, hc⟩ := hr.strs hf hne
      have e1 : (xs.map ba).map (·.data.toList) = xs := by rw [List.map_map]; exact List.map_id' xs
      have hlen : xs.length ≤ 140737488355328 := by
        have := join_len xs
        omega
      have h := Tryz.strings_Join b off cap (xs.map ba) (ba [32]) w (fun j x hx => by
        simp only [List.getElem?_map, Option.map_eq_some_iff] at hx
        obtain ⟨y, hy, rfl⟩ := hx
        exact hc j y hy) hb (by simpa using hlen) (by simpa using h1) (by rw [e1]; exact Nat.le_trans hl (by decide))
      rw [e1, List.length_map] at h
      refine h.mono ?_
      rintro e w' ⟨rfl, hb⟩
      exact ⟨_, m, rfl, Grow.of_below hf hb, V_str_mk (Nat.le_trans hl (by unfold maxLen; omega)) m⟩
theorem s_Atoi (s : Str) (hs : s.length ≤ 281474976710656) : FnSpec Tryz.prog glob 127 [V s] (.tup [V (atoi s).1, .err (atoi s).2]) := by
  intro m w args hf hI ha
  match args, ha with
  | [v], ⟨hv, _⟩ =>
    obtain ⟨rfl, _⟩ := V_str hv
    unfold atoi
    cases h : Lib.atoiAll s with
    | ok v =>
      refine (Tryz.strconv_Atoi_ok (ba s) (by rw [ba_size]; omega) v h w).mono ?_
      rintro e w' ⟨rfl, hw⟩
      have hg : Grow m w m w' := by
        rcases hw with rfl | ⟨t, rfl⟩
        · exact Grow.refl hf
        · exact Grow.of_below hf (Lib.bytesWorld_below _ _ _)
      exact ⟨_, m, rfl, hg, [_, _], rfl, V_int_mk (Lib.atoiAll_bounds h) m, rfl, trivial⟩
    | range =>
      obtain ⟨t, p, ht⟩ := hI.errR
      refine (Tryz.strconv_Atoi_range_var (ba s) (by rw [ba_size]; omega) h t p w (ht.var hf rfl)).mono ?_
      rintro e w' ⟨N, rfl, _, _, hb⟩
      exact ⟨_, m, rfl, Grow.of_below hf hb, [_, _], rfl, V_int_mk (Lib.atoiSat_bounds s) m, ⟨_, _, rfl⟩, trivial⟩
    | _ =>
      obtain ⟨t, p, ht⟩ := hI.errS
      refine (Tryz.strconv_Atoi_syntax_var (ba s) (by rw [ba_size]; omega) (fun v e => by rw [ba_list, h] at e; cases e) (fun e => by rw [ba_list, h] at e; cases e) t p w (ht.var hf rfl)).mono ?_
      rintro e w' ⟨N, rfl, _, _, hb⟩
      exact ⟨_, m, rfl, Grow.of_below hf hb, [_, _], rfl, V_int_mk (x := 0) (by unfold in64; omega) m, ⟨_, _, rfl⟩, trivial⟩
end Go.Proofs.YtgnblhmejecgfaaGreatDoor
