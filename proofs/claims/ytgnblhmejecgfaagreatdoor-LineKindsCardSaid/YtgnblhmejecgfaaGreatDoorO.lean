/- From a row's reading of its arguments to this logic's data: whatever reads as data of a type is told by the view that tells all of memory. No program in it. -/
import Derived.Test.YtgnblhmejecgfaaGreatDoorKC
import Derived.ChangeArms
import Derived.OpenShut
import Derived.SizedLaws
set_option linter.all false
namespace Go.Inn
open Go Go.RowKit
/-- all of memory -/
def full (w : World) : View := fun k => w.heap[k]?
theorem full_fits (w : World) : (full w).fits w := fun _ _ h => h
/-- what fits into a machine: what a row asks of its arguments' sizes -/
class Small (α : Type) where
  sm : α → Prop
instance : Small Int := ⟨fun _ => True⟩
instance : Small Bool := ⟨fun _ => True⟩
instance : Small UInt8 := ⟨fun _ => True⟩
instance : Small UInt16 := ⟨fun _ => True⟩
instance : Small UInt32 := ⟨fun _ => True⟩
instance smStr : Small Str := ⟨fun l => l.length ≤ 140737488351232⟩
instance smList {α : Type} [Small α] : Small (List α) := ⟨fun l => l.length ≤ 140737488351232 ∧ ∀ x, x ∈ l → Small.sm x⟩
instance {α β : Type} [Small α] [Small β] : Small (α × β) := ⟨fun p => Small.sm p.1 ∧ Small.sm p.2⟩
instance {k : Nat} {α : Type} [Small α] : Small (Arr k α) := ⟨fun a => ∀ x, x ∈ a.list → Small.sm x⟩
@[reducible] def Small.iso {α β : Type} [Small β] (f : α → β) : Small α := ⟨fun x => Small.sm (f x)⟩
structure Opn (P : Program) (t : TypeId) (α : Type) [Rep α] [Small α] : Prop where
  size : P.cellsOf t = Rep.n α
  rd : ∀ {H : Type} {enc : TypeId × Value → H} {w : World} {base : Nat} {sp : Nat → Bool} {held : Bool} {fuel : Nat} {cs : List Value} {x : DataW H × List MemPlace}, DataW.trod enc P w base sp held fuel t cs = some x → ∃ a : α, Rep.cells (full w) a cs ∧ ((∀ n, n ∈ x.1.weights P t → n ≤ 140737488351232) → Small.sm a)
section
variable {P : Program} {t e : TypeId}
theorem Opn.int (hs : P.cellsOf t = 1) (ht : P.underlying t = some (.int .i64)) : Opn P t Int := ⟨hs, fun h => by
  obtain ⟨n, rfl, _, hw⟩ := DataW.trod_int ht h
  refine ⟨n, ⟨rfl, ?_⟩, fun _ => trivial⟩
  simp [Lit.wf, IntKind.min, IntKind.max, IntKind.signed, IntKind.bits] at hw
  unfold in64; omega⟩
theorem Opn.bool (hs : P.cellsOf t = 1) (ht : P.underlying t = some .bool) : Opn P t Bool := ⟨hs, fun h => by
  obtain ⟨b, rfl, _⟩ := DataW.trod_bool ht h
  exact ⟨b, ⟨rfl, trivial⟩, fun _ => trivial⟩⟩
theorem Opn.str (hs : P.cellsOf t = 1) (ht : P.underlying t = some .string) : Opn P t Str := ⟨hs, fun h => by
  obtain ⟨s, rfl, ex, hl⟩ := DataW.trod_string ht h
  exact ⟨s.data.toList, ⟨rfl, by simpa using hl⟩, fun k => k _ (by rw [ex]; simp [DataW.weights])⟩⟩
theorem Opn.u8 (hs : P.cellsOf t = 1) (ht : P.underlying t = some (.int .u8)) : Opn P t UInt8 := ⟨hs, fun h => by
  obtain ⟨n, rfl, _, hw⟩ := DataW.trod_int ht h
  simp [Lit.wf, IntKind.min, IntKind.max, IntKind.signed, IntKind.bits] at hw
  refine ⟨UInt8.ofNat n.toNat, ⟨?_, trivial⟩, fun _ => trivial⟩
  have : ((UInt8.ofNat n.toNat).toNat : Int) = n := by
    rw [UInt8.toNat_ofNat']; omega
  show [Value.int .u8 n] = [Value.int .u8 ((UInt8.ofNat n.toNat).toNat : Int)]
  rw [this]⟩
theorem Opn.u16 (hs : P.cellsOf t = 1) (ht : P.underlying t = some (.int .u16)) : Opn P t UInt16 := ⟨hs, fun h => by
  obtain ⟨n, rfl, _, hw⟩ := DataW.trod_int ht h
  simp [Lit.wf, IntKind.min, IntKind.max, IntKind.signed, IntKind.bits] at hw
  refine ⟨UInt16.ofNat n.toNat, ⟨?_, trivial⟩, fun _ => trivial⟩
  have : ((UInt16.ofNat n.toNat).toNat : Int) = n := by
    rw [UInt16.toNat_ofNat']; omega
  show [Value.int .u16 n] = [Value.int .u16 ((UInt16.ofNat n.toNat).toNat : Int)]
  rw [this]⟩
theorem Opn.u32 (hs : P.cellsOf t = 1) (ht : P.underlying t = some (.int .u32)) : Opn P t UInt32 := ⟨hs, fun h => by
  obtain ⟨n, rfl, _, hw⟩ := DataW.trod_int ht h
  simp [Lit.wf, IntKind.min, IntKind.max, IntKind.signed, IntKind.bits] at hw
  refine ⟨UInt32.ofNat n.toNat, ⟨?_, trivial⟩, fun _ => trivial⟩
  have : ((UInt32.ofNat n.toNat).toNat : Int) = n := by
    rw [UInt32.toNat_ofNat']; omega
  show [Value.int .u32 n] = [Value.int .u32 ((UInt32.ofNat n.toNat).toNat : Int)]
  rw [this]⟩
/-- for each of so many there is one: a list -/
theorem choose_list {α : Type} {n : Nat} {p : Nat → α → Prop} (h : ∀ i, i < n → ∃ x, p i x) : ∃ l : List α, l.length = n ∧ ∀ i (hi : i < l.length), p i l[i] := by
  induction n with
  | zero => exact ⟨[], rfl, fun i hi => by simp at hi⟩
  | succ n ih =>
    obtain ⟨l, hl, hp⟩ := ih fun i hi => h i (by omega)
    obtain ⟨x, hx⟩ := h n (by omega)
    refine ⟨l ++ [x], by simp [hl], fun i hi => ?_⟩
    by_cases e : i < l.length
    · rw [List.getElem_append_left e]; exact hp i e
    · simp at hi
      have e : i = n := by omega
      subst e
      rw [List.getElem_append_right (by omega)]
      simpa using hx
theorem cells?_at {w : World} {base : Nat} {a : Addr} {n : Nat} {cs : List Value} (h : w.cells? base a n = some cs) : cs.length = n ∧ ∀ j, j < n → w.cell? (a.add j) = cs[j]? := by
  unfold World.cells? at h
  split at h
  · exact ⟨by simpa using mapM_some_length h, fun j hj => mapM_some_get h j j (by simp [hj])⟩
  · cases h
theorem at_full {α : Type} [Rep α] {w : World} {base : Nat} {a : Addr} {n : Nat} {cs : List Value} {x : α} (h : w.cells? base a n = some cs) (hn : n = Rep.n α) (hp : Rep.n α ≠ 0) (hx : Rep.cells (full w) x cs) :
    a.spot = none ∧ At (full w) a.block a.off x := by
  obtain ⟨hl, hc⟩ := cells?_at h
  have hc0 := hc 0 (by omega)
  have hv : ∃ v, cs[0]? = some v := by
    cases e : cs[0]? with
    | some v => exact ⟨v, rfl⟩
    | none => rw [List.getElem?_eq_none_iff] at e; omega
  obtain ⟨v, hv⟩ := hv
  rw [hv] at hc0
  have a0 : a.add 0 = a := by cases a; simp [Addr.add]
  rw [a0] at hc0
  unfold World.cell? at hc0
  split at hc0
  · rename_i c ty fr hb
    split at hc0
    · cases hc0
    · rename_i hsp
      have hs : a.spot = none := by cases hq : a.spot with
        | none => rfl
        | some s => simp [hq] at hsp
      refine ⟨hs, c, ty, fr, cs, hb, hx, fun j hj => ?_⟩
      have := hc j (by omega)
      rw [← this]
      have e1 : a.add j = ⟨a.block, a.off + j, none⟩ := by
        cases a with
        | mk b o s =>
          simp only at hs
          subst hs
          by_cases h0 : j = 0
          · subst h0; simp [Addr.add]
          · simp [Addr.add, h0]
      rw [e1, cell_block hb]
  · cases hc0
theorem weights_all {H : Type} {P : Program} {e : TypeId} {d : DataW H} {n : Nat} : ∀ {l : List (DataW H)}, d ∈ l → n ∈ d.weights P e → n ∈ DataW.weightsAll P e l
  | x :: l, hd, hn => by
    simp only [DataW.weightsAll, List.mem_append]
    rcases List.mem_cons.1 hd with rfl | hd
    · exact .inl hn
    · exact .inr (weights_all hd hn)
theorem Opn.slice {α : Type} [Rep α] [Small α] (hs : P.cellsOf t = 1) (ht : P.underlying t = some (.slice e)) (hp : Rep.n α ≠ 0) (hb : P.bytesOf e ≠ 0) (h : Opn P e α) : Opn P t (List α) := ⟨hs, fun {H enc w base sp held fuel cs x} hx => by
  rcases DataW.trod_slice ht hx with ⟨rfl, _⟩ | ⟨a, len, cap, elems, rest, n, _, rfl, ex, _, hl, hm, hlen, hel, _, _⟩
  · exact ⟨[], ⟨none, 0, rfl, Nat.le_refl _, Nat.zero_le _, .inl rfl⟩, fun _ => ⟨Nat.zero_le _, fun x hx => by cases hx⟩⟩
  · have key : ∀ i, i < len → ∃ y : α, ((a.add (i * P.cellsOf e)).spot = none ∧ At (full w) (a.add (i * P.cellsOf e)).block (a.add (i * P.cellsOf e)).off y) ∧ ∃ z, elems[i]? = some z ∧ ((∀ n, n ∈ z.1.weights P e → n ≤ 140737488351232) → Small.sm y) := by
      intro i hi
      have h1 := hel i hi
      have h2 : elems[i]? = some (elems[i]'(by omega)) := List.getElem?_eq_getElem _
      rw [h2, Option.bind_eq_some_iff] at h1
      obtain ⟨cs', h3, h4⟩ := h1
      obtain ⟨y, hy, hz⟩ := h.rd h4
      exact ⟨y, at_full h3 h.size hp hy, _, h2, hz⟩
    obtain ⟨l, hl2, hp2⟩ := choose_list key
    refine ⟨l, ⟨some a, cap, by rw [hl2], by omega, hm, ?_⟩, fun k => ?_⟩
    · by_cases h0 : l = []
      · exact .inl h0
      · have hpos : 0 < l.length := List.length_pos_iff.2 h0
        have hsp := (hp2 0 hpos).1.1
        have e0 : a.add (0 * P.cellsOf e) = a := by cases a; simp [Addr.add]
        rw [e0] at hsp
        refine .inr ⟨a.block, a.off, by cases a; simp_all, fun i hi => ?_⟩
        have h5 := (hp2 i hi).1.2
        rw [h.size] at h5
        have e1 : (a.add (i * Rep.n α)).block = a.block ∧ (a.add (i * Rep.n α)).off = a.off + i * Rep.n α := by
          unfold Addr.add
          split
          · rename_i hz; rw [hz]; exact ⟨rfl, rfl⟩
          · exact ⟨rfl, rfl⟩
        rw [e1.1, e1.2] at h5
        exact h5
    · have hw : x.1.weights P t = ((elems.map (·.1)).length + (rest.map (·.1)).length) * P.bytesOf e :: (DataW.weightsAll P e (elems.map (·.1)) ++ DataW.weightsAll P e (rest.map (·.1))) := by
        rw [ex]; simp only [DataW.weights, ht]
      rw [hw] at k
      refine ⟨?_, fun y hy => ?_⟩
      · have h6 := k _ (List.mem_cons_self ..)
        rw [List.length_map, hlen] at h6
        have h7 : len * 1 ≤ (len + (rest.map (·.1)).length) * P.bytesOf e := Nat.mul_le_mul (Nat.le_add_right _ _) (Nat.pos_of_ne_zero hb)
        rw [hl2]; omega
      · obtain ⟨i, hi, rfl⟩ := List.getElem_of_mem hy
        obtain ⟨_, z, hz, hs2⟩ := hp2 i hi
        refine hs2 fun n hn => k n (List.mem_cons_of_mem _ (List.mem_append_left _ ?_))
        exact weights_all (List.mem_map.2 ⟨z, List.mem_of_getElem? hz, rfl⟩) hn⟩
/-- a struct's fields, from an offset on -/
structure OpnF (P : Program) (fs : List Field) (off : Nat) (α : Type) [Rep α] [Small α] : Prop where
  rd : ∀ {H : Type} {enc : TypeId × Value → H} {w : World} {base : Nat} {sp : Nat → Bool} {held : Bool} {fuel : Nat} {cs : List Value} (xs : List (DataW H)), xs.length = fs.length → (∀ (i : Nat) (f : Field), fs[i]? = some f → ∃ x, DataW.trod enc P w base sp held fuel f.type ((cs.drop f.offset).take (P.cellsOf f.type)) = some x ∧ xs[i]? = some x.1) →
    ∃ a : α, Rep.cells (full w) a ((cs.drop off).take (Rep.n α)) ∧ ((∀ n, n ∈ DataW.weightsEach P (fs.map (·.type)) xs → n ≤ 140737488351232) → Small.sm a)
theorem OpnF.last {f : Field} {off : Nat} {α : Type} [Rep α] [Small α] (ho : f.offset = off) (h : Opn P f.type α) : OpnF P [f] off α := ⟨fun xs hl k => by
  obtain ⟨x, hx, he⟩ := k 0 f rfl
  rw [ho, h.size] at hx
  obtain ⟨a, ha, hs⟩ := h.rd hx
  refine ⟨a, ha, fun hn => hs fun n hm => hn n ?_⟩
  match xs, he with
  | y :: _, he =>
    simp at he; subst he
    simp [DataW.weightsEach, hm]⟩
theorem OpnF.cons {f : Field} {fs : List Field} {off : Nat} {α β : Type} [Rep α] [Rep β] [Small α] [Small β] (ho : f.offset = off) (h : Opn P f.type α) (hs : OpnF P fs (off + Rep.n α) β) : OpnF P (f :: fs) off (α × β) := ⟨fun {H enc w base sp held fuel cs} xs hl k => by
  obtain ⟨x, hx, he⟩ := k 0 f rfl
  rw [ho, h.size] at hx
  obtain ⟨a, ha, hsa⟩ := h.rd hx
  match xs, he, hl with
  | y :: ys, he, hl =>
    simp at he; subst he
    obtain ⟨b, hb, hsb⟩ := hs.rd ys (by simpa using hl) fun i g hg => by
      obtain ⟨z, hz, hz2⟩ := k (i + 1) g (by simpa using hg)
      exact ⟨z, hz, by simpa using hz2⟩
    refine ⟨(a, b), ⟨_, _, ?_, ha, hb⟩, fun hn => ⟨hsa fun n hm => hn n ?_, hsb fun n hm => hn n ?_⟩⟩
    · show List.take (Rep.n α + Rep.n β) (cs.drop off) = _
      rw [List.take_add, List.drop_drop]
    · simp [DataW.weightsEach, hm]
    · simp only [List.map_cons, DataW.weightsEach, List.mem_append]; exact .inr hm⟩
theorem Opn.struct {α β : Type} [Rep β] [Small β] (f : α → β) (g : β → α) (hfg : ∀ y, f (g y) = y) {fs : Array Field} (hs : P.cellsOf t = Rep.n β) (ht : P.underlying t = some (.struct fs)) (h : OpnF P fs.toList 0 β) : @Opn P t α (Rep.iso f) (Small.iso f) :=
  @Opn.mk P t α (Rep.iso f) (Small.iso f) hs fun {H enc w base sp held fuel cs x} hx => by
    obtain ⟨xs, n, _, ex, hl, hlen, hel⟩ := DataW.trod_struct ht hx
    obtain ⟨b, hb, hsb⟩ := h.rd (H := H) (enc := enc) (w := w) (base := base) (sp := sp) (held := held) (fuel := n) (cs := cs) (xs.map (·.1)) (by simp [hlen]) fun i q hi => by
      have hlt : i < fs.size := by
        have := (List.getElem?_eq_some_iff.1 hi).1
        simpa using this
      have := hel i q (by simpa using hi)
      refine ⟨xs[i]'(by omega), by rw [this]; exact List.getElem?_eq_getElem _, ?_⟩
      rw [List.getElem?_map, List.getElem?_eq_getElem (by omega)]; rfl
    refine ⟨g b, ?_, fun k => ?_⟩
    · show Rep.cells (full w) (f (g b)) cs
      rw [hfg]
      rw [List.drop_zero, List.take_of_length_le (by omega)] at hb
      exact hb
    · show Small.sm (f (g b))
      rw [hfg]
      refine hsb fun n hn => k n ?_
      rw [ex]; simp only [DataW.weights, ht]; exact hn
theorem Opn.arr {α : Type} [Rep α] [Small α] {n : Nat} (hs : P.cellsOf t = n * Rep.n α) (ht : P.underlying t = some (.array n e)) (h : Opn P e α) : Opn P t (Arr n α) := ⟨hs, fun {H enc w base sp held fuel cs x} hx => by
  obtain ⟨xs, m, _, ex, hl, hlen, hel⟩ := DataW.trod_array ht hx
  have key : ∀ i, i < n → ∃ y : α, Rep.cells (full w) y ((cs.drop (i * Rep.n α)).take (Rep.n α)) ∧ ∃ z, xs[i]? = some z ∧ ((∀ n, n ∈ z.1.weights P e → n ≤ 140737488351232) → Small.sm y) := by
    intro i hi
    have h1 := hel i hi
    have h2 : xs[i]? = some (xs[i]'(by omega)) := List.getElem?_eq_getElem _
    rw [h2, h.size] at h1
    obtain ⟨y, hy, hz⟩ := h.rd h1
    exact ⟨y, hy, _, h2, hz⟩
  obtain ⟨l, hl2, hp2⟩ := choose_list key
  refine ⟨⟨l, hl2⟩, ?_, fun k y hy => ?_⟩
  · have fill : ∀ (l : List α) (cs : List Value), cs.length = l.length * Rep.n α → (∀ i (hi : i < l.length), Rep.cells (full w) l[i] ((cs.drop (i * Rep.n α)).take (Rep.n α))) → arrCells (full w) l cs := by
      intro l
      induction l with
      | nil => intro cs hc _; exact List.eq_nil_of_length_eq_zero (by simpa using hc)
      | cons y l ih =>
        intro cs hc hp
        have h0 := hp 0 (by simp)
        rw [Nat.zero_mul, List.drop_zero] at h0
        refine ⟨cs.take (Rep.n α), cs.drop (Rep.n α), (List.take_append_drop _ _).symm, h0, ih _ ?_ fun i hi => ?_⟩
        · rw [List.length_drop, hc, List.length_cons, Nat.add_mul]; omega
        · have := hp (i + 1) (by simp; omega)
          rw [List.drop_drop]
          have e : Rep.n α + i * Rep.n α = (i + 1) * Rep.n α := by rw [Nat.add_mul]; omega
          rw [e]
          simpa using this
    exact fill l cs (by rw [hl, hs, hl2]) fun i hi => (hp2 i hi).1
  · obtain ⟨i, hi, rfl⟩ := List.getElem_of_mem hy
    obtain ⟨_, z, hz, hs2⟩ := hp2 i hi
    refine hs2 fun n hn => k n ?_
    rw [ex]; simp only [DataW.weights, ht]
    exact weights_all (List.mem_map.2 ⟨z, List.mem_of_getElem? hz, rfl⟩) hn⟩
/-- an argument -/
theorem Opn.arg {α : Type} [Rep α] [Small α] (h : Opn P t α) {H : Type} {enc : TypeId × Value → H} {w : World} {base : Nat} {sp : Nat → Bool} {held : Bool} {v : Value} {d : DataW H} {ps : List MemPlace} (ht : DataW.Trod enc P w base sp held t v d ps)
    (hf : v = packed (Rep.agg α) v.cells.toList) : ∃ a : α, (V a).on (full w) v ∧ ((∀ n, n ∈ d.weights P t → n ≤ 140737488351232) → Small.sm a) := by
  obtain ⟨fuel, hx⟩ := ht
  obtain ⟨a, ha, hs⟩ := h.rd hx
  exact ⟨a, ⟨_, ha, hf⟩, hs⟩
end
end Go.Inn
