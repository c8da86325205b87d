/- A small logic of our own over the kit's 'Code.wp': memory that stays is told by a view, each slot by a predicate, what the call owns by a list; rules for code, no program in it. -/
import Derived.Below
import Derived.Orders
import Derived.Laws.AppendOwn
import Derived.Deep.LoopGhost
set_option linter.all false
namespace Go.Inn
open Go Go.RowKit

/-! views -/
abbrev View := Nat → Option Obj
def View.le (m m' : View) : Prop := ∀ k o, m k = some o → m' k = some o
def View.fits (m : View) (w : World) : Prop := ∀ k o, m k = some o → w.heap[k]? = some o
theorem View.le_refl (m : View) : m.le m := fun _ _ h => h
theorem View.le_trans {a b c : View} (h : a.le b) (k : b.le c) : a.le c := fun i o hi => k i o (h i o hi)
def View.add (m : View) (b : Nat) (o : Obj) : View := fun k => if k = b then some o else m k
theorem View.add_at (m : View) (b : Nat) (o : Obj) : (m.add b o) b = some o := by simp [View.add]
theorem View.add_ne (m : View) {b k : Nat} (o : Obj) (h : k ≠ b) : (m.add b o) k = m k := by simp [View.add, h]
theorem View.le_add {m : View} {b : Nat} {o : Obj} (h : m b = none) : m.le (m.add b o) := by
  intro k x hk
  by_cases e : k = b
  · subst e; rw [h] at hk; cases hk
  · rw [View.add_ne m o e]; exact hk
theorem View.fits_lt {m : View} {w : World} (h : m.fits w) {k : Nat} {o : Obj} (hk : m k = some o) : k < w.heap.size :=
  (Array.getElem?_eq_some_iff.1 (h k o hk)).1
theorem View.fits_none {m : View} {w : World} (h : m.fits w) {k : Nat} (hk : w.heap.size ≤ k) : m k = Option.none := by
  cases e : m k with
  | none => rfl
  | some o => have := View.fits_lt h e; omega

/-- From (m, w) to (m', w'): what was there stays, what the view tells stays, new things are told of new blocks alone. -/
structure Grow (m : View) (w : World) (m' : View) (w' : World) : Prop where
  le : m.le m'
  fits : m'.fits w'
  below : Below w.heap.size w w'
  fresh : ∀ k, k < w.heap.size → m' k = m k
theorem Grow.refl {m : View} {w : World} (h : m.fits w) : Grow m w m w := ⟨View.le_refl m, h, Below.refl _ _, fun _ _ => rfl⟩
theorem Grow.trans {m m1 m2 : View} {w w1 w2 : World} (h : Grow m w m1 w1) (k : Grow m1 w1 m2 w2) : Grow m w m2 w2 :=
  ⟨View.le_trans h.le k.le, k.fits, h.below.trans (k.below.mono h.below.size), fun i hi => (k.fresh i (Nat.lt_of_lt_of_le hi h.below.size)).trans (h.fresh i hi)⟩
theorem Grow.drew {m : View} {w : World} (h : m.fits w) : Grow m w m w.drew := ⟨View.le_refl m, h, (Below.refl _ _).drew, fun _ _ => rfl⟩
theorem fits_alloc {m : View} {w : World} (h : m.fits w) (o : Obj) : m.fits (w.alloc o) := fun k x hk => by
  rw [Below.heap_alloc w o k (View.fits_lt h hk)]; exact h k x hk
theorem heap_alloc_at (w : World) (o : Obj) : (w.alloc o).heap[w.heap.size]? = some o := by
  show (w.heap.push o)[w.heap.size]? = some o
  simp
theorem size_alloc_at (w : World) (o : Obj) : (w.alloc o).heap.size = w.heap.size + 1 := by
  show (w.heap.push o).size = _
  simp
theorem Grow.alloc {m : View} {w : World} (h : m.fits w) (o : Obj) : Grow m w m (w.alloc o) :=
  ⟨View.le_refl m, fits_alloc h o, (Below.refl _ _).alloc (Nat.le_refl _) o, fun _ _ => rfl⟩
theorem fits_add {m : View} {w : World} (h : m.fits w) {b : Nat} {o : Obj} (hb : w.heap[b]? = some o) : (m.add b o).fits w := by
  intro k x hk
  by_cases e : k = b
  · subst e; rw [View.add_at] at hk; cases hk; exact hb
  · rw [View.add_ne m o e] at hk; exact h k x hk
theorem Grow.publish {m : View} {w : World} (h : m.fits w) (o : Obj) : Grow m w (m.add w.heap.size o) (w.alloc o) :=
  ⟨View.le_add (View.fits_none h (Nat.le_refl _)), fits_add (fits_alloc h o) (heap_alloc_at w o), (Below.refl _ _).alloc (Nat.le_refl _) o,
    fun k hk => View.add_ne m o (Nat.ne_of_lt hk)⟩

/-! predicates of a slot's value -/
structure VP where
  on : View → Value → Prop
  up : ∀ {m m' : View} {v : Value}, m.le m' → on m v → on m' v
def VP.eq (v0 : Value) : VP := ⟨fun _ v => v = v0, fun _ h => h⟩
def VP.any : VP := ⟨fun _ _ => True, fun _ h => h⟩
/-- what is passed over where 'c' fails -/
def VP.cond (c : Prop) (p : VP) : VP := ⟨fun m v => (c → p.on m v) ∧ (¬ c → v = undef), fun hm h => ⟨fun hc => p.up hm (h.1 hc), h.2⟩⟩
def Alls (m : View) : List VP → List Value → Prop
  | [], [] => True
  | p :: ps, v :: vs => p.on m v ∧ Alls m ps vs
  | _, _ => False
theorem Alls.up {m m' : View} (hm : m.le m') : ∀ {ps : List VP} {vs : List Value}, Alls m ps vs → Alls m' ps vs
  | [], [], _ => trivial
  | p :: _, _ :: _, h => ⟨p.up hm h.1, Alls.up hm h.2⟩
theorem Alls.length {m : View} : ∀ {ps : List VP} {vs : List Value}, Alls m ps vs → vs.length = ps.length
  | [], [], _ => rfl
  | _ :: _, _ :: _, h => by simp [Alls.length h.2]
theorem Alls.get {m : View} : ∀ {ps : List VP} {vs : List Value} {i : Nat} {p : VP}, Alls m ps vs → ps[i]? = some p → ∃ v, vs[i]? = some v ∧ p.on m v
  | p :: _, v :: _, 0, q, h, e => ⟨v, rfl, by simp at e; subst e; exact h.1⟩
  | _ :: ps, _ :: vs, i + 1, q, h, e => by
    obtain ⟨v, hv, hq⟩ := Alls.get (i := i) h.2 (by simpa using e)
    exact ⟨v, by simpa using hv, hq⟩
  | [], [], _, _, _, e => by simp at e
def VP.tup (ps : List VP) : VP := ⟨fun m v => ∃ vs : List Value, v = .tuple vs.toArray ∧ Alls m ps vs, fun hm ⟨vs, e, h⟩ => ⟨vs, e, h.up hm⟩⟩
/-- what holds of every view that tells what 'm' tells: a program's tables -/
structure GI where
  on : View → Prop
  up : ∀ {m m' : View}, m.le m' → on m → on m'

/-! what slots hold -/
abbrev Env := List (Nat × VP)
def Env.get : Env → Nat → Option VP
  | [], _ => none
  | (k, p) :: Γ, t => match Nat.beq t k with
    | true => some p
    | false => Env.get Γ t
theorem Env.get_same (Γ : Env) (k : Nat) (p : VP) : Env.get ((k, p) :: Γ) k = some p := by
  simp [Env.get]
theorem Env.get_ne (Γ : Env) {k t : Nat} (p : VP) (h : t ≠ k) : Env.get ((k, p) :: Γ) t = Env.get Γ t := by
  have : Nat.beq t k = false := by
    cases e : Nat.beq t k with
    | false => rfl
    | true => exact absurd (Nat.eq_of_beq_eq_true e) h
  simp [Env.get, this]
def Env.holds (Γ : Env) (m : View) (a : Act) : Prop := ∀ t p, Γ.get t = some p → p.on m (a.tmps.getD t undef)
theorem Env.holds.up {Γ : Env} {m m' : View} {a : Act} (h : Γ.holds m a) (hm : m.le m') : Γ.holds m' a := fun t p hp => p.up hm (h t p hp)
theorem getD_put_same {a : Act} {d : Nat} {v : Value} (h : d < a.tmps.size) : (a.put (some d) v).tmps.getD d undef = v := by
  simp [Act.put, Array.getD, h]
theorem getD_put_ne {a : Act} {d t : Nat} {v : Value} (h : t ≠ d) : (a.put (some d) v).tmps.getD t undef = a.tmps.getD t undef := by
  simp only [Act.put, Array.getD_eq_getD_getElem?]
  rw [Array.getElem?_setIfInBounds_ne (by omega)]
theorem size_put (a : Act) (d : Option Tmp) (v : Value) : (a.put d v).tmps.size = a.tmps.size := by cases d <;> simp [Act.put]
theorem defers_put (a : Act) (d : Option Tmp) (v : Value) : (a.put d v).defers = a.defers := by cases d <;> rfl
theorem Env.holds.put {Γ : Env} {m : View} {a : Act} {d : Nat} {v : Value} {p : VP} (h : Γ.holds m a) (hd : d < a.tmps.size) (hp : p.on m v) :
    Env.holds ((d, p) :: Γ) m (a.put (some d) v) := by
  intro t q hq
  by_cases e : t = d
  · subst e
    rw [Env.get_same] at hq
    cases hq
    rw [getD_put_same hd]; exact hp
  · rw [Env.get_ne Γ p e] at hq
    rw [getD_put_ne e]; exact h t q hq

/-! what the call owns: blocks that no view tells -/
structure Own where
  on : View → World → List Nat → Prop
  up : ∀ {m m' : View} {w w' : World} {bs : List Nat}, m.le m' → (∀ b, b ∈ bs → w'.heap[b]? = w.heap[b]?) → on m w bs → on m' w' bs
def Own.none : Own := ⟨fun _ _ bs => bs = [], fun _ _ h => h⟩
def Owns : List Own → View → World → List (List Nat) → Prop
  | [], _, _, [] => True
  | o :: Δ, m, w, b :: bs => o.on m w b ∧ Owns Δ m w bs
  | _, _, _, _ => False
theorem Owns.up {m m' : View} {w w' : World} (hm : m.le m') : ∀ {Δ : List Own} {bs : List (List Nat)}, (∀ b, b ∈ bs.flatten → w'.heap[b]? = w.heap[b]?) → Owns Δ m w bs → Owns Δ m' w' bs
  | [], [], _, _ => trivial
  | o :: _, b :: _, hk, h => ⟨o.up hm (fun x hx => hk x (by simp [hx])) h.1, Owns.up hm (fun x hx => hk x (by simp only [List.flatten_cons, List.mem_append]; exact .inr hx)) h.2⟩
theorem Owns.get {m : View} {w : World} : ∀ {Δ : List Own} {bs : List (List Nat)} {i : Nat} {o : Own}, Owns Δ m w bs → Δ[i]? = some o → ∃ b, bs[i]? = some b ∧ o.on m w b
  | _ :: _, b :: _, 0, _, h, e => by simp at e; subst e; exact ⟨b, rfl, h.1⟩
  | _ :: _, _ :: _, i + 1, _, h, e => by
    obtain ⟨b, hb, ho⟩ := Owns.get (i := i) h.2 (by simpa using e)
    exact ⟨b, by simpa using hb, ho⟩
  | [], [], _, _, _, e => by simp at e
theorem Owns.set {m : View} {w : World} : ∀ {Δ : List Own} {bs : List (List Nat)} {i : Nat} {o : Own} {b : List Nat}, Owns Δ m w bs → o.on m w b → Owns (Δ.set i o) m w (bs.set i b)
  | _ :: _, _ :: _, 0, _, _, h, ho => ⟨ho, h.2⟩
  | _ :: _, _ :: _, i + 1, _, _, h, ho => ⟨h.1, Owns.set (i := i) h.2 ho⟩
  | [], [], _, _, _, _, _ => trivial
theorem Owns.snoc {m : View} {w : World} {o : Own} {b : List Nat} (ho : o.on m w b) : ∀ {Δ : List Own} {bs : List (List Nat)}, Owns Δ m w bs → Owns (Δ ++ [o]) m w (bs ++ [b])
  | [], [], _ => ⟨ho, trivial⟩
  | _ :: _, _ :: _, h => ⟨h.1, Owns.snoc ho h.2⟩
structure Bs (B : Nat → Prop) (m : View) (w : World) (bs : List (List Nat)) : Prop where
  dup : bs.flatten.Nodup
  inn : ∀ b, b ∈ bs.flatten → m b = Option.none ∧ B b ∧ b < w.heap.size
def Held (B : Nat → Prop) (Δ : List Own) (m : View) (w : World) : Prop := ∃ bs, Owns Δ m w bs ∧ Bs B m w bs
theorem Held.nil (B : Nat → Prop) (m : View) (w : World) : Held B [] m w := ⟨[], trivial, by simp, by simp⟩
theorem Held.grow {B : Nat → Prop} {Δ : List Own} {m m' : View} {w w' : World} (h : Held B Δ m w) (g : Grow m w m' w') : Held B Δ m' w' := by
  obtain ⟨bs, ho, hb⟩ := h
  refine ⟨bs, ho.up g.le (fun b hm => g.below.block b (hb.inn b hm).2.2), hb.dup, fun b hm => ?_⟩
  obtain ⟨h1, h2, h3⟩ := hb.inn b hm
  exact ⟨(g.fresh b h3).trans h1, h2, Nat.lt_of_lt_of_le h3 g.below.size⟩
theorem Held.snoc {B : Nat → Prop} {Δ : List Own} {m : View} {w : World} (h : Held B Δ m w) {o' : Obj} {o : Own} (hB : B w.heap.size) (hf : m.fits w) (ho : o.on m (w.alloc o') [w.heap.size]) :
    Held B (Δ ++ [o]) m (w.alloc o') := by
  obtain ⟨bs, h1, hb⟩ := h
  have hs := size_alloc_at w o'
  refine ⟨bs ++ [[w.heap.size]], Owns.snoc ho (h1.up (View.le_refl m) (fun b hm => Below.heap_alloc w o' b (hb.inn b hm).2.2)), ?_, ?_⟩
  · simp only [List.flatten_append, List.flatten_cons, List.flatten_nil, List.append_nil]
    refine List.nodup_append.2 ⟨hb.dup, by simp, fun x hx y hy => ?_⟩
    simp at hy
    have := (hb.inn x hx).2.2
    omega
  · intro b hm
    simp only [List.flatten_append, List.flatten_cons, List.flatten_nil, List.append_nil, List.mem_append, List.mem_singleton] at hm
    rcases hm with hm | rfl
    · obtain ⟨a1, a2, a3⟩ := hb.inn b hm
      exact ⟨a1, a2, by omega⟩
    · exact ⟨View.fits_none hf (Nat.le_refl _), hB, by omega⟩
theorem nodup_part : ∀ {bs : List (List Nat)} {i : Nat} {b : List Nat}, bs.flatten.Nodup → bs[i]? = some b → b.Nodup
  | [], _, _, _, h => by simp at h
  | c :: cs, 0, b, hd, h => by
    simp at h; subst h
    rw [List.flatten_cons, List.nodup_append] at hd
    exact hd.1
  | c :: cs, i + 1, b, hd, h => by
    rw [List.flatten_cons, List.nodup_append] at hd
    exact nodup_part (i := i) hd.2.1 (by simpa using h)
theorem mem_flatten_of {bs : List (List Nat)} {i : Nat} {b : List Nat} (h : bs[i]? = some b) {x : Nat} (hx : x ∈ b) : x ∈ bs.flatten :=
  List.mem_flatten.2 ⟨b, List.mem_of_getElem? h, hx⟩
theorem flatten_set {bs : List (List Nat)} {b' : List Nat} : ∀ {i : Nat} {x : Nat}, x ∈ (bs.set i b').flatten → x ∈ b' ∨ ∃ j c, j ≠ i ∧ bs[j]? = some c ∧ x ∈ c := by
  induction bs with
  | nil => intro i x h; simp at h
  | cons c cs ih =>
    intro i x h
    cases i with
    | zero =>
      simp only [List.set_cons_zero, List.flatten_cons, List.mem_append] at h
      rcases h with h | h
      · exact .inl h
      · obtain ⟨d, hd, hx⟩ := List.mem_flatten.1 h
        obtain ⟨j, hj⟩ := List.getElem?_of_mem hd
        exact .inr ⟨j + 1, d, by omega, by simpa using hj, hx⟩
    | succ i =>
      simp only [List.set_cons_succ, List.flatten_cons, List.mem_append] at h
      rcases h with h | h
      · exact .inr ⟨0, c, by omega, rfl, h⟩
      · rcases ih h with h | ⟨j, d, hj, hd, hx⟩
        · exact .inl h
        · exact .inr ⟨j + 1, d, by omega, by simpa using hd, hx⟩
/-- two owned things share no block -/
theorem flatten_apart {bs : List (List Nat)} : bs.flatten.Nodup → ∀ {i j : Nat} {b c : List Nat}, bs[i]? = some b → bs[j]? = some c → i ≠ j → ∀ x, x ∈ b → x ∉ c := by
  induction bs with
  | nil => intro _ i j b c h; simp at h
  | cons d ds ih =>
    intro hd i j b c hi hj hne x hx hc
    rw [List.flatten_cons, List.nodup_append] at hd
    cases i with
    | zero =>
      cases j with
      | zero => omega
      | succ j =>
        simp at hi hj; subst hi
        exact hd.2.2 x hx x (mem_flatten_of hj hc) rfl
    | succ i =>
      cases j with
      | zero =>
        simp at hi hj; subst hj
        exact hd.2.2 x hc x (mem_flatten_of hi hx) rfl
      | succ j => exact ih hd.2.1 (by simpa using hi) (by simpa using hj) (by omega) x hx hc
theorem nodup_set {bs : List (List Nat)} {b' : List Nat} (hb' : b'.Nodup) : ∀ {i : Nat}, bs.flatten.Nodup → (∀ x, x ∈ b' → ∀ j c, j ≠ i → bs[j]? = some c → x ∉ c) → (bs.set i b').flatten.Nodup := by
  induction bs with
  | nil => intro i h _; simp
  | cons d ds ih =>
    intro i hd hx
    rw [List.flatten_cons, List.nodup_append] at hd
    cases i with
    | zero =>
      rw [List.set_cons_zero, List.flatten_cons, List.nodup_append]
      refine ⟨hb', hd.2.1, fun x hx1 y hy e => ?_⟩
      subst e
      obtain ⟨c, hc, hxc⟩ := List.mem_flatten.1 hy
      obtain ⟨j, hj⟩ := List.getElem?_of_mem hc
      exact hx x hx1 (j + 1) c (by omega) (by simpa using hj) hxc
    | succ i =>
      rw [List.set_cons_succ, List.flatten_cons, List.nodup_append]
      refine ⟨hd.1, ih hd.2.1 (fun x h j c hj hc => hx x h (j + 1) c (by omega) (by simpa using hc)), fun x hx1 y hy e => ?_⟩
      subst e
      rcases flatten_set hy with h | ⟨j, c, _, hc, hxc⟩
      · exact hx x h 0 d (by omega) rfl hx1
      · exact hd.2.2 x hx1 x (mem_flatten_of hc hxc) rfl
/-- One owned thing turns into another one: its own blocks, or new ones, alone are touched. -/
theorem Held.upd {B : Nat → Prop} {Δ : List Own} {m : View} {w : World} (h : Held B Δ m w) {i : Nat} {o : Own} (hi : Δ[i]? = some o) :
    ∃ b, o.on m w b ∧ b.Nodup ∧ (∀ x, x ∈ b → m x = Option.none ∧ B x ∧ x < w.heap.size) ∧
      ∀ (m' : View) (w' : World) (b' : List Nat) (o' : Own), m.le m' → (∀ k, k < w.heap.size → k ∉ b → w'.heap[k]? = w.heap[k]?) → (∀ k, k < w.heap.size → k ∉ b → m' k = m k) →
        w.heap.size ≤ w'.heap.size → (∀ x, w.heap.size ≤ x → B x) → o'.on m' w' b' → b'.Nodup → (∀ x, x ∈ b' → (x ∈ b ∨ w.heap.size ≤ x) ∧ x < w'.heap.size ∧ m' x = Option.none) → Held B (Δ.set i o') m' w' := by
  obtain ⟨bs, hO, hb⟩ := h
  obtain ⟨b, hbi, hob⟩ := hO.get hi
  have hsub : ∀ x, x ∈ b → x ∈ bs.flatten := fun x hx => mem_flatten_of hbi hx
  refine ⟨b, hob, ?_, fun x hx => hb.inn x (hsub x hx), ?_⟩
  · exact nodup_part hb.dup hbi
  · intro m' w' b' o' hm hk hmk hs hB ho' hd' hin
    have apart : ∀ j c, j ≠ i → bs[j]? = some c → ∀ x, x ∈ c → x ∉ b := fun j c hj hc x hx hxb => flatten_apart hb.dup hc hbi hj x hx hxb
    have old : ∀ {Δ : List Own} {cs : List (List Nat)}, (∀ b, b ∈ cs.flatten → w'.heap[b]? = w.heap[b]?) → Owns Δ m w cs → Owns Δ m' w' cs := fun h1 h2 => h2.up hm h1
    have hset : Owns (Δ.set i o') m' w' (bs.set i b') := by
      clear hi hob hbi
      have key : ∀ {Δ : List Own} {bs : List (List Nat)} {i : Nat}, Owns Δ m w bs → (∀ j c, j ≠ i → bs[j]? = some c → ∀ x, x ∈ c → w'.heap[x]? = w.heap[x]?) → Owns (Δ.set i o') m' w' (bs.set i b') := by
        intro Δ
        induction Δ with
        | nil => intro bs i h _; cases bs with | nil => exact trivial | cons => exact h.elim
        | cons q Δ ih =>
          intro bs i h hq
          cases bs with
          | nil => exact h.elim
          | cons c cs =>
            cases i with
            | zero =>
              refine ⟨ho', old (fun x hx => ?_) h.2⟩
              obtain ⟨d, hd, hxd⟩ := List.mem_flatten.1 hx
              obtain ⟨j, hj⟩ := List.getElem?_of_mem hd
              exact hq (j + 1) d (by omega) (by simpa using hj) x hxd
            | succ i =>
              exact ⟨q.up hm (fun x hx => hq 0 c (by omega) rfl x hx) h.1, ih h.2 (fun j c' hj hc x hx => hq (j + 1) c' (by omega) (by simpa using hc) x hx)⟩
      exact key hO (fun j c hj hc x hx => hk x (hb.inn x (mem_flatten_of hc hx)).2.2 (apart j c hj hc x hx))
    refine ⟨bs.set i b', hset, ?_, ?_⟩
    · refine nodup_set hd' hb.dup fun x hx j c hj hc hxc => ?_
      rcases (hin x hx).1 with h | h
      · exact apart j c hj hc x hxc h
      · have := (hb.inn x (mem_flatten_of hc hxc)).2.2
        omega
    · intro x hx
      rcases flatten_set hx with h | ⟨j, c, hj, hc, hxc⟩
      · obtain ⟨h1, h2, h3⟩ := hin x h
        refine ⟨h3, ?_, h2⟩
        rcases h1 with h1 | h1
        · exact (hb.inn x (hsub x h1)).2.1
        · exact hB x h1
      · obtain ⟨h1, h2, h3⟩ := hb.inn x (mem_flatten_of hc hxc)
        exact ⟨(hmk x h3 (apart j c hj hc x hxc)).trans h1, h2, Nat.lt_of_lt_of_le h3 hs⟩
/-- what is owned is there, and no view tells it -/
theorem Held.at {B : Nat → Prop} {Δ : List Own} {m : View} {w : World} (h : Held B Δ m w) {i : Nat} {o : Own} (hi : Δ[i]? = some o) :
    ∃ b, o.on m w b ∧ ∀ x, x ∈ b → m x = Option.none ∧ B x ∧ x < w.heap.size := by
  obtain ⟨b, h1, _, h3, _⟩ := h.upd hi
  exact ⟨b, h1, h3⟩
end Go.Inn
