/- More rules: loops and meetings by what changes, conversions of bytes, equality of structs. No program in it. -/
import Derived.Test.YtgnblhmejecgfaaGreatDoorK8
import Derived.Laws.StructEq
import Derived.Laws.BytesString
set_option linter.all false
namespace Go.Inn
open Go Go.RowKit

/-! the slots that a loop leaves as they are -/
def Env.keep : List Nat → Env → Env
  | [], _ => []
  | k :: ks, Γ => match Γ.get k with
    | some p => (k, p) :: Env.keep ks Γ
    | none => Env.keep ks Γ
theorem Env.keep_get {Γ : Env} : ∀ {ks : List Nat} {t : Nat} {p : VP}, (Env.keep ks Γ).get t = some p → Γ.get t = some p ∧ t ∈ ks
  | [], t, p, h => by simp [Env.keep, Env.get] at h
  | k :: ks, t, p, h => by
    unfold Env.keep at h
    cases e : Γ.get k with
    | none =>
      rw [e] at h
      obtain ⟨h1, h2⟩ := Env.keep_get (ks := ks) h
      exact ⟨h1, by simp [h2]⟩
    | some q =>
      rw [e] at h
      by_cases et : t = k
      · subst et
        rw [Env.get_same] at h
        cases h
        exact ⟨e, by simp⟩
      · rw [Env.get_ne _ _ et] at h
        obtain ⟨h1, h2⟩ := Env.keep_get (ks := ks) h
        exact ⟨h1, by simp [h2]⟩
/-- facts that follow -/
def Subs (I : GI) (Γ Γ' : Env) : Prop := ∀ (m : View) (a : Act), I.on m → Γ.holds m a → Γ'.holds m a
theorem Subs.nil {I : GI} {Γ : Env} : Subs I Γ [] := fun _ _ _ _ => holds_nil
theorem Subs.one {I : GI} {Γ Γ' : Env} {t : Nat} {p : VP} (h : Γ.get t = some p) (k : Subs I Γ Γ') : Subs I Γ ((t, p) :: Γ') := fun m a hi ha => holds_cons (ha t p h) (k m a hi ha)
theorem Subs.eq {I : GI} {Γ Γ' : Env} {t : Nat} {α : Type} [Rep α] {x y : α} (h : Γ.get t = some (V x)) (e : x = y) (k : Subs I Γ Γ') : Subs I Γ ((t, V y) :: Γ') := fun m a hi ha => holds_cons (V_eq e (ha t _ h)) (k m a hi ha)
theorem Subs.weak {I : GI} {Γ Γ' : Env} {t : Nat} {p q : VP} (h : Γ.get t = some p) (e : ∀ m v, I.on m → p.on m v → q.on m v) (k : Subs I Γ Γ') : Subs I Γ ((t, q) :: Γ') := fun m a hi ha => holds_cons (e m _ hi (ha t p h)) (k m a hi ha)
theorem get_append : ∀ {Γ Γ' : Env} {t : Nat} {q : VP}, Env.get (Γ ++ Γ') t = some q → Γ.get t = some q ∨ Γ'.get t = some q
  | [], _, _, _, h => .inr h
  | (d, p) :: Γ, Γ', t, q, h => by
    by_cases e : t = d
    · subst e
      rw [List.cons_append, Env.get_same] at h
      exact .inl (by rw [Env.get_same]; exact h)
    · rw [List.cons_append, Env.get_ne _ _ e] at h
      rcases get_append (Γ := Γ) h with h | h
      · exact .inl (by rw [Env.get_ne _ _ e]; exact h)
      · exact .inr h
theorem holds_append {Γ Γ' : Env} {m : View} {a : Act} (h : Γ.holds m a) (k : Γ'.holds m a) : Env.holds (Γ ++ Γ') m a := fun t q hq =>
  (get_append hq).elim (h t q) (k t q)
theorem holds_keep {ks : List Nat} {Γ0 Γ : Env} {m : View} {a : Act} (hk : ks.map Γ.get = ks.map Γ0.get) (h : Γ.holds m a) : (Env.keep ks Γ0).holds m a := by
  intro t p hp
  obtain ⟨h1, h2⟩ := Env.keep_get hp
  refine h t p ?_
  obtain ⟨i, hi, rfl⟩ := List.getElem_of_mem h2
  have := congrArg (·[i]?) hk
  simp only [List.getElem?_map, List.getElem?_eq_getElem hi, Option.map_some, Option.some.injEq] at this
  rw [this]; exact h1
section
variable {P : Program} {C : Cx} {Γ Γ' : Env} {Δ Δ' : List Own} {K : List KI}
def AgainK (C : Cx) (ks : List Nat) (Γ : Env) (Δ : List Own) {σ : Type} (chg : σ → Env) (upd : σ → List Own → List Own) (μ : σ → Nat) (φ : σ → Prop) (s : σ) : Act → World → Prop :=
  Again C (fun s => chg s ++ Env.keep ks Γ) (fun s => upd s Δ) μ φ s
theorem SC.loopK {c : Code} {σ : Type} (ks : List Nat) (chg : σ → Env) (upd : σ → List Own → List Own) (μ : σ → Nat) (φ : σ → Prop) (s0 : σ) (h1 : φ s0) (hD : Δ = upd s0 Δ) (h0 : Subs C.I Γ (chg s0))
    (round : ∀ s, φ s → SC P C (chg s ++ Env.keep ks Γ) (upd s Δ) c (.loop (AgainK C ks Γ Δ chg upd μ φ s) :: K)) : SC P C Γ Δ (.loop c) K := by
  refine SC.loop (fun s => chg s ++ Env.keep ks Γ) (fun s => upd s Δ) μ φ s0 h1 (fun m a w st => ⟨m, ?_⟩) round
  have st' := st.env' (holds_append (h0 m a st.glob st.env) (holds_keep (ks := ks) rfl st.env))
  exact hD ▸ st'
theorem SK.roundK {ks : List Nat} {σ : Type} {chg : σ → Env} {upd : σ → List Own → List Own} {μ : σ → Nat} {φ : σ → Prop} {s : σ} (s' : σ) (hμ : μ s' < μ s) (hφ : φ s') (hD : Δ' = upd s' Δ) (hk : ks.map Γ'.get = ks.map Γ.get) (h : Subs C.I Γ' (chg s')) :
    SK P C Γ' Δ' (.loop (AgainK C ks Γ Δ chg upd μ φ s) :: K) := by
  refine SK.round s' hμ hφ (fun m a w st => ⟨m, ?_⟩)
  have st' := st.env' (holds_append (h m a st.glob st.env) (holds_keep hk st.env))
  exact hD ▸ st'
def MeetsK (C : Cx) (ks : List Nat) (Γ : Env) (Δ : List Own) {σ : Type} (chg : σ → Env) (upd : σ → List Own → List Own) (φ : σ → Prop) : Act → World → Prop :=
  Meets C (fun s => chg s ++ Env.keep ks Γ) (fun s => upd s Δ) φ
theorem SC.meetK {c y : Code} {σ : Type} (ks : List Nat) (chg : σ → Env) (upd : σ → List Own → List Own) (φ : σ → Prop) (h : SC P C Γ Δ c (.loop (MeetsK C ks Γ Δ chg upd φ) :: K))
    (k : ∀ s, φ s → SC P C (chg s ++ Env.keep ks Γ) (upd s Δ) y K) : SC P C Γ Δ c (.code y :: K) := SC.meet _ _ φ h k
theorem SK.metK {ks : List Nat} {σ : Type} {chg : σ → Env} {upd : σ → List Own → List Own} {φ : σ → Prop} (s' : σ) (hφ : φ s') (hD : Δ' = upd s' Δ) (hk : ks.map Γ'.get = ks.map Γ.get) (h : Subs C.I Γ' (chg s')) :
    SK P C Γ' Δ' (.loop (MeetsK C ks Γ Δ chg upd φ) :: K) := by
  refine SK.met s' hφ (fun m a w st => ⟨m, ?_⟩)
  have st' := st.env' (holds_append (h m a st.glob st.env) (holds_keep hk st.env))
  exact hD ▸ st'
end

section
variable {P : Program} {I : GI} {B : Nat → Prop} {Γ : Env} {Δ : List Own} {d : Option Tmp} {ty : TypeId} {pos : String} {aft : Array Edge} {gd : Option (Nat × Bool)}
/-! bytes -/
/-- a number's low byte -/
def u8 (x : Int) : UInt8 := UInt8.ofNat (x % 256).toNat
theorem u8_toNat (x : Int) : ((u8 x).toNat : Int) = x % 256 := by
  unfold u8
  rw [UInt8.toNat_ofNat']
  have h1 : 0 ≤ x % 256 := by omega
  have h2 : x % 256 < 256 := by omega
  omega
theorem OpOk.convI8 {s t : TypeId} {x : Operand} {a : Int} (hs : ∃ k, P.underlying s = some (.int k)) (ht : P.underlying t = some (.int .u8)) (hx : Typ I Γ x (V a)) : OpOk P I B Γ Δ ⟨d, .convert s t x, ty, pos, aft, gd⟩ (V (u8 a)) :=
  .still fun m e w hl hfit hI hh => by
    obtain ⟨k, hs⟩ := hs
    obtain ⟨h1, h2⟩ := V_int (hx.at hI hl (by simp [Op.operands]))
    refine ⟨.int .u8 (u8 a).toNat, ?_, V_u8_mk _ m⟩
    rw [u8_toNat]
    simp [execOp, h1, convert, run_underlying hs, run_underlying ht, Conv.intToInt, IntKind.wrap, IntKind.bits, IntKind.signed]
abbrev Row8 (l : List UInt8) : VP := @V (List UInt8) repList l
theorem OpOk.convBytes {s t e : TypeId} {x : Operand} {l : List UInt8} (hs : P.underlying s = some (.slice e)) (he : P.underlying e = some (.int .u8)) (ht : P.underlying t = some .string) (hx : Typ I Γ x (Row8 l)) :
    OpOk P I B Γ Δ ⟨d, .convert s t x, ty, pos, aft, gd⟩ (V (l : Str)) :=
  .still fun m c w hl hfit hI hh => by
    obtain ⟨A, cap, ex, h1, h2, hr⟩ := @V_list UInt8 _ l _ _ (hx.at hI hl (by simp [Op.operands]))
    refine ⟨str l, ?_, V_str_mk (Nat.le_trans h1 h2) m⟩
    rcases hr with rfl | ⟨b, off, rfl, hat⟩
    · cases A with
      | none =>
        have e0 : (ByteArray.empty : ByteArray) = ⟨#[]⟩ := rfl
        simp [execOp, ex, convert, run_underlying hs, run_underlying he, run_underlying ht, Conv.bytesToString, str, e0]
      | some ad =>
        have hc := run_loadCellsFrom (P := P) (w := w) (a := ad) 0 0 #[] [] rfl (fun j hj => by omega)
        have := run_bytesToString (P := P) w ad 0 cap [] (by simpa [loadCells] using hc)
        have e0 : (ByteArray.empty : ByteArray) = ⟨#[]⟩ := rfl
        simp [execOp, ex, convert, run_underlying hs, run_underlying he, run_underlying ht, this, str, e0]
    · have hcell : ∀ j, j < l.length → w.cell? ((⟨b, off, none⟩ : Addr).add (0 + j)) = (l.map (fun x : UInt8 => Value.int .u8 (x.toNat : Int)))[j]? := by
        intro j hj
        obtain ⟨cc, et, fr, cs, k1, ⟨k2, _⟩, k3⟩ := hat j hj
        subst k2
        have h0 := k3 0 (by decide)
        rw [add_mk, cell_block (hfit _ _ k1)]
        simp only [Nat.add_zero, List.getElem?_cons_zero] at h0
        have e1 : Rep.n UInt8 = 1 := rfl
        rw [e1, Nat.mul_one] at h0
        rw [Nat.zero_add, h0]
        simp [List.getElem?_map, List.getElem?_eq_getElem hj]
      have hc := run_loadCellsFrom (P := P) (w := w) (a := ⟨b, off, none⟩) l.length 0 #[] (l.map (fun x : UInt8 => Value.int .u8 (x.toNat : Int))) (by simp) hcell
      have hm : (l.map (fun x : UInt8 => Value.int .u8 (x.toNat : Int))) = (l.map (fun x : UInt8 => (x.toNat : Int))).map (Value.int .u8) := by simp
      rw [hm] at hc
      have := run_bytesToString (P := P) w ⟨b, off, none⟩ l.length cap (l.map (fun x : UInt8 => (x.toNat : Int))) (by simpa [loadCells] using hc)
      have hfold : ∀ (l : List UInt8) (s : ByteArray), ((l.map (fun x : UInt8 => (x.toNat : Int))).foldl (fun r n => r.push (UInt8.ofNat n.toNat)) s) = ⟨s.data ++ l.toArray⟩ := by
        intro l
        induction l with
        | nil => intro s; simp
        | cons x xs ih =>
          intro s
          simp only [List.map_cons, List.foldl_cons]
          rw [ih]
          apply ByteArray.ext
          simp [ByteArray.push]
      simp only [execOp, ex, convert, Sem.run_bind, run_underlying hs, run_underlying he, run_underlying ht, Result.andThen_ok, this, Sem.run_pure]
      rw [hfold]
      simp [str, ByteArray.empty, ByteArray.emptyWithCapacity]
      try rfl
/-! equality -/
structure TyQ (P : Program) (t : TypeId) (n : Nat) {α : Type} [Rep α] (eq : α → α → Bool) : Prop where
  run : ∀ {m : View} {x y : α} {cs ds : List Value}, Rep.cells m x cs → Rep.cells m y ds → ∀ (w : World) (d : Nat), (Op.equalIn (d + n) t (packed (Rep.agg α) cs) (packed (Rep.agg α) ds)).run P w = .ok (eq x y) w
theorem TyQ.le {t : TypeId} {n k : Nat} {α : Type} [Rep α] {eq : α → α → Bool} (h : TyQ P t n eq) (hk : n ≤ k) : TyQ P t k eq where
  run h1 h2 w d := by
    have := h.run h1 h2 w (d + (k - n))
    have e : d + (k - n) + n = d + k := by omega
    rwa [e] at this
theorem TyQ.int {t : TypeId} {k : IntKind} (ht : P.underlying t = some (.int k)) : TyQ P t 1 (fun a b : Int => decide (a = b)) where
  run h1 h2 w d := by
    obtain ⟨rfl, _⟩ := h1
    obtain ⟨rfl, _⟩ := h2
    show (Op.equalIn (d + 1) t (.int .i64 _) (.int .i64 _)).run P w = _
    rw [run_equalIn_int w d t .i64 k _ _ ht]
    congr 1
theorem TyQ.bool {t : TypeId} (ht : P.underlying t = some .bool) : TyQ P t 1 (fun a b : Bool => decide (a = b)) where
  run h1 h2 w d := by
    obtain ⟨rfl, _⟩ := h1
    obtain ⟨rfl, _⟩ := h2
    show (Op.equalIn (d + 1) t (.bool _) (.bool _)).run P w = _
    rw [run_equalIn_bool' w d t _ _ ht]
    congr 1
theorem str_beq (a b : Str) : ((⟨a.toArray⟩ : ByteArray).toList == (⟨b.toArray⟩ : ByteArray).toList) = decide (a = b) := by
  rw [ByteArray.toList_eq, ByteArray.toList_eq, Bool.eq_iff_iff]
  simp
theorem TyQ.str {t : TypeId} (ht : P.underlying t = some .string) : TyQ P t 1 (fun a b : Str => decide (a = b)) where
  run h1 h2 w d := by
    obtain ⟨rfl, _⟩ := h1
    obtain ⟨rfl, _⟩ := h2
    show (Op.equalIn (d + 1) t (.string _) (.string _)).run P w = _
    rw [run_equalIn_string w d t _ _ ht, str_beq]
inductive FQ (P : Program) {α : Type} [Rep α] : List Field → Nat → (α → α → Bool) → Prop
  | nil {n : Nat} : FQ P [] n (fun _ _ => true)
  | cons {f : Field} {fs : List Field} {n : Nat} {off : Nat} {β : Type} [Rep β] {get : α → β} {set : α → β → α} {eq : β → β → Bool} {eq' : α → α → Bool} (L : Lens off get set) (ho : f.offset = off) (ht : Ty P f.type β) (q : TyQ P f.type n eq) (hn : f.name ≠ "_") (k : FQ P fs n eq') :
      FQ P (f :: fs) n (fun x y => eq (get x) (get y) && eq' x y)
theorem FQ.run {α : Type} [Rep α] {fs : List Field} {n : Nat} {eq : α → α → Bool} (h : FQ P fs n eq) {m : View} {x y : α} {cs ds : List Value} (hx : Rep.cells m x cs) (hy : Rep.cells m y ds) (w : World) (d : Nat) :
    (Op.eqFields (d + n) cs.toArray ds.toArray fs).run P w = .ok (eq x y) w := by
  induction h with
  | nil => simp [Op.eqFields]
  | @cons f fs n off β _ get set eq eq' L ho ht q hn k ih =>
    have h1 := run_part ht (off := off) (L.get_ok hx) w
    have h2 := run_part ht (off := off) (L.get_ok hy) w
    have h3 := q.run (L.get_ok hx) (L.get_ok hy) w d
    simp only [Op.eqFields, ne_eq, hn, not_false_eq_true, if_true, Sem.run_bind, ho, h1, Result.andThen_ok, h2, h3]
    cases heq : eq (get x) (get y) with
    | false => simp [Sem.run_ite]
    | true => simp [Sem.run_ite, ih]
theorem TyQ.struct {t : TypeId} {α : Type} [Rep α] {n : Nat} {eq e : α → α → Bool} {fs : Array Field} (hag : Rep.agg α = true) (hu : P.underlying t = some (.struct fs)) (hp : P.stoodInHeld t = false) (h : FQ P fs.toList n eq) (he : ∀ x y, eq x y = e x y) : TyQ P t (n + 1) e where
  run {m x y cs ds} h1 h2 w d := by
    have e1 : packed (Rep.agg α) cs = .agg cs.toArray := by simp [packed, hag]
    have e2 : packed (Rep.agg α) ds = .agg ds.toArray := by simp [packed, hag]
    have hf : P.fieldsOf t = fs := by simp [Program.fieldsOf, hu]
    rw [e1, e2, ← Nat.add_assoc, run_equalIn_struct w (d + n) t _ _ (by rw [hf]; exact hu) hp, hf, h.run h1 h2 w d, he]
theorem OpOk.eqlT {t u : TypeId} {n : Nat} {α : Type} [Rep α] {eq : α → α → Bool} (hq : TyQ P t n eq) (hn : n ≤ 100) (hag : Rep.agg α = true) (hm : P.eqGuardType P.depth t = false) {x y : Operand} {a b : α} (hx : Typ I Γ x (V a)) (hy : Typ I Γ y (V b)) :
    OpOk P I B Γ Δ ⟨d, .binOp .eql t x y u, ty, pos, aft, gd⟩ (V (eq a b)) :=
  .still fun m c w hl hfit hI hh => by
    obtain ⟨cs, h1, e1⟩ := hx.at hI hl (by simp [Op.operands])
    obtain ⟨ds, h2, e2⟩ := hy.at hI hl (by simp [Op.operands])
    have hr := hq.run h1 h2 w (10000 - n)
    have e3 : 10000 - n + n = 10000 := by omega
    rw [e3] at hr
    have p1 : packed (Rep.agg α) cs = .agg cs.toArray := by simp [packed, hag]
    have p2 : packed (Rep.agg α) ds = .agg ds.toArray := by simp [packed, hag]
    rw [p1] at e1 hr
    rw [p2] at e2 hr
    refine ⟨.bool (eq a b), ?_, V_bool_mk _ m⟩
    simp only [execOp, e1, e2, Sem.run_bind, run_eqGuard_agg w .eql t x y _ _ hm, Result.andThen_ok, run_eql_struct, hr, Sem.run_pure]
theorem OpOk.neqT {t u : TypeId} {n : Nat} {α : Type} [Rep α] {eq : α → α → Bool} (hq : TyQ P t n eq) (hn : n ≤ 100) (hag : Rep.agg α = true) (hm : P.eqGuardType P.depth t = false) {x y : Operand} {a b : α} (hx : Typ I Γ x (V a)) (hy : Typ I Γ y (V b)) :
    OpOk P I B Γ Δ ⟨d, .binOp .neq t x y u, ty, pos, aft, gd⟩ (V (!(eq a b))) :=
  .still fun m c w hl hfit hI hh => by
    obtain ⟨cs, h1, e1⟩ := hx.at hI hl (by simp [Op.operands])
    obtain ⟨ds, h2, e2⟩ := hy.at hI hl (by simp [Op.operands])
    have hr := hq.run h1 h2 w (10000 - n)
    have e3 : 10000 - n + n = 10000 := by omega
    rw [e3] at hr
    have p1 : packed (Rep.agg α) cs = .agg cs.toArray := by simp [packed, hag]
    have p2 : packed (Rep.agg α) ds = .agg ds.toArray := by simp [packed, hag]
    rw [p1] at e1 hr
    rw [p2] at e2 hr
    refine ⟨.bool (!(eq a b)), ?_, V_bool_mk _ m⟩
    simp only [execOp, e1, e2, Sem.run_bind, run_eqGuard_agg w .neq t x y _ _ hm, Result.andThen_ok, run_neq_struct, hr, Sem.run_pure]
end
end Go.Inn
