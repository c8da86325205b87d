/- A region whose order Go leaves open: every order comes to the same facts. A function's body, its contract, a call. No program in it. -/
import Derived.Test.YtgnblhmejecgfaaGreatDoorK2
set_option linter.all false
namespace Go.Inn
open Go Go.RowKit

structure DC (ops : Array Oper) (k : Nat) (kds : List Nat) : Prop where
  le : k ≤ ops.size
  back : ∀ (i : Nat) (o : Oper), ops[i]? = some o → ∀ e, e ∈ depsOf o → e < i
  ssa : ∀ i j, i < k → j < k → i ≠ j → ∀ d d', (ops[i]?).bind (·.dst) = some d → (ops[j]?).bind (·.dst) = some d' → d ≠ d'
  reads : ∀ (i : Nat) (o : Oper), i < k → ops[i]? = some o → ∀ t, t ∈ o.looksAt ops → ∀ j, j < k → (ops[j]?).bind (·.dst) = some t →
    (j < i ∧ ((anc ops.toList []).getD i 0).testBit j = true) ∨ i = j ∨ (i < j ∧ ((anc ops.toList []).getD j 0).testBit i = true)
  tail : ∀ i, k ≤ i → i < ops.size → ∀ j, j < i → ((anc ops.toList []).getD i 0).testBit j = true
  comp : ∀ i, i < k → kds.getD i 0 ≠ 0 → ∀ j, j < k → kds.getD j 0 = 2 → i = j ∨ (j < i ∧ ((anc ops.toList []).getD i 0).testBit j = true) ∨ (i < j ∧ ((anc ops.toList []).getD j 0).testBit i = true)
theorem blt_lt {a b : Nat} (h : Nat.blt a b = true) : a < b := by
  unfold Nat.blt at h; exact Nat.le_of_ble_eq_true h
theorem DC.of {ops : Array Oper} {k : Nat} {kds : List Nat} (h : dcheck ops k kds = true) : DC ops k kds := by
  unfold dcheck at h
  simp only [Bool.and_eq_true] at h
  obtain ⟨⟨⟨⟨⟨h1, h2⟩, h3⟩, h4⟩, h5⟩, h6⟩ := h
  rw [List.all_eq_true] at h2 h3 h4 h5 h6
  refine ⟨Nat.le_of_ble_eq_true h1, ?_, ?_, ?_, ?_, ?_⟩
  · intro i o ho e he
    have hlt : i < ops.size := (Array.getElem?_eq_some_iff.1 ho).1
    have := h2 i (List.mem_range.2 hlt)
    rw [ho] at this
    simp only [Option.map_some, Option.getD_some, List.all_eq_true] at this
    exact blt_lt (this e he)
  · intro i j hi hj hne d d' hd hd' e
    subst e
    have := h3 i (List.mem_range.2 hi)
    rw [List.all_eq_true] at this
    have := this j (List.mem_range.2 hj)
    rw [hd, hd'] at this
    simp only [Bool.or_eq_true, Nat.beq_refl, Bool.not_true, Bool.false_eq_true, or_false] at this
    exact hne (Nat.eq_of_beq_eq_true this)
  · intro i o hi ho t ht j hj hd
    have := h4 i (List.mem_range.2 hi)
    rw [ho] at this
    simp only [Option.map_some, Option.getD_some, List.all_eq_true] at this
    have := this t ht j (List.mem_range.2 hj)
    rw [hd] at this
    simp only [Nat.beq_refl, Bool.not_true, Bool.false_or, Bool.or_eq_true, Bool.and_eq_true] at this
    rcases this with (⟨a, b⟩ | a) | ⟨a, b⟩
    · exact .inl ⟨blt_lt a, b⟩
    · exact .inr (.inl (Nat.eq_of_beq_eq_true a))
    · exact .inr (.inr ⟨blt_lt a, b⟩)
  · intro i hi hn j hj
    have := h5 i (List.mem_range.2 hn)
    simp only [Bool.or_eq_true, List.all_eq_true] at this
    rcases this with h | h
    · have := blt_lt h; omega
    · exact h j (List.mem_range.2 hj)
  · intro i hi hne j hj hkj
    have := h6 i (List.mem_range.2 hi)
    have hb : Nat.beq (kds.getD i 0) 0 = false := by
      cases hq : Nat.beq (kds.getD i 0) 0 with
      | false => rfl
      | true => exact absurd (Nat.eq_of_beq_eq_true hq) hne
    rw [hb, Bool.false_or, List.all_eq_true] at this
    have := this j (List.mem_range.2 hj)
    rw [hkj] at this
    simp only [Nat.beq_refl, Bool.not_true, Bool.false_or, Bool.or_eq_true, Bool.and_eq_true] at this
    rcases this with (a | ⟨a, b⟩) | ⟨a, b⟩
    · exact .inl (Nat.eq_of_beq_eq_true a)
    · exact .inr (.inl ⟨blt_lt a, b⟩)
    · exact .inr (.inr ⟨blt_lt a, b⟩)

/-- which operations have come up -/
def lst (listed : Array Bool) (i : Nat) : Bool := listed.getD i false
theorem ready_iff {ops : Array Oper} {listed : Array Bool} (hs : listed.size = ops.size) {i : Nat} :
    i ∈ Region.ready .any ops listed ↔ lst listed i = false ∧ ∃ o, ops[i]? = some o ∧ ∀ e, e ∈ depsOf o → lst listed e = true := by
  rw [mem_ready]
  constructor
  · rintro ⟨h0, o, ho, h⟩
    refine ⟨?_, o, ho, fun e he => ?_⟩
    · have hlt : i < listed.size := by rw [hs]; exact (Array.getElem?_eq_some_iff.1 ho).1
      simp [lst, Array.getD, hlt] at h0 ⊢
      exact h0
    · simp only [depsOf, List.mem_map, List.mem_filter] at he
      obtain ⟨x, ⟨hx, hb⟩, rfl⟩ := he
      exact h x (by simpa using hx) hb
  · rintro ⟨h0, o, ho, h⟩
    refine ⟨?_, o, ho, fun e he hb => ?_⟩
    · have hlt : i < listed.size := by rw [hs]; exact (Array.getElem?_eq_some_iff.1 ho).1
      simp [lst, Array.getD, hlt] at h0 ⊢
      exact h0
    · exact h e.on (by simp only [depsOf, List.mem_map, List.mem_filter]; exact ⟨e, ⟨by simpa using he, hb⟩, rfl⟩)
theorem lst_set {listed : Array Bool} {i : Nat} (h : i < listed.size) (j : Nat) : lst (listed.setIfInBounds i true) j = (decide (j = i) || lst listed j) := by
  unfold lst
  simp only [Array.getD_eq_getD_getElem?]
  by_cases e : j = i
  · subst e
    simp [h]
  · rw [Array.getElem?_setIfInBounds_ne (by omega)]
    simp [e]
theorem anc_of {ops : Array Oper} {L : Nat → Bool} (hL : Closed ops L) {i : Nat} {o : Oper} (ho : ops[i]? = some o) (hd : ∀ e, e ∈ depsOf o → L e = true) {j : Nat}
    (hj : ((anc ops.toList []).getD i 0).testBit j = true) : L j = true := by
  have hlt : i < ops.size := (Array.getElem?_eq_some_iff.1 ho).1
  exact anc_spec hL ops.toList [] (fun i => by simp) (fun i hi => by simp at hi) i (by simpa using hlt) o ho hd j hj
/-- behind the free part: what is left comes in the text's order -/
theorem tail_any {P : Program} {ops : Array Oper} {k : Nat} {kds : List Nat} (hc : DC ops k kds) {Q : Exit → Act → World → Prop} : ∀ (n i : Nat), n = ops.size - i → k ≤ i → i ≤ ops.size → ∀ (listed : Array Bool) (a : Act) (w : World) (fuel : Nat),
    listed.size = ops.size → (∀ j, lst listed j = decide (j < i)) → n ≤ fuel → wpList P ops Q (ops.toList.drop i) a w → wpAny P .any ops Q fuel listed a w := by
  intro n
  induction n with
  | zero =>
    intro i hn hki his listed a w fuel hs hl _ h
    have e : i = ops.size := by omega
    subst e
    have hr : Region.ready .any ops listed = [] := by
      refine List.eq_nil_iff_forall_not_mem.2 fun j hj => ?_
      obtain ⟨h0, o, ho, _⟩ := (ready_iff hs).1 hj
      have hlt : j < ops.size := (Array.getElem?_eq_some_iff.1 ho).1
      rw [hl j] at h0
      simp [hlt] at h0
    have hdr : ops.toList.drop ops.size = [] := List.drop_of_length_le (by simp)
    rw [hdr] at h
    have hq : Q .normal a w := h
    exact wpAny_done hr hq fuel
  | succ n ih =>
    intro i hn hki his listed a w fuel hs hl hf h
    obtain ⟨fuel, rfl⟩ : ∃ f, fuel = f + 1 := ⟨fuel - 1, by omega⟩
    have hlt : i < ops.size := by omega
    have hoi : ops[i]? = some ops[i] := Array.getElem?_eq_getElem hlt
    have only : ∀ j, j ∈ Region.ready .any ops listed → j = i := by
      intro j hj
      obtain ⟨h0, o, ho, hd⟩ := (ready_iff hs).1 hj
      have hjs : j < ops.size := (Array.getElem?_eq_some_iff.1 ho).1
      rw [hl j] at h0
      simp at h0
      by_cases e : j = i
      · exact e
      · have hb := hc.tail j (by omega) hjs i (by omega)
        have hcl : Closed ops (lst listed) := by
          intro x ox hx hlx e he
          rw [hl x] at hlx; simp at hlx
          rw [hl e]; have := hc.back x ox hx e he; simp; omega
        have := anc_of hcl ho hd hb
        rw [hl i] at this; simp at this
    have here : i ∈ Region.ready .any ops listed := by
      refine (ready_iff hs).2 ⟨by rw [hl i]; simp, _, hoi, fun e he => ?_⟩
      have := hc.back i _ hoi e he
      rw [hl e]; simpa using this
    have hdrop : ops.toList.drop i = ops[i] :: ops.toList.drop (i + 1) := by
      rw [List.drop_eq_getElem_cons (by simpa using hlt)]; simp
    rw [hdrop] at h
    refine ⟨fun e => (by rw [e] at here; cases here), fun j hj => ?_⟩
    rw [only j hj]
    have next : ∀ a' w', wpList P ops Q (ops.toList.drop (i + 1)) a' w' → wpAny P .any ops Q fuel (listed.setIfInBounds i true) a' w' := by
      intro a' w' h'
      refine ih (i + 1) (by omega) (by omega) (by omega) _ a' w' fuel (by simpa using hs) (fun j => ?_) (by omega) h'
      rw [lst_set (by rw [hs]; exact hlt) j, hl j]
      by_cases e : j = i
      · subst e; simp
      · have : (j < i) ↔ (j < i + 1) := by omega
        simp [e, this]
    unfold wpOp
    simp only [hoi]
    unfold wpList at h
    by_cases hw : Region.wanted ops[i] (yielded ops a.tmps) = true
    · rw [if_pos hw] at h ⊢
      rcases h with h | h
      · exact .inl (Oper.wp_mono next h)
      · exact .inr h
    · rw [if_neg hw] at h ⊢
      exact next _ _ h

def dstBelow (ops : Array Oper) (N : Nat) : Bool := ops.toList.all fun o => match o.dst with
  | some d => Nat.blt d N
  | none => true
theorem dstBelow_spec {ops : Array Oper} {N : Nat} (h : dstBelow ops N = true) {i d : Nat} (hd : (ops[i]?).bind (·.dst) = some d) : d < N := by
  cases ho : ops[i]? with
  | none => rw [ho] at hd; cases hd
  | some o =>
    rw [ho] at hd
    simp only [Option.bind_some] at hd
    have := (List.all_eq_true.1 h) o (by simpa using Array.mem_of_getElem? ho)
    rw [hd] at this
    exact blt_lt this
theorem filter_ge_length (k : Nat) : ∀ n, ((List.range n).filter (fun i => decide (k ≤ i))).length = n - k := by
  intro n
  induction n with
  | zero => simp
  | succ n ih =>
    rw [List.range_succ, List.filter_append, List.length_append, ih]
    by_cases h : k ≤ n
    · simp [h]; omega
    · simp [h]; omega
theorem lst_none (n j : Nat) : lst (Array.replicate n false) j = false := by
  simp only [lst, Array.getD_eq_getD_getElem?, Array.getElem?_replicate]
  split <;> rfl
theorem SC.draw {P : Program} {C : Cx} {Γ0 Γ : Env} {Δ0 Δ : List Own} {ks : List KI} {id : Nat} {ops : Array Oper} {kds : List Nat} (k : Nat) (hm : P.follows .mixedOrders = true) (hc : dcheck ops k kds = true)
    (hN : dstBelow ops C.N = true)
    (hT : DT P C Δ0 ops Γ0 k Γ Δ kds) (tail : SL P C Γ Δ ops (ops.toList.drop k) ks) : SC P C Γ0 Δ0 (.region id ops true) ks := by
  have hc := DC.of hc
  obtain ⟨_, F, G, D, g0, gk, d0, dk, hj⟩ := hT.facts
  intro m1 a1 w1 st1
  refine wp_region_any hm ?_
  -- what the environments tell
  have gA : ∀ t j, j ≤ k → (∀ i, i < j → (ops[i]?).bind (·.dst) ≠ some t) → (G j).get t = Γ0.get t := by
    intro t j
    induction j with
    | zero => intro _ _; rw [g0]
    | succ j ih =>
      intro hjk h
      obtain ⟨o, ho, hf⟩ := hj j (by omega)
      rw [hf.env]
      have hne := h j (by omega)
      rw [ho] at hne
      simp only [Option.bind_some, ne_eq] at hne
      unfold nextEnv
      cases hd : o.dst with
      | none => exact ih (by omega) (fun i hi => h i (by omega))
      | some d =>
        have : t ≠ d := fun e => hne (by rw [hd, e])
        show Env.get ((d, F j) :: G j) t = _
        rw [Env.get_ne _ _ this]
        exact ih (by omega) (fun i hi => h i (by omega))
  have gB : ∀ t i, i < k → (ops[i]?).bind (·.dst) = some t → ∀ j, i < j → j ≤ k → (G j).get t = some (F i) := by
    intro t i hi hd j
    induction j with
    | zero => intro h; omega
    | succ j ih =>
      intro hij hjk
      obtain ⟨o, ho, hf⟩ := hj j (by omega)
      rw [hf.env]
      by_cases e : i = j
      · subst e
        rw [ho] at hd
        simp only [Option.bind_some] at hd
        unfold nextEnv
        rw [hd]
        exact Env.get_same _ _ _
      · have h1 := ih (by omega) (by omega)
        unfold nextEnv
        cases hdj : o.dst with
        | none => exact h1
        | some d =>
          have : t ≠ d := hc.ssa i j hi (by omega) e t d hd (by rw [ho]; exact hdj)
          show Env.get ((d, F j) :: G j) t = _
          rw [Env.get_ne _ _ this]
          exact h1
  -- what is owned turns at writers alone
  have dEq : ∀ x y, x ≤ y → y ≤ k → (∀ j, x ≤ j → j < y → kds.getD j 0 ≠ 2) → D y = D x := by
    intro x y
    induction y with
    | zero => intro h _ _; have : x = 0 := by omega
              rw [this]
    | succ y ih =>
      intro hxy hyk h
      by_cases e : x = y + 1
      · rw [e]
      · obtain ⟨o, ho, hf⟩ := hj y (by omega)
        rw [hf.own (h y (by omega) (by omega))]
        exact ih (by omega) (by omega) (fun j h1 h2 => h j h1 (by omega))
  have dEq' : ∀ x y, x ≤ k → y ≤ k → (∀ j, j < k → kds.getD j 0 = 2 → (j < x ↔ j < y)) → D x = D y := by
    intro x y hx hy h
    rcases Nat.le_total x y with hxy | hxy
    · exact (dEq x y hxy hy (fun j h1 h2 e => by have := (h j (by omega) e).2 h2; omega)).symm
    · exact dEq y x hxy hx (fun j h1 h2 e => by have := (h j (by omega) e).1 h2; omega)
  -- the invariant
  let Inv : Array Bool → Act → World → Prop := fun listed a w =>
    listed.size = ops.size ∧ Closed ops (lst listed) ∧ (∀ j, k ≤ j → lst listed j = false) ∧
    ∃ m q, q ≤ k ∧ (∀ j, j < k → kds.getD j 0 = 2 → (lst listed j = true ↔ j < q)) ∧ m1.le m ∧ St C [] (D q) m a w ∧
      (∀ t p, (∀ j, j < k → lst listed j = true → (ops[j]?).bind (·.dst) ≠ some t) → Γ0.get t = some p → p.on m (a.tmps.getD t undef)) ∧
      (∀ j t, j < k → lst listed j = true → (ops[j]?).bind (·.dst) = some t → (F j).on m (a.tmps.getD t undef))
  have stOf : ∀ listed a w, Inv listed a w → (∀ j, j < k → lst listed j = true) → ∃ m, St C Γ Δ m a w := by
    rintro listed a w ⟨hs, hcl, htl, m, q, hq, hqw, hle, st, h3, h4⟩ hall
    have hD : D q = Δ := by
      rw [← dk]
      exact dEq' q k hq (Nat.le_refl k) (fun j hj e => ⟨fun _ => hj, fun _ => (hqw j hj e).1 (hall j hj)⟩)
    rw [hD] at st
    refine ⟨m, st.env' ?_⟩
    intro t p hp
    rw [← gk] at hp
    by_cases hex : ∃ i, i < k ∧ (ops[i]?).bind (·.dst) = some t
    · obtain ⟨i, hi, hd⟩ := hex
      rw [gB t i hi hd k hi (Nat.le_refl k)] at hp
      cases hp
      exact h4 i t hi (hall i hi) hd
    · rw [gA t k (Nat.le_refl k) (fun i hi hd => hex ⟨i, hi, hd⟩)] at hp
      exact h3 t p (fun j hj _ hd => hex ⟨j, hj, hd⟩) hp
  have main : ∀ (fuel : Nat) (listed : Array Bool) (a : Act) (w : World), Inv listed a w → ((List.range ops.size).filter fun i => !lst listed i).length ≤ fuel → wpAny P .any ops (KQ P C.R ks) fuel listed a w := by
    intro fuel
    induction fuel with
    | zero =>
      intro listed a w hI hlen
      have hnone : ∀ j, j < ops.size → lst listed j = true := by
        intro j hjs
        have h0 : ((List.range ops.size).filter fun i => !lst listed i) = [] := List.eq_nil_of_length_eq_zero (by omega)
        cases hl : lst listed j with
        | true => rfl
        | false =>
          have : j ∈ ((List.range ops.size).filter fun i => !lst listed i) := List.mem_filter.2 ⟨List.mem_range.2 hjs, by simp [hl]⟩
          rw [h0] at this; cases this
      have hk : k = ops.size := by
        rcases Nat.lt_or_ge k ops.size with h | h
        · have := hI.2.2.1 k (Nat.le_refl k)
          rw [hnone k h] at this; cases this
        · have := hc.le; omega
      obtain ⟨m, st⟩ := stOf listed a w hI (fun j hj => hnone j (by omega))
      have h := tail m a w st
      have hdrop : ops.toList.drop k = [] := List.drop_of_length_le (by simp [hk])
      rw [hdrop] at h
      have hr : Region.ready .any ops listed = [] := by
        refine List.eq_nil_iff_forall_not_mem.2 fun j hj => ?_
        obtain ⟨h0, o, ho, _⟩ := (ready_iff hI.1).1 hj
        rw [hnone j (Array.getElem?_eq_some_iff.1 ho).1] at h0; cases h0
      exact ⟨hr, by simpa [wpList] using h⟩
    | succ fuel ih =>
      intro listed a w hI hlen
      by_cases hall : ∀ j, j < k → lst listed j = true
      · -- the free part is done
        obtain ⟨m, st⟩ := stOf listed a w hI hall
        have hl : ∀ j, lst listed j = decide (j < k) := by
          intro j
          by_cases e : j < k
          · rw [hall j e]; simp [e]
          · rw [hI.2.2.1 j (by omega)]; simp [e]
        refine tail_any hc (ops.size - k) k rfl (Nat.le_refl k) hc.le listed a w (fuel + 1) hI.1 hl ?_ (tail m a w st)
        refine Nat.le_trans ?_ hlen
        have : (List.range ops.size).filter (fun i => !lst listed i) = (List.range ops.size).filter (fun i => decide (k ≤ i)) := by
          refine List.filter_congr fun i _ => ?_
          rw [hl i]
          by_cases e : i < k
          · have : ¬ k ≤ i := by omega
            simp [e, this]
          · have : k ≤ i := by omega
            simp [e, this]
        rw [this]
        rw [filter_ge_length]
        exact Nat.le_refl _
      · -- one of the free ones
        have hex : ∃ j, j < k ∧ lst listed j = false := by
          refine Classical.byContradiction fun h => hall fun j hj => ?_
          cases e : lst listed j with
          | true => rfl
          | false => exact absurd ⟨j, hj, e⟩ h
        refine ⟨fun hr => ?_, fun i hi => ?_⟩
        · -- something can come up
          obtain ⟨j, ⟨hjk, hjl⟩, hmin⟩ := exists_least hex
          exfalso
          have hlt : j < ops.size := Nat.lt_of_lt_of_le hjk hc.le
          have : j ∈ Region.ready .any ops listed := by
            refine (ready_iff hI.1).2 ⟨hjl, _, Array.getElem?_eq_getElem hlt, fun e he => ?_⟩
            have hb := hc.back j _ (Array.getElem?_eq_getElem hlt) e he
            cases h : lst listed e with
            | true => rfl
            | false => have := hmin e ⟨by omega, h⟩; omega
          rw [hr] at this; cases this
        · obtain ⟨h0, o, ho, hd⟩ := (ready_iff hI.1).1 hi
          have his : i < ops.size := (Array.getElem?_eq_some_iff.1 ho).1
          obtain ⟨hs, hcl, htl, m, q, hq, hqw, hle, st, h3, h4⟩ := hI
          have hik : i < k := by
            rcases Nat.lt_or_ge i k with h | h
            · exact h
            · obtain ⟨j, hjk, hjl⟩ := hex
              have := anc_of hcl ho hd (hc.tail i h his j (by omega))
              rw [hjl] at this; cases this
          have later : ∀ j, j < k → ((anc ops.toList []).getD j 0).testBit i = true → lst listed j = false := by
            intro j hjk hb
            cases hl : lst listed j with
            | false => rfl
            | true =>
              have hlt2 : j < ops.size := Nat.lt_of_lt_of_le hjk hc.le
              have hoj : ops[j]? = some ops[j] := Array.getElem?_eq_getElem hlt2
              have := anc_of hcl hoj (fun e he => hcl j _ hoj hl e he) hb
              rw [h0] at this; cases this
          obtain ⟨o', ho', hf⟩ := hj i hik
          rw [ho] at ho'; cases ho'
          unfold wpOp
          simp only [ho]
          have hset : ∀ j, lst (listed.setIfInBounds i true) j = (decide (j = i) || lst listed j) := lst_set (by rw [hs]; exact his)
          have hcl' : Closed ops (lst (listed.setIfInBounds i true)) := by
            intro x ox hx hlx e he
            rw [hset] at hlx ⊢
            by_cases ex : x = i
            · subst ex
              rw [ho] at hx; cases hx
              rw [hd e he]; simp
            · simp [ex] at hlx
              rw [hcl x ox hx hlx e he]; simp
          have htl' : ∀ j, k ≤ j → lst (listed.setIfInBounds i true) j = false := by
            intro j hjk
            rw [hset, htl j hjk]
            have : j ≠ i := by omega
            simp [this]
          have hless : ((List.range ops.size).filter fun j => !lst (listed.setIfInBounds i true) j).length ≤ fuel := by
            have hmem : i ∈ (List.range ops.size).filter fun i => !lst listed i := List.mem_filter.2 ⟨List.mem_range.2 his, by simp [h0]⟩
            have hflt : (List.range ops.size).filter (fun j => !lst (listed.setIfInBounds i true) j) = ((List.range ops.size).filter fun j => !lst listed j).filter (fun j => decide (j ≠ i)) := by
              rw [List.filter_filter]
              refine List.filter_congr fun j _ => ?_
              rw [hset]
              by_cases e : j = i <;> simp [e]
            rw [hflt]
            have key : ∀ (l : List Nat), i ∈ l → (l.filter (fun j => decide (j ≠ i))).length < l.length := by
              intro l hl
              induction l with
              | nil => cases hl
              | cons x xs ihl =>
                by_cases e : x = i
                · subst e
                  simp only [ne_eq, decide_not, List.filter_cons, decide_true, Bool.not_true, Bool.false_eq_true, if_false, List.length_cons]
                  have := List.length_filter_le (fun j => !decide (j = x)) xs
                  omega
                · have hx : i ∈ xs := by
                    cases hl with
                    | head => exact absurd rfl e
                    | tail _ h => exact h
                  have := ihl hx
                  simp only [ne_eq, decide_not, List.filter_cons, e, decide_false, Bool.not_false, if_true, List.length_cons] at this ⊢
                  omega
            have := key _ hmem
            omega
          have looks : ∀ t, t ∈ o.looksAt ops → ∀ p, (G i).get t = some p → p.on m (a.tmps.getD t undef) := by
            intro t ht p hp
            by_cases hex2 : ∃ j, j < k ∧ lst listed j = true ∧ (ops[j]?).bind (·.dst) = some t
            · obtain ⟨j, hjk, hjl, hdj⟩ := hex2
              rcases hc.reads i o hik ho t ht j hjk hdj with ⟨hlt, _⟩ | rfl | ⟨hlt, hb⟩
              · rw [gB t j hjk hdj i hlt (by omega)] at hp
                cases hp
                exact h4 j t hjk hjl hdj
              · rw [h0] at hjl; cases hjl
              · rw [later j hjk hb] at hjl; cases hjl
            · have hno : ∀ j, j < i → (ops[j]?).bind (·.dst) ≠ some t := by
                intro j hlt hdj
                rcases hc.reads i o hik ho t ht j (by omega) hdj with ⟨_, hb⟩ | e | ⟨h, _⟩
                · exact hex2 ⟨j, by omega, anc_of hcl ho hd hb, hdj⟩
                · omega
                · omega
              rw [gA t i (by omega) hno] at hp
              exact h3 t p (fun j hjk hjl hdj => hex2 ⟨j, hjk, hjl, hdj⟩) hp
          -- which writers have come up, where this one looks into what is owned
          have here : kds.getD i 0 ≠ 0 → D q = D i := by
            intro hne
            refine dEq' q i hq (by omega) (fun j hjk hj2 => ?_)
            rw [← hqw j hjk hj2]
            by_cases eij : j = i
            · subst eij
              rw [h0]; simp
            · rcases hc.comp i hik hne j hjk hj2 with e | ⟨hlt, hb⟩ | ⟨hlt, hb⟩
              · exact absurd e.symm eij
              · exact ⟨fun _ => hlt, fun _ => anc_of hcl ho hd hb⟩
              · rw [later j hjk hb]
                exact ⟨(fun h => by cases h), fun h => by omega⟩
          by_cases hw2 : kds.getD i 0 = 2
          · -- a writer
            obtain ⟨hW, hdn⟩ := hf.k2 hw2
            have hDi := here (by omega)
            rw [hDi] at st
            have res := hW m a w (KQ P C.R ks) (wpAny P .any ops (KQ P C.R ks) fuel (listed.setIfInBounds i true)) looks st ?_
            · by_cases hw : Region.wanted o (yielded ops a.tmps) = true
              · rw [if_pos hw] at res ⊢; exact .inl res
              · rw [if_neg hw] at res ⊢; exact res
            · intro m' w' hmm st'
              refine ih _ _ _ ⟨by simpa using hs, hcl', htl', m', i + 1, by omega, ?_, View.le_trans hle hmm, st', ?_, ?_⟩ hless
              · intro j hjk hj2
                rw [hset]
                by_cases eij : j = i
                · subst eij; simp
                · simp only [eij, decide_false, Bool.false_or]
                  rcases hc.comp i hik (by omega) j hjk hj2 with e | ⟨hlt, hb⟩ | ⟨hlt, hb⟩
                  · exact absurd e.symm eij
                  · exact ⟨fun _ => by omega, fun _ => anc_of hcl ho hd hb⟩
                  · rw [later j hjk hb]
                    exact ⟨(fun h => by cases h), fun h => by omega⟩
              · intro t p hno hp
                exact p.up hmm (h3 t p (fun j hjk hjl => hno j hjk (by rw [hset, hjl]; simp)) hp)
              · intro j t hjk hjl hdj
                rw [hset] at hjl
                by_cases e : j = i
                · subst e
                  rw [ho] at hdj
                  simp only [Option.bind_some] at hdj
                  rw [hdn] at hdj; cases hdj
                · simp [e] at hjl
                  exact (F j).up hmm (h4 j t hjk hjl hdj)
          · -- any other
            have hT' : OpT P C.I C.Y (G i) (D q) ops o (F i) := by
              by_cases hw1 : kds.getD i 0 = 1
              · rw [here (by omega)]; exact hf.k1 hw1
              · exact hf.k0 hw1 hw2 (D q)
            have step : ∀ (v : Value) (m' : View) (w' : World), Grow m w m' w' → (F i).on m' v → wpAny P .any ops (KQ P C.R ks) fuel (listed.setIfInBounds i true) (a.put o.dst v) w' := by
              intro v m' w' g' hF
              have stg := st.grow g'
              have stp : St C [] (D q) m' (a.put o.dst v) w' := { stg with size := (size_put _ _ _).trans stg.size, defers := (defers_put _ _ _).trans stg.defers, env := fun t p hp => by simp [Env.get] at hp }
              refine ih _ _ _ ⟨by simpa using hs, hcl', htl', m', q, hq, ?_, View.le_trans hle g'.le, stp, ?_, ?_⟩ hless
              · intro j hjk hj2
                rw [hset]
                have : j ≠ i := fun e => hw2 (e ▸ hj2)
                simp only [this, decide_false, Bool.false_or]
                exact hqw j hjk hj2
              · intro t p hno hp
                have hti : (ops[i]?).bind (·.dst) ≠ some t := hno i hik (by rw [hset]; simp)
                have hb := h3 t p (fun j hjk hjl => hno j hjk (by rw [hset, hjl]; simp)) hp
                rw [ho] at hti
                simp only [Option.bind_some, ne_eq] at hti
                cases hdo : o.dst with
                | none => exact p.up g'.le hb
                | some d =>
                  have : t ≠ d := fun e => hti (by rw [hdo, e])
                  rw [getD_put_ne this]
                  exact p.up g'.le hb
              · intro j t hjk hjl hdj
                rw [hset] at hjl
                by_cases e : j = i
                · subst e
                  rw [ho] at hdj
                  simp only [Option.bind_some] at hdj
                  rw [hdj, getD_put_same (by rw [st.size]; exact dstBelow_spec hN (i := j) (by rw [ho]; exact hdj))]
                  exact hF
                · simp [e] at hjl
                  have hb := (F j).up g'.le (h4 j t hjk hjl hdj)
                  cases hdo : o.dst with
                  | none => exact hb
                  | some d =>
                    have : t ≠ d := hc.ssa j i hjk hik e t d hdj (by rw [ho]; exact hdo)
                    rw [getD_put_ne this]
                    exact hb
            have res := hT' m a w (KQ P C.R ks) _ looks st.fits st.glob st.held step
            by_cases hw : Region.wanted o (yielded ops a.tmps) = true
            · rw [if_pos hw] at res ⊢; exact .inl res
            · rw [if_neg hw] at res ⊢; exact res
  have st0 := st1.grow (Grow.drew st1.fits)
  refine main _ _ a1 _ ⟨by simp, ?_, ?_, m1, 0, Nat.zero_le _, ?_, View.le_refl _, ?_, ?_, ?_⟩ ?_
  · intro i o ho hl
    rw [lst_none] at hl; cases hl
  · intro j _
    exact lst_none _ j
  · intro j _ _
    rw [lst_none]
    exact ⟨(fun h => by cases h), fun h => by omega⟩
  · rw [d0]; exact st0.env' (fun t p hp => by simp [Env.get] at hp)
  · intro t p _ hp; exact st1.env t p hp
  · intro j t _ hl
    rw [lst_none] at hl; cases hl
  · exact Nat.le_trans (List.length_filter_le _ _) (by simp)
/-- the free part of such a region, an operation at a time -/
def DR (P : Program) (C : Cx) (Γ0 : Env) (Δ0 : List Own) (ops : Array Oper) (id : Nat) (ks : List KI) (i : Nat) (Γ : Env) (Δ : List Own) (kds : List Nat) (_ : List Oper) : Prop := DT P C Δ0 ops Γ0 i Γ Δ kds → SC P C Γ0 Δ0 (.region id ops true) ks
section
variable {P : Program} {C : Cx} {Γ0 Γ : Env} {Δ0 Δ : List Own} {ops : Array Oper} {id : Nat} {ks : List KI} {i : Nat} {kds : List Nat} {o : Oper} {rest : List Oper}
theorem DR.start (h : DR P C Γ0 Δ0 ops id ks 0 Γ0 Δ0 [] ops.toList) : SC P C Γ0 Δ0 (.region id ops true) ks := h .nil
theorem DR.op {d : Nat} {F : VP} (h : ∀ Δ, OpT P C.I C.Y Γ Δ ops o F) (ho : ops[i]? = some o) (hd : o.dst = some d) (k : DR P C Γ0 Δ0 ops id ks (i + 1) ((d, F) :: Γ) Δ (kds ++ [0]) rest) : DR P C Γ0 Δ0 ops id ks i Γ Δ kds (o :: rest) :=
  fun hT => k (.op hT ho hd h)
theorem DR.op0 {F : VP} (h : ∀ Δ, OpT P C.I C.Y Γ Δ ops o F) (ho : ops[i]? = some o) (hd : o.dst = none) (k : DR P C Γ0 Δ0 ops id ks (i + 1) Γ Δ (kds ++ [0]) rest) : DR P C Γ0 Δ0 ops id ks i Γ Δ kds (o :: rest) :=
  fun hT => k (.op0 hT ho hd h)
theorem DR.opR {d : Nat} {F : VP} (h : OpT P C.I C.Y Γ Δ ops o F) (ho : ops[i]? = some o) (hd : o.dst = some d) (k : DR P C Γ0 Δ0 ops id ks (i + 1) ((d, F) :: Γ) Δ (kds ++ [1]) rest) : DR P C Γ0 Δ0 ops id ks i Γ Δ kds (o :: rest) :=
  fun hT => k (.opR hT ho hd h)
theorem DR.wr {Δ' : List Own} (h : OpW P C Γ Δ ops o Δ') (ho : ops[i]? = some o) (hd : o.dst = none) (k : DR P C Γ0 Δ0 ops id ks (i + 1) Γ Δ' (kds ++ [2]) rest) : DR P C Γ0 Δ0 ops id ks i Γ Δ kds (o :: rest) :=
  fun hT => k (.wr hT ho hd h)
theorem DR.tail {l : List Oper} (hm : P.follows .mixedOrders = true) (hc : dcheck ops i kds = true) (hN : dstBelow ops C.N = true) (hl : ops.toList.drop i = l) (k : SL P C Γ Δ ops l ks) : DR P C Γ0 Δ0 ops id ks i Γ Δ kds l :=
  fun hT => SC.draw i hm hc hN hT (hl ▸ k)
end
end Go.Inn
