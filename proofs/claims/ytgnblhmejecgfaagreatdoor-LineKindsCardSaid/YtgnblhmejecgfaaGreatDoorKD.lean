/- A region whose order Go leaves open, and in which some operations write what no single list of owned things tells: what is owned goes by a predicate of what has come up. No program in it. -/
import Derived.Test.YtgnblhmejecgfaaGreatDoorKC
set_option linter.all false
namespace Go.Inn
open Go Go.RowKit
theorem SC.drawZ {P : Program} {C : Cx} {Γ0 : Env} {Δ0 : List Own} {ks : List KI} {id : Nat} {ops : Array Oper} (k : Nat) (hm : P.follows .mixedOrders = true) (hc : dcheck ops k [] = true) (hN : dstBelow ops C.N = true)
    (F : Nat → VP) (G : Nat → Env) (g0 : G 0 = Γ0) (sp : Nat → Bool) (Z : (Nat → Bool) → View → Act → World → Prop)
    (hst : ∀ L m a w, Z L m a w → ∃ Δ, St C [] Δ m a w) (hz0 : ∀ m a w, St C [] Δ0 m a w → Z (fun _ => false) m a w)
    (hj : ∀ j, j < k → ∃ o, ops[j]? = some o ∧ G (j + 1) = nextEnv o (F j) (G j) ∧
      (sp j = false → (∀ Δ, OpT P C.I C.Y (G j) Δ ops o (F j)) ∧ ∀ L m a w m' w' v, Z L m a w → Grow m w m' w' → Z (fun i => decide (i = j) || L i) m' (a.put o.dst v) w') ∧
      (sp j = true → ∀ (L : Nat → Bool) (m : View) (a : Act) (w : World) (Q : Exit → Act → World → Prop) (K : Act → World → Prop), (∀ e, e ∈ depsOf o → L e = true) → L j = false → Z L m a w → (∀ t, t ∈ o.looksAt ops → ∀ p, (G j).get t = some p → p.on m (a.tmps.getD t undef)) →
        (∀ v m' w', m.le m' → (o.dst ≠ none → (F j).on m' v) → Z (fun i => decide (i = j) || L i) m' (a.put o.dst v) w' → K (a.put o.dst v) w') →
        if Region.wanted o (yielded ops a.tmps) then o.wp P a w K Q else K (a.put o.dst undef) w))
    (tail : ∀ L m a w, (∀ j, j < k → L j = true) → Z L m a w → (G k).holds m a → wpList P ops (KQ P C.R ks) (ops.toList.drop k) a w) : SC P C Γ0 Δ0 (.region id ops true) ks := by
  have hc := DC.of hc
  intro m1 a1 w1 st1
  refine wp_region_any hm ?_
  -- what the environments tell
  have gA : ∀ t j, j ≤ k → (∀ i, i < j → (ops[i]?).bind (·.dst) ≠ some t) → (G j).get t = Γ0.get t := by
    intro t j
    induction j with
    | zero => intro _ _; rw [g0]
    | succ j ih =>
      intro hjk h
      obtain ⟨o, ho, hf, _⟩ := hj j (by omega)
      rw [hf]
      have hne := h j (by omega)
      rw [ho] at hne
      simp only [Option.bind_some, ne_eq] at hne
      unfold nextEnv
      cases hd : o.dst with
      | none => exact ih (by omega) (fun i hi => h i (by omega))
      | some d =>
        have : t ≠ d := fun e => hne (by rw [hd, e])
        show Env.get ((d, F j) :: G j) t = _
        rw [Env.get_ne _ _ this]
        exact ih (by omega) (fun i hi => h i (by omega))
  have gB : ∀ t i, i < k → (ops[i]?).bind (·.dst) = some t → ∀ j, i < j → j ≤ k → (G j).get t = some (F i) := by
    intro t i hi hd j
    induction j with
    | zero => intro h; omega
    | succ j ih =>
      intro hij hjk
      obtain ⟨o, ho, hf, _⟩ := hj j (by omega)
      rw [hf]
      by_cases e : i = j
      · subst e
        rw [ho] at hd
        simp only [Option.bind_some] at hd
        unfold nextEnv
        rw [hd]
        exact Env.get_same _ _ _
      · have h1 := ih (by omega) (by omega)
        unfold nextEnv
        cases hdj : o.dst with
        | none => exact h1
        | some d =>
          have : t ≠ d := hc.ssa i j hi (by omega) e t d hd (by rw [ho]; exact hdj)
          show Env.get ((d, F j) :: G j) t = _
          rw [Env.get_ne _ _ this]
          exact h1
  -- the invariant
  let Inv : Array Bool → Act → World → Prop := fun listed a w =>
    listed.size = ops.size ∧ Closed ops (lst listed) ∧ (∀ j, k ≤ j → lst listed j = false) ∧
    ∃ m, m1.le m ∧ Z (lst listed) m a w ∧
      (∀ t p, (∀ j, j < k → lst listed j = true → (ops[j]?).bind (·.dst) ≠ some t) → Γ0.get t = some p → p.on m (a.tmps.getD t undef)) ∧
      (∀ j t, j < k → lst listed j = true → (ops[j]?).bind (·.dst) = some t → (F j).on m (a.tmps.getD t undef))
  have stOf : ∀ listed a w, Inv listed a w → (∀ j, j < k → lst listed j = true) → ∃ m, Z (lst listed) m a w ∧ (G k).holds m a := by
    rintro listed a w ⟨hs, hcl, htl, m, hle, hz, h3, h4⟩ hall
    refine ⟨m, hz, ?_⟩
    intro t p hp
    by_cases hex : ∃ i, i < k ∧ (ops[i]?).bind (·.dst) = some t
    · obtain ⟨i, hi, hd⟩ := hex
      rw [gB t i hi hd k hi (Nat.le_refl k)] at hp
      cases hp
      exact h4 i t hi (hall i hi) hd
    · rw [gA t k (Nat.le_refl k) (fun i hi hd => hex ⟨i, hi, hd⟩)] at hp
      exact h3 t p (fun j hj _ hd => hex ⟨j, hj, hd⟩) hp
  have main : ∀ (fuel : Nat) (listed : Array Bool) (a : Act) (w : World), Inv listed a w → ((List.range ops.size).filter fun i => !lst listed i).length ≤ fuel → wpAny P .any ops (KQ P C.R ks) fuel listed a w := by
    intro fuel
    induction fuel with
    | zero =>
      intro listed a w hI hlen
      have hnone : ∀ j, j < ops.size → lst listed j = true := by
        intro j hjs
        have h0 : ((List.range ops.size).filter fun i => !lst listed i) = [] := List.eq_nil_of_length_eq_zero (by omega)
        cases hl : lst listed j with
        | true => rfl
        | false =>
          have : j ∈ ((List.range ops.size).filter fun i => !lst listed i) := List.mem_filter.2 ⟨List.mem_range.2 hjs, by simp [hl]⟩
          rw [h0] at this; cases this
      have hk : k = ops.size := by
        rcases Nat.lt_or_ge k ops.size with h | h
        · have := hI.2.2.1 k (Nat.le_refl k)
          rw [hnone k h] at this; cases this
        · have := hc.le; omega
      obtain ⟨m, hz, hG⟩ := stOf listed a w hI (fun j hj => hnone j (by omega))
      have h := tail (lst listed) m a w (fun j hj => hnone j (by omega)) hz hG
      have hdrop : ops.toList.drop k = [] := List.drop_of_length_le (by simp [hk])
      rw [hdrop] at h
      have hr : Region.ready .any ops listed = [] := by
        refine List.eq_nil_iff_forall_not_mem.2 fun j hj => ?_
        obtain ⟨h0, o, ho, _⟩ := (ready_iff hI.1).1 hj
        rw [hnone j (Array.getElem?_eq_some_iff.1 ho).1] at h0; cases h0
      exact ⟨hr, by simpa [wpList] using h⟩
    | succ fuel ih =>
      intro listed a w hI hlen
      by_cases hall : ∀ j, j < k → lst listed j = true
      · -- the free part is done
        obtain ⟨m, hz, hG⟩ := stOf listed a w hI hall
        have hl : ∀ j, lst listed j = decide (j < k) := by
          intro j
          by_cases e : j < k
          · rw [hall j e]; simp [e]
          · rw [hI.2.2.1 j (by omega)]; simp [e]
        refine tail_any hc (ops.size - k) k rfl (Nat.le_refl k) hc.le listed a w (fuel + 1) hI.1 hl ?_ (tail (lst listed) m a w hall hz hG)
        refine Nat.le_trans ?_ hlen
        have : (List.range ops.size).filter (fun i => !lst listed i) = (List.range ops.size).filter (fun i => decide (k ≤ i)) := by
          refine List.filter_congr fun i _ => ?_
          rw [hl i]
          by_cases e : i < k
          · have : ¬ k ≤ i := by omega
            simp [e, this]
          · have : k ≤ i := by omega
            simp [e, this]
        rw [this]
        rw [filter_ge_length]
        exact Nat.le_refl _
      · -- one of the free ones
        have hex : ∃ j, j < k ∧ lst listed j = false := by
          refine Classical.byContradiction fun h => hall fun j hj => ?_
          cases e : lst listed j with
          | true => rfl
          | false => exact absurd ⟨j, hj, e⟩ h
        refine ⟨fun hr => ?_, fun i hi => ?_⟩
        · -- something can come up
          obtain ⟨j, ⟨hjk, hjl⟩, hmin⟩ := exists_least hex
          exfalso
          have hlt : j < ops.size := Nat.lt_of_lt_of_le hjk hc.le
          have : j ∈ Region.ready .any ops listed := by
            refine (ready_iff hI.1).2 ⟨hjl, _, Array.getElem?_eq_getElem hlt, fun e he => ?_⟩
            have hb := hc.back j _ (Array.getElem?_eq_getElem hlt) e he
            cases h : lst listed e with
            | true => rfl
            | false => have := hmin e ⟨by omega, h⟩; omega
          rw [hr] at this; cases this
        · obtain ⟨h0, o, ho, hd⟩ := (ready_iff hI.1).1 hi
          have his : i < ops.size := (Array.getElem?_eq_some_iff.1 ho).1
          obtain ⟨hs, hcl, htl, m, hle, hz, h3, h4⟩ := hI
          have hik : i < k := by
            rcases Nat.lt_or_ge i k with h | h
            · exact h
            · obtain ⟨j, hjk, hjl⟩ := hex
              have := anc_of hcl ho hd (hc.tail i h his j (by omega))
              rw [hjl] at this; cases this
          have later : ∀ j, j < k → ((anc ops.toList []).getD j 0).testBit i = true → lst listed j = false := by
            intro j hjk hb
            cases hl : lst listed j with
            | false => rfl
            | true =>
              have hlt2 : j < ops.size := Nat.lt_of_lt_of_le hjk hc.le
              have hoj : ops[j]? = some ops[j] := Array.getElem?_eq_getElem hlt2
              have := anc_of hcl hoj (fun e he => hcl j _ hoj hl e he) hb
              rw [h0] at this; cases this
          obtain ⟨o', ho', hf, hk0, hk2⟩ := hj i hik
          rw [ho] at ho'; cases ho'
          unfold wpOp
          simp only [ho]
          have hset : ∀ j, lst (listed.setIfInBounds i true) j = (decide (j = i) || lst listed j) := lst_set (by rw [hs]; exact his)
          have hcl' : Closed ops (lst (listed.setIfInBounds i true)) := by
            intro x ox hx hlx e he
            rw [hset] at hlx ⊢
            by_cases ex : x = i
            · subst ex
              rw [ho] at hx; cases hx
              rw [hd e he]; simp
            · simp [ex] at hlx
              rw [hcl x ox hx hlx e he]; simp
          have htl' : ∀ j, k ≤ j → lst (listed.setIfInBounds i true) j = false := by
            intro j hjk
            rw [hset, htl j hjk]
            have : j ≠ i := by omega
            simp [this]
          have hless : ((List.range ops.size).filter fun j => !lst (listed.setIfInBounds i true) j).length ≤ fuel := by
            have hmem : i ∈ (List.range ops.size).filter fun i => !lst listed i := List.mem_filter.2 ⟨List.mem_range.2 his, by simp [h0]⟩
            have hflt : (List.range ops.size).filter (fun j => !lst (listed.setIfInBounds i true) j) = ((List.range ops.size).filter fun j => !lst listed j).filter (fun j => decide (j ≠ i)) := by
              rw [List.filter_filter]
              refine List.filter_congr fun j _ => ?_
              rw [hset]
              by_cases e : j = i <;> simp [e]
            rw [hflt]
            have key : ∀ (l : List Nat), i ∈ l → (l.filter (fun j => decide (j ≠ i))).length < l.length := by
              intro l hl
              induction l with
              | nil => cases hl
              | cons x xs ihl =>
                by_cases e : x = i
                · subst e
                  simp only [ne_eq, decide_not, List.filter_cons, decide_true, Bool.not_true, Bool.false_eq_true, if_false, List.length_cons]
                  have := List.length_filter_le (fun j => !decide (j = x)) xs
                  omega
                · have hx : i ∈ xs := by
                    cases hl with
                    | head => exact absurd rfl e
                    | tail _ h => exact h
                  have := ihl hx
                  simp only [ne_eq, decide_not, List.filter_cons, e, decide_false, Bool.not_false, if_true, List.length_cons] at this ⊢
                  omega
            have := key _ hmem
            omega
          have looks : ∀ t, t ∈ o.looksAt ops → ∀ p, (G i).get t = some p → p.on m (a.tmps.getD t undef) := by
            intro t ht p hp
            by_cases hex2 : ∃ j, j < k ∧ lst listed j = true ∧ (ops[j]?).bind (·.dst) = some t
            · obtain ⟨j, hjk, hjl, hdj⟩ := hex2
              rcases hc.reads i o hik ho t ht j hjk hdj with ⟨hlt, _⟩ | rfl | ⟨hlt, hb⟩
              · rw [gB t j hjk hdj i hlt (by omega)] at hp
                cases hp
                exact h4 j t hjk hjl hdj
              · rw [h0] at hjl; cases hjl
              · rw [later j hjk hb] at hjl; cases hjl
            · have hno : ∀ j, j < i → (ops[j]?).bind (·.dst) ≠ some t := by
                intro j hlt hdj
                rcases hc.reads i o hik ho t ht j (by omega) hdj with ⟨_, hb⟩ | e | ⟨h, _⟩
                · exact hex2 ⟨j, by omega, anc_of hcl ho hd hb, hdj⟩
                · omega
                · omega
              rw [gA t i (by omega) hno] at hp
              exact h3 t p (fun j hjk hjl hdj => hex2 ⟨j, hjk, hjl, hdj⟩) hp
          have hfun : (fun j => decide (j = i) || lst listed j) = lst (listed.setIfInBounds i true) := funext fun j => (hset j).symm
          have hsz : a.tmps.size = C.N := by obtain ⟨Δ, st⟩ := hst _ _ _ _ hz; exact st.size
          have step : ∀ (v : Value) (m' : View) (w' : World), m.le m' → (o.dst ≠ none → (F i).on m' v) → Z (fun j => decide (j = i) || lst listed j) m' (a.put o.dst v) w' → wpAny P .any ops (KQ P C.R ks) fuel (listed.setIfInBounds i true) (a.put o.dst v) w' := by
            intro v m' w' hmm hF hz'
            rw [hfun] at hz'
            refine ih _ _ _ ⟨by simpa using hs, hcl', htl', m', View.le_trans hle hmm, hz', ?_, ?_⟩ hless
            · intro t p hno hp
              have hti : (ops[i]?).bind (·.dst) ≠ some t := hno i hik (by rw [hset]; simp)
              have hb := h3 t p (fun j hjk hjl => hno j hjk (by rw [hset, hjl]; simp)) hp
              rw [ho] at hti
              simp only [Option.bind_some, ne_eq] at hti
              cases hdo : o.dst with
              | none => exact p.up hmm hb
              | some d =>
                have : t ≠ d := fun e => hti (by rw [hdo, e])
                rw [getD_put_ne this]
                exact p.up hmm hb
            · intro j t hjk hjl hdj
              rw [hset] at hjl
              by_cases e : j = i
              · subst e
                rw [ho] at hdj
                simp only [Option.bind_some] at hdj
                rw [hdj, getD_put_same (by rw [hsz]; exact dstBelow_spec hN (i := j) (by rw [ho]; exact hdj))]
                exact hF (by rw [hdj]; simp)
              · simp [e] at hjl
                have hb := (F j).up hmm (h4 j t hjk hjl hdj)
                cases hdo : o.dst with
                | none => exact hb
                | some d =>
                  have : t ≠ d := hc.ssa j i hjk hik e t d hdj (by rw [ho]; exact hdo)
                  rw [getD_put_ne this]
                  exact hb
          by_cases hsp : sp i = true
          · have res := hk2 hsp (lst listed) m a w (KQ P C.R ks) _ hd h0 hz looks step
            by_cases hw : Region.wanted o (yielded ops a.tmps) = true
            · rw [if_pos hw] at res ⊢; exact .inl res
            · rw [if_neg hw] at res ⊢; exact res
          · have hsp : sp i = false := by cases h : sp i with
              | true => exact absurd h hsp
              | false => rfl
            obtain ⟨hT, hzg⟩ := hk0 hsp
            obtain ⟨Δ, st⟩ := hst _ _ _ _ hz
            have res := hT Δ m a w (KQ P C.R ks) _ looks st.fits st.glob st.held (fun v m' w' g hF => step v m' w' g.le (fun _ => hF) (hzg _ _ _ _ _ _ v hz g))
            by_cases hw : Region.wanted o (yielded ops a.tmps) = true
            · rw [if_pos hw] at res ⊢; exact .inl res
            · rw [if_neg hw] at res ⊢; exact res
  have st0 := st1.grow (Grow.drew st1.fits)
  refine main _ _ a1 _ ⟨by simp, ?_, ?_, m1, View.le_refl _, ?_, ?_, ?_⟩ ?_
  · intro i o ho hl
    rw [lst_none] at hl; cases hl
  · intro j _
    exact lst_none _ j
  · have e : lst (Array.replicate ops.size false) = fun _ => false := funext fun j => lst_none _ j
    rw [e]
    exact hz0 _ _ _ (st0.env' (fun t p hp => by simp [Env.get] at hp))
  · intro t p _ hp; exact st1.env t p hp
  · intro j t _ hl
    rw [lst_none] at hl; cases hl
  · exact Nat.le_trans (List.length_filter_le _ _) (by simp)
/-! a map's literal, in whatever order: the map, what is put into it, where it is looked into -/
def VP.aMap : VP := ⟨fun _ v => ∃ b : Nat, v = .map (some b), fun _ h => h⟩
theorem mget_none {α : Type} {key : Int} : ∀ {l : List (Int × α)}, (∀ p, p ∈ l → p.1 ≠ key) → mget l key = none
  | [], _ => rfl
  | (j, x) :: l, h => by
    have h1 : j ≠ key := h (j, x) (by simp)
    rw [mget, if_neg h1]
    exact mget_none fun p hp => h p (by simp [hp])
theorem mget_some {α : Type} {key : Int} {v : α} : ∀ {l : List (Int × α)}, (key, v) ∈ l → (∀ p, p ∈ l → p.1 = key → p.2 = v) → mget l key = some v
  | (j, x) :: l, hm, h => by
    rw [mget]
    by_cases e : j = key
    · have hx : x = v := h (j, x) (by simp) e
      rw [if_pos e, hx]
    · rw [if_neg e]
      rcases List.mem_cons.1 hm with hm | hm
      · cases hm; exact absurd rfl e
      · exact mget_some hm fun p hp => h p (by simp [hp])
theorem mget_same {α : Type} {key : Int} {l l' : List (Int × α)} (hs : ∀ p, p ∈ l ↔ p ∈ l') (hd : ∀ p q, p ∈ l → q ∈ l → p.1 = q.1 → p = q) : mget l key = mget l' key := by
  by_cases h : ∃ v, (key, v) ∈ l
  · obtain ⟨v, hv⟩ := h
    have u : ∀ p, p ∈ l → p.1 = key → p.2 = v := fun p hp e => by rw [hd p (key, v) hp hv e]
    rw [mget_some hv u, mget_some ((hs _).1 hv) fun p hp e => u p ((hs p).2 hp) e]
  · have n : ∀ p, p ∈ l → p.1 ≠ key := fun p hp e => h ⟨p.2, by rw [← e]; exact hp⟩
    rw [mget_none n, mget_none fun p hp e => n p ((hs p).2 hp) e]
section
variable {P : Program} {C : Cx} {Γ0 Γ : Env} {Δ0 : List Own} {ops : Array Oper} {id : Nat} {ks : List KI} {i i0 im d0 d1 : Nat} {t k0 e0 : TypeId} {α : Type} [Rep α] {K : List (Nat × Int × α)}
inductive DZ (P : Program) (C : Cx) (ops : Array Oper) (Γ0 : Env) (i0 im d0 d1 : Nat) (t : TypeId) {α : Type} [Rep α] : Nat → Env → List (Nat × Int × α) → Prop
  | nil : DZ P C ops Γ0 i0 im d0 d1 t 0 Γ0 []
  | op {i : Nat} {Γ : Env} {K : List (Nat × Int × α)} {o : Oper} {d : Nat} {F : VP} (h : DZ P C ops Γ0 i0 im d0 d1 t i Γ K) (ho : ops[i]? = some o) (hd : o.dst = some d) (hne : (d ≠ d0 ∧ d ≠ d1) ∧ i ≠ i0 ∧ i ≠ im) (hT : ∀ Δ, OpT P C.I C.Y Γ Δ ops o F) : DZ P C ops Γ0 i0 im d0 d1 t (i + 1) ((d, F) :: Γ) K
  | mk {Γ : Env} {K : List (Nat × Int × α)} {ty : TypeId} {pos : String} {aft : Array Edge} (h : DZ P C ops Γ0 i0 im d0 d1 t i0 Γ K) (ho : ops[i0]? = some ⟨some d0, .makeMap t none, ty, pos, aft, none⟩) : DZ P C ops Γ0 i0 im d0 d1 t (i0 + 1) ((d0, .aMap) :: Γ) K
  | mv {Γ : Env} {K : List (Nat × Int × α)} {ty : TypeId} {pos : String} {aft : Array Edge} (h : DZ P C ops Γ0 i0 im d0 d1 t im Γ K) (ho : ops[im]? = some ⟨some d1, .move (.tmp d0), ty, pos, aft, none⟩) (hdep : ∃ o, ops[im]? = some o ∧ i0 ∈ depsOf o) : DZ P C ops Γ0 i0 im d0 d1 t (im + 1) ((d1, .aMap) :: Γ) K
  | ins {i : Nat} {Γ : Env} {K : List (Nat × Int × α)} {key : Int} {val : α} {y : Operand} {ty : TypeId} {pos : String} {aft : Array Edge} (h : DZ P C ops Γ0 i0 im d0 d1 t i Γ K) (ho : ops[i]? = some ⟨none, .insert t (.tmp d0) (.const (.int .i64 key)) y, ty, pos, aft, none⟩)
      (hne : i ≠ i0 ∧ i ≠ im) (hdep : ∃ o, ops[i]? = some o ∧ i0 ∈ depsOf o) (hkey : in64 key) (hnew : ∀ e, e ∈ K → e.2.1 ≠ key) (hlt : ∀ e, e ∈ K → e.1 < i) (hy : Typ C.I Γ y (V val)) : DZ P C ops Γ0 i0 im d0 d1 t (i + 1) Γ (K ++ [(i, key, val)])
/-- what each is -/
inductive ZCls (P : Program) (C : Cx) (ops : Array Oper) (i0 im d0 d1 : Nat) (t : TypeId) {α : Type} [Rep α] (K : List (Nat × Int × α)) (j : Nat) (F : VP) (Γ : Env) : Oper → Prop
  | op {o : Oper} {d : Nat} (hd : o.dst = some d) (hne : (d ≠ d0 ∧ d ≠ d1) ∧ j ≠ i0 ∧ j ≠ im) (hK : ∀ e, e ∈ K → e.1 ≠ j) (hT : ∀ Δ, OpT P C.I C.Y Γ Δ ops o F) : ZCls P C ops i0 im d0 d1 t K j F Γ o
  | mk {ty : TypeId} {pos : String} {aft : Array Edge} (hj : j = i0) (hF : F = .aMap) : ZCls P C ops i0 im d0 d1 t K j F Γ ⟨some d0, .makeMap t none, ty, pos, aft, none⟩
  | mv {ty : TypeId} {pos : String} {aft : Array Edge} (hj : j = im) (hF : F = .aMap) (hdep : ∃ o, ops[j]? = some o ∧ i0 ∈ depsOf o) : ZCls P C ops i0 im d0 d1 t K j F Γ ⟨some d1, .move (.tmp d0), ty, pos, aft, none⟩
  | ins {key : Int} {val : α} {y : Operand} {ty : TypeId} {pos : String} {aft : Array Edge} (hm : (j, key, val) ∈ K) (hne : j ≠ i0 ∧ j ≠ im) (hdep : ∃ o, ops[j]? = some o ∧ i0 ∈ depsOf o) (hkey : in64 key) (hy : Typ C.I Γ y (V val)) : ZCls P C ops i0 im d0 d1 t K j F Γ ⟨none, .insert t (.tmp d0) (.const (.int .i64 key)) y, ty, pos, aft, none⟩
theorem ZCls.more {K K' : List (Nat × Int × α)} {j : Nat} {F : VP} {Γ : Env} {o : Oper} (h : ZCls P C ops i0 im d0 d1 t K j F Γ o) (hs : ∀ e, e ∈ K → e ∈ K') (hn : ∀ e, e ∈ K' → e ∈ K ∨ j < e.1) : ZCls P C ops i0 im d0 d1 t K' j F Γ o := by
  cases h with
  | op hd hne hK hT => exact .op hd hne (fun e he => (hn e he).elim (hK e) (fun h => by omega)) hT
  | mk hj hF => exact .mk hj hF
  | mv hj hF hdep => exact .mv hj hF hdep
  | ins hm hne hdep hkey hy => exact .ins (hs _ hm) hne hdep hkey hy
theorem DZ.facts {n : Nat} (h : DZ P C ops Γ0 i0 im d0 d1 t n Γ K) : (∀ e, e ∈ K → e.1 < n) ∧ (∀ e e', e ∈ K → e' ∈ K → e.2.1 = e'.2.1 → e = e') ∧ (∀ e, e ∈ K → e.1 ≠ i0 ∧ e.1 ≠ im) ∧ (∀ e e', e ∈ K → e' ∈ K → e.1 = e'.1 → e = e') ∧
    ∃ (F : Nat → VP) (G : Nat → Env), G 0 = Γ0 ∧ G n = Γ ∧ ∀ j, j < n → ∃ o, ops[j]? = some o ∧ G (j + 1) = nextEnv o (F j) (G j) ∧ ZCls P C ops i0 im d0 d1 t K j (F j) (G j) o := by
  have ext : ∀ {i : Nat} {Γ Γ' : Env} {K K' : List (Nat × Int × α)} {o : Oper} {F0 : VP}, (∃ (F : Nat → VP) (G : Nat → Env), G 0 = Γ0 ∧ G i = Γ ∧ ∀ j, j < i → ∃ o, ops[j]? = some o ∧ G (j + 1) = nextEnv o (F j) (G j) ∧ ZCls P C ops i0 im d0 d1 t K j (F j) (G j) o) →
      ops[i]? = some o → Γ' = nextEnv o F0 Γ → ZCls P C ops i0 im d0 d1 t K' i F0 Γ o → (∀ e, e ∈ K → e ∈ K') → (∀ j, j < i → ∀ e, e ∈ K' → e ∈ K ∨ j < e.1) →
      ∃ (F : Nat → VP) (G : Nat → Env), G 0 = Γ0 ∧ G (i + 1) = Γ' ∧ ∀ j, j < i + 1 → ∃ o, ops[j]? = some o ∧ G (j + 1) = nextEnv o (F j) (G j) ∧ ZCls P C ops i0 im d0 d1 t K' j (F j) (G j) o := by
    rintro i Γ Γ' K K' o F0 ⟨F, G, g0, gn, hj⟩ ho hΓ hc hs hn
    refine ⟨fun j => if j = i then F0 else F j, fun j => if j = i + 1 then Γ' else G j, by simp [g0], by simp, fun j hjn => ?_⟩
    by_cases e : j = i
    · subst e
      exact ⟨o, ho, by simp [gn, hΓ], by simpa [gn] using hc⟩
    · obtain ⟨o', h1, h2, h3⟩ := hj j (by omega)
      have e1 : j ≠ i + 1 := by omega
      have e2 : ¬ j + 1 = i + 1 := by omega
      exact ⟨o', h1, by simpa [e, e1, e2] using h2, by simpa [e, e1] using h3.more hs (hn j (by omega))⟩
  induction h with
  | nil => exact ⟨(fun e he => by cases he), (fun e e' he => by cases he), (fun e he => by cases he), (fun e e' he => by cases he), (fun _ => VP.any), (fun _ => Γ0), rfl, rfl, fun j hj => by omega⟩
  | op h ho hd hne hT ih =>
    obtain ⟨a1, a2, a3, a5, a4⟩ := ih
    exact ⟨(fun e he => by have := a1 e he; omega), a2, a3, a5, ext a4 ho (by simp [nextEnv, hd]) (.op hd hne (fun e he h => by have := a1 e he; omega) hT) (fun _ h => h) (fun _ _ _ h => .inl h)⟩
  | mk h ho ih =>
    obtain ⟨a1, a2, a3, a5, a4⟩ := ih
    exact ⟨(fun e he => by have := a1 e he; omega), a2, a3, a5, ext a4 ho rfl (.mk rfl rfl) (fun _ h => h) (fun _ _ _ h => .inl h)⟩
  | mv h ho hdep ih =>
    obtain ⟨a1, a2, a3, a5, a4⟩ := ih
    exact ⟨(fun e he => by have := a1 e he; omega), a2, a3, a5, ext a4 ho rfl (.mv rfl rfl hdep) (fun _ h => h) (fun _ _ _ h => .inl h)⟩
  | @ins i Γ K key val y ty pos aft h ho hne hdep hkey hnew hlt hy ih =>
    obtain ⟨a1, a2, a3, a5, a4⟩ := ih
    refine ⟨fun e he => ?_, fun e e' he he' hk => ?_, fun e he => ?_, fun e e' he he' hk => ?_, ext (F0 := .any) a4 ho rfl (.ins (by simp) hne hdep hkey hy) (fun e he => List.mem_append_left _ he) (fun j hj e he => ?_)⟩
    · rcases List.mem_append.1 he with he | he
      · have := a1 e he; omega
      · simp at he; subst he; simp
    · rcases List.mem_append.1 he with he | he <;> rcases List.mem_append.1 he' with he' | he'
      · exact a2 e e' he he' hk
      · simp at he'; subst he'; exact absurd hk (hnew e he)
      · simp at he; subst he; exact absurd hk.symm (hnew e' he')
      · simp at he he'; rw [he, he']
    · rcases List.mem_append.1 he with he | he
      · exact a3 e he
      · simp at he; subst he; exact hne
    · rcases List.mem_append.1 he with he | he <;> rcases List.mem_append.1 he' with he' | he'
      · exact a5 e e' he he' hk
      · simp at he'; subst he'; have := hlt e he; dsimp only at hk; omega
      · simp at he; subst he; have := hlt e' he'; dsimp only at hk; omega
      · simp at he he'; rw [he, he']
    · rcases List.mem_append.1 he with he | he
      · exact .inl he
      · simp at he; subst he; exact .inr hj
theorem St.put0 {Δ : List Own} {m : View} {a : Act} {w : World} (st : St C [] Δ m a w) (d : Option Tmp) (v : Value) : St C [] Δ m (a.put d v) w :=
  { st with size := (size_put _ _ _).trans st.size, defers := (defers_put _ _ _).trans st.defers, env := fun t p hp => by simp [Env.get] at hp }
/-- the map, as far as it is -/
def ZMap (C : Cx) (Δ0 : List Own) (i0 im d0 d1 : Nat) {α : Type} [Rep α] (K : List (Nat × Int × α)) (L : Nat → Bool) (m : View) (a : Act) (w : World) : Prop :=
  (L i0 = false ∧ L im = false ∧ (∀ e, e ∈ K → L e.1 = false) ∧ St C [] Δ0 m a w) ∨
  (L i0 = true ∧ ∃ (b : Nat) (kvs : List (Int × α)), St C [] (Δ0 ++ [Own.map b kvs]) m a w ∧ a.tmps.getD d0 undef = .map (some b) ∧ (L im = true → a.tmps.getD d1 undef = .map (some b)) ∧ ∀ p, p ∈ kvs ↔ ∃ e, e ∈ K ∧ L e.1 = true ∧ e.2 = p)
theorem SC.drawMap (k : Nat) (hm : P.follows .mixedOrders = true) (hc : dcheck ops k [] = true) (hN : dstBelow ops C.N = true) (hd01 : d0 ≠ d1 ∧ d0 < C.N ∧ d1 < C.N) (h0m : i0 < k ∧ im < k ∧ i0 ≠ im) (ht : P.underlying t = some (.map k0 e0)) {q : IntKind} (hk : P.underlying k0 = some (.int q))
    (hT : DZ P C ops Γ0 i0 im d0 d1 t k Γ K)
    (tail : ∀ b kvs, (∀ key, mget kvs key = mget (K.map (·.2)) key) → SL P C ((d1, .eq (.map (some b))) :: Γ) (Δ0 ++ [Own.map b kvs]) ops (ops.toList.drop k) ks) : SC P C Γ0 Δ0 (.region id ops true) ks := by
  obtain ⟨b1, b2, b3, b4, F, G, g0, gk, hj⟩ := hT.facts
  refine SC.drawZ k hm hc hN F G g0 (fun j => decide (j = i0) || decide (j = im) || K.any fun e => decide (e.1 = j)) (ZMap C Δ0 i0 im d0 d1 K) ?_ ?_ ?_ ?_
  · rintro L m a w (⟨_, _, _, st⟩ | ⟨_, b, kvs, st, _⟩)
    · exact ⟨_, st⟩
    · exact ⟨_, st⟩
  · intro m a w st
    exact .inl ⟨rfl, rfl, fun _ _ => rfl, st⟩
  · intro j hjk
    obtain ⟨o, ho, hG, hcl⟩ := hj j hjk
    refine ⟨o, ho, hG, fun hs => ?_, fun hs => ?_⟩
    · simp only [Bool.or_eq_false_iff, decide_eq_false_iff_not, List.any_eq_false, decide_eq_true_eq] at hs
      obtain ⟨⟨s1, s2⟩, s3⟩ := hs
      cases hcl with
      | mk hj hF => exact absurd hj s1
      | mv hj hF hdep => exact absurd hj s2
      | ins hm hne hdep hkey hy => exact absurd rfl (s3 _ hm)
      | @op _ d hd hne hK hT =>
        refine ⟨hT, fun L m a w m' w' v hz g => ?_⟩
        have hL0 : (decide (i0 = j) || L i0) = L i0 := by simp [Ne.symm s1]
        have hLm : (decide (im = j) || L im) = L im := by simp [Ne.symm s2]
        have hLe : ∀ e, e ∈ K → (decide (e.1 = j) || L e.1) = L e.1 := fun e he => by simp [hK e he]
        rw [hd]
        rcases hz with ⟨z1, z2, z3, st⟩ | ⟨z1, b, kvs, st, z4, z5, z6⟩
        · exact .inl ⟨hL0.trans z1, hLm.trans z2, fun e he => (hLe e he).trans (z3 e he), (st.grow g).put0 _ _⟩
        · refine .inr ⟨hL0.trans z1, b, kvs, (st.grow g).put0 _ _, by rw [getD_put_ne (Ne.symm hne.1.1)]; exact z4, fun h => by rw [getD_put_ne (Ne.symm hne.1.2)]; exact z5 (hLm.symm.trans h), fun p => ?_⟩
          rw [z6 p]
          exact ⟨fun ⟨e, h1, h2, h3⟩ => ⟨e, h1, (hLe e h1).trans h2, h3⟩, fun ⟨e, h1, h2, h3⟩ => ⟨e, h1, (hLe e h1).symm.trans h2, h3⟩⟩
    · intro L m a w Q KK hdeps hLj hz hlook hk2
      cases hcl with
      | op hd hne hK hT =>
        exfalso
        simp only [Bool.or_eq_true, decide_eq_true_eq, List.any_eq_true] at hs
        rcases hs with (h | h) | ⟨e, h1, h2⟩
        · exact hne.2.1 h
        · exact hne.2.2 h
        · exact hK e h1 h2
      | @mk ty pos aft hj hF =>
        subst hj
        rw [if_pos (by simp [Region.wanted])]
        rcases hz with ⟨z1, z2, z3, st⟩ | ⟨z1, _⟩
        · have hrun : (execOp a.eval ⟨some d0, .makeMap t none, ty, pos, aft, none⟩).run P w = .ok (.value (.map (some w.heap.size))) (w.alloc (.map #[] 0)) := by
            simp [execOp, Instr.makeMap]
          unfold Oper.wp
          rw [hrun]
          have st2 := st.own (o' := .map #[] 0) (o := Own.map w.heap.size ([] : List (Int × α))) ⟨rfl, #[], 0, trivial, heap_alloc_at _ _⟩
          refine hk2 _ m _ (View.le_refl m) (fun _ => by rw [hF]; exact ⟨_, rfl⟩) (.inr ⟨by simp, w.heap.size, [], st2.put0 _ _, getD_put_same (by rw [st.size]; exact hd01.2.1), fun h => ?_, fun p => ?_⟩)
          · have : im ≠ j := Ne.symm h0m.2.2
            simp [this, z2] at h
          · constructor
            · intro h; cases h
            · rintro ⟨e, h1, h2, _⟩
              have : e.1 ≠ j := (b3 e h1).1
              have h2 : (decide (e.1 = j) || L e.1) = true := h2
              rw [z3 e h1] at h2
              simp [this] at h2
        · rw [hLj] at z1; cases z1
      | @mv ty pos aft hj hF hdep =>
        subst hj
        rw [if_pos (by simp [Region.wanted])]
        have hL0 : L i0 = true := by
          obtain ⟨o', ho', hd'⟩ := hdep
          rw [ho] at ho'; cases ho'
          exact hdeps _ hd'
        rcases hz with ⟨z1, _⟩ | ⟨z1, b, kvs, st, z4, z5, z6⟩
        · rw [hL0] at z1; cases z1
        · have hrun : (execOp a.eval ⟨some d1, .move (.tmp d0), ty, pos, aft, none⟩).run P w = .ok (.value (.map (some b))) w := by
            simp [execOp, Act.eval, z4]
          unfold Oper.wp
          rw [hrun]
          refine hk2 _ m w (View.le_refl m) (fun _ => by rw [hF]; exact ⟨_, rfl⟩) (.inr ⟨by simp [z1], b, kvs, st.put0 _ _, by rw [getD_put_ne hd01.1]; exact z4, fun _ => getD_put_same (by rw [st.size]; exact hd01.2.2), fun p => ?_⟩)
          rw [z6 p]
          have hLe : ∀ e, e ∈ K → (decide (e.1 = j) || L e.1) = L e.1 := fun e he => by simp [(b3 e he).2]
          exact ⟨fun ⟨e, h1, h2, h3⟩ => ⟨e, h1, (hLe e h1).trans h2, h3⟩, fun ⟨e, h1, h2, h3⟩ => ⟨e, h1, (hLe e h1).symm.trans h2, h3⟩⟩
      | @ins key val y ty pos aft hmem hne hdep hkey hy =>
        rw [if_pos (by simp [Region.wanted])]
        have hL0 : L i0 = true := by
          obtain ⟨o', ho', hd'⟩ := hdep
          rw [ho] at ho'; cases ho'
          exact hdeps _ hd'
        rcases hz with ⟨z1, _⟩ | ⟨z1, b, kvs, st, z4, z5, z6⟩
        · rw [hL0] at z1; cases z1
        · have hi : (Δ0 ++ [Own.map b kvs])[Δ0.length]? = some (Own.map b kvs) := by simp
          have hlk : Look (G j) m a (.insert t (.tmp d0) (.const (.int .i64 key)) y) := Look.ofAt hlook
          have ez := hy.at st.glob hlk (by simp [Op.operands])
          obtain ⟨bs, ⟨_, es, clock, h1, h2⟩, _⟩ := st.held.at hi
          have hnone : mget kvs key = none := mget_none fun p hp e => by
            obtain ⟨x, hx1, hx2, rfl⟩ := (z6 p).1 hp
            have := b2 x _ hx1 hmem e
            subst this
            rw [hLj] at hx2; cases hx2
          have hfind := h1.find (q := q) (k := key) 0
          rw [hnone] at hfind
          have ex : a.eval (.tmp d0) = .map (some b) := z4
          have ey : a.eval (.const (.int .i64 key)) = .int .i64 key := rfl
          have hrun : (execOp a.eval ⟨none, .insert t (.tmp d0) (.const (.int .i64 key)) y, ty, pos, aft, none⟩).run P w = .ok .skip (w.putObj b (.map (es.push { key := .int .i64 key, val := a.eval y, born := clock }) (clock + 1))) := by
            simp [execOp, ex, ey, Instr.mapUpdate, run_underlying ht, run_getObj_map h2, run_checkKey hk, Instr.findKey, run_underlying hk, hfind, run_setObj_map _ h2]
          unfold Oper.wp
          rw [hrun]
          have st2 := st.putOwn hi (fun bs h => h.1) (.map (es.push { key := .int .i64 key, val := a.eval y, born := clock }) (clock + 1)) (o' := Own.map b (kvs ++ [(key, val)])) (fun hlt => ⟨rfl, _, _, by rw [Array.toList_push]; exact MapL.snoc rfl ez h1, World.putObj_heap_same hlt⟩)
          have hset : (Δ0 ++ [Own.map b kvs]).set Δ0.length (Own.map b (kvs ++ [(key, val)])) = Δ0 ++ [Own.map b (kvs ++ [(key, val)])] := by simp
          rw [hset] at st2
          refine hk2 undef m _ (View.le_refl m) (fun h => absurd rfl h) (.inr ⟨by simp [z1], b, kvs ++ [(key, val)], st2.put0 none undef, z4, fun h => z5 (by simpa [Ne.symm hne.2] using h), fun p => ?_⟩)
          rw [List.mem_append, z6 p]
          constructor
          · rintro (⟨e, e1, e2, e3⟩ | h)
            · exact ⟨e, e1, (by show (decide (e.1 = j) || L e.1) = true; rw [e2]; simp), e3⟩
            · simp at h; subst h
              exact ⟨_, hmem, by simp, rfl⟩
          · rintro ⟨e, e1, e2, e3⟩
            by_cases ej : e.1 = j
            · right
              have hu : e = (j, key, val) := b4 e _ e1 hmem ej
              rw [hu] at e3
              simp [← e3]
            · left
              have e2 : (decide (e.1 = j) || L e.1) = true := e2
              exact ⟨e, e1, by simpa [ej] using e2, e3⟩
  · intro L m a w hall hz hG
    rcases hz with ⟨z1, _⟩ | ⟨z1, b, kvs, st, z4, z5, z6⟩
    · rw [hall i0 h0m.1] at z1; cases z1
    · have hs : ∀ p, p ∈ kvs ↔ p ∈ K.map (·.2) := fun p => by
        rw [z6 p]
        constructor
        · rintro ⟨e, e1, _, e3⟩
          exact List.mem_map.2 ⟨e, e1, e3⟩
        · intro h
          obtain ⟨e, e1, e3⟩ := List.mem_map.1 h
          exact ⟨e, e1, hall _ (b1 e e1), e3⟩
      refine tail b kvs (fun key => mget_same hs fun p q hp hq e => ?_) m a w (st.env' ?_)
      · obtain ⟨x, hx, rfl⟩ := List.mem_map.1 ((hs p).1 hp)
        obtain ⟨y, hy, rfl⟩ := List.mem_map.1 ((hs q).1 hq)
        rw [b2 x y hx hy e]
      · rw [gk] at hG
        exact holds_cons (p := .eq (.map (some b))) (z5 (hall im h0m.2.1)) hG
end
end Go.Inn
