/- The law LineKinds, for every input: the row's statement, out of the walk and this logic's reading of the arguments; then the tied card. Conditions: the listed tables stand as the program's text lays them (the card ties them). By a program (row.py) of this session. -/
import Derived.Test.YtgnblhmejecgfaaGreatDoorCards
import Derived.Test.YtgnblhmejecgfaaGreatDoorTie
import Derived.Test.YtgnblhmejecgfaaGreatDoorS
import Derived.Test.YtgnblhmejecgfaaGreatDoorV19
import Derived.KernelRfl
set_option linter.all false
namespace Go.Proofs.YtgnblhmejecgfaaGreatDoor.lawLineKinds
open Go Go.RowKit Go.Inn Go.ChangeShapes Go.WideShapes Go.ChangeAt
set_option maxRecDepth 100000 in
theorem lifted (os : Os) (started : os.Started) (H : Type) (enc : TypeId × Value → H) :
    ReturnsInHanded {} Tryz.checked os 9 .any (fun w args => (Rows.lineKindsSpec.pre enc Tryz.prog Tryz.f9 [] false w args ∧ laidMetH Tryz.prog Rows.lineKindsRow.laid w) ∧ sizedMet enc Tryz.prog Tryz.f9 (OpenSpec.ofChange Rows.lineKindsSpec) false w args)
      (Rows.lineKindsSpec.post enc Tryz.prog Tryz.f9 false true false false) := by
  refine returnsInHanded_of_change_and (C := Tryz.checked) (X := fun w _ => laidMetH Tryz.prog Rows.lineKindsRow.laid w) (fun _ _ _ hh h => h.of_heap hh) own started (by kernel_rfl) Tryz.func9
    (ChangeSpec.witness_shaped (enc := enc) (C := Tryz.checked) (os := os) (X := fun w _ => laidMetH Tryz.prog Rows.lineKindsRow.laid w) false (World.laidAll Tryz.prog os Rows.lineKindsRow.laid) #[.agg #[.int .i64 0, .int .i64 0, .int .i64 0, .int .i64 0, .int .i64 0, .slice none 0 0, .int .i64 0, .slice none 0 0, .int .i64 0], .int .u8 0] 12 (World.laidAll_os _ _ _)
      (World.shaped_of_ZipB (by kernel_rfl) (by kernel_rfl)) (by kernel_rfl) (by kernel_rfl) (by kernel_rfl)
      (by rw [MakeChecks.laidMetH_plain _ _ _ (by kernel_rfl)]; exact laidMet_laidAll _ (by kernel_rfl) (by kernel_rfl))) ?_
  intro W base args ds gs before hval0 hW _ hsz0 hL _
  have hval : ∀ (j : Nat) t v, Tryz.f9.params[j]? = some t → args[j]? = some v → Value.okWide Tryz.prog W .any base t v := hval0
  have hsz : (DataW.weightsEach Tryz.prog (Tryz.f9.params.toList ++ Rows.lineKindsSpec.plain.varTypes Tryz.prog) (ds ++ gs)).all (· ≤ reachBytes) = true := hsz0
  have hW' := hW
  obtain ⟨p, q, hA0, hV, rfl, hfz, hnd⟩ := hW
  have hA : DataW.TrodAll enc Tryz.prog W 0 (fun _ => true) true Tryz.f9.params.toList args.toList ds p := hA0
  rw [Tryz.params9] at hA hval hsz
  obtain ⟨v0, vs0, d0, ds0, p0, q0, hargs, rfl, rfl, h0, r0⟩ := trodAll_cons hA
  obtain ⟨v1, vs1, d1, ds1, p1, q1, rfl, rfl, rfl, h1, r1⟩ := trodAll_cons r0
  obtain ⟨rfl, rfl, rfl⟩ := trodAll_nil r1
  obtain rfl : args = #[v0, v1] := by cases args; simp_all
  obtain ⟨rfl, rfl⟩ := trodVars_none hV
  have lt0 : ∀ x ∈ p0, x.block < W.heap.size := by obtain ⟨m, hm⟩ := h0; exact DataW.trod_lt m _ _ _ hm
  obtain ⟨a0, ha0, hs0⟩ := opn_29.arg h0 (ok_agg Tryz.underlying29 (hval 0 29 v0 rfl rfl))
  have s0 : Small.sm a0 := hs0 fun z hz => by
    have := List.all_eq_true.1 hsz z (DataW.weights_mem_each (j := 0) (t := 29) rfl rfl z hz)
    exact Nat.le_trans (of_decide_eq_true this) (by decide)
  have lt1 : ∀ x ∈ p1, x.block < W.heap.size := by obtain ⟨m, hm⟩ := h1; exact DataW.trod_lt m _ _ _ hm
  obtain ⟨a1, ha1, hs1⟩ := opn_5.arg h1 (ok_cell Tryz.underlying5 rfl (hval 1 5 v1 rfl rfl))
  have s1 : Small.sm a1 := hs1 fun z hz => by
    have := List.all_eq_true.1 hsz z (DataW.weights_mem_each (j := 1) (t := 5) rfl rfl z hz)
    exact Nat.le_trans (of_decide_eq_true this) (by decide)
  have hL' : laidMet Tryz.prog Rows.lineKindsRow.laid W := by rw [← MakeChecks.laidMetH_plain _ _ _ (by kernel_rfl)]; exact hL
  have hI : glob.on (full W) := glob_full hL' (.tail _ (.tail _ (.tail _ (.tail _ (.head _))))) (.tail _ (.tail _ (.tail _ (.tail _ (.tail _ (.head _)))))) (.tail _ (.tail _ (.head _))) (.tail _ (.tail _ (.tail _ (.tail _ (.tail _ (.tail _ (.tail _ (.head _)))))))) (.tail _ (.tail _ (.tail _ (.tail _ (.tail _ (.tail _ (.head _)))))))
  refine (s_innkeeplaw04_LineKinds a0 a1  (full W) W [v0, v1] (full_fits W) hI ⟨ha0, ha1, trivial⟩).mono ?_
  rintro e W' ⟨v, m', rfl, hg, hr⟩
  obtain rfl := V_bool hr
  have bel := hg.below
  exact ⟨_, rfl, _, _, _, [], _, [], hW', trodAll_mk1 (shut_bool Tryz.underlying4 _), (trodAll_cons_mk (Below.trod laidOut (by kernel_rfl) (of_decide_eq_true (by kernel_rfl)) h0 bel lt0) (trodAll_cons_mk (Below.trod laidOut (by kernel_rfl) (of_decide_eq_true (by kernel_rfl)) h1 bel lt1) trodAll_mk0)), rfl, bel.frame _, fun h => by cases h⟩
theorem over : Rows.lineKindsRow.holds Tryz.pinned (OpenSpec.ofChange Rows.lineKindsSpec) :=
  OpenClaim.holds_of_wide 9 Tryz.f9 rfl rfl rfl rfl rfl rfl rfl ⟨rfl, rfl, rfl, rfl, rfl⟩ rfl rfl rfl rfl rfl (by kernel_rfl) Tryz.func9 (by kernel_rfl)
    (of_decide_eq_true (by kernel_rfl)) (by unfold Func.isWrapper; first | (rw [if_pos (by decide +kernel)]; kernel_rfl) | (rw [if_neg (by decide +kernel)]; exact ⟨rfl, rfl⟩))
    (fun os started H enc _ => lifted os started H enc)
theorem proved : Rows.LineKindsCardSaid :=
  Claim7.holds_tied_plain_at .later [] [.data, .data, .data, .data, .widerDeep, .widerDeep, .sentinel, .sentinel, .pinned] true (true, "e8f079dfcbd4b6c9f03ffaa2a789cf89204bbfe7176151def592f8a0f67b55bb") true over (fun _ h => by cases h) (by kernel_rfl) (fun _ h => by cases h) lineKinds_row_tie rfl ⟨rfl, rfl⟩ (by kernel_rfl) rfl
    (fun f fn hf hfn => by
      obtain rfl : f = 9 := Option.some.inj ((show Tryz.prog.funcNamed "innkeep/innkeeplaw04.LineKinds" = some 9 by kernel_rfl).symm.trans hf) |>.symm
      obtain rfl : fn = Tryz.f9 := (Option.some.inj (Tryz.func9.symm.trans hfn)).symm
      exact ⟨by kernel_rfl, fun j t ht => by
        rw [Tryz.params9] at ht
        have hm : t ∈ [29, 5] := by simpa using Array.mem_of_getElem? ht
        have hall : ([29, 5].all fun u => !Tryz.prog.wantsStandIn u) = true := by kernel_rfl
        exact (show Tryz.prog.wantsStandIn t = false by simpa using List.all_eq_true.1 hall t hm)⟩)
    (by kernel_rfl)
#print axioms proved
end Go.Proofs.YtgnblhmejecgfaaGreatDoor.lawLineKinds
