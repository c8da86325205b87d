/- The law LineNumbers, for every input: the row's statement, out of the walk and this logic's reading of the arguments; then the tied card. Conditions: the listed tables stand as the program's text lays them (the card ties them). By a program (row.py) of this session. -/
import Derived.Test.YtgcaeaajpainmaaDoorCards
import Derived.Test.YtgcaeaajpainmaaDoorTie
import Derived.Test.YtgcaeaajpainmaaDoorS
import Derived.Test.YtgcaeaajpainmaaDoorV18
import Derived.KernelRfl
set_option linter.all false
namespace Go.Proofs.YtgcaeaajpainmaaDoor.lawLineNumbers
open Go Go.RowKit Go.Inn Go.ChangeShapes Go.WideShapes Go.ChangeAt
set_option maxRecDepth 100000 in
theorem lifted (os : Os) (started : os.Started) (H : Type) (enc : TypeId × Value → H) :
    ReturnsInHanded {} Tryd.checked os 4 .any (fun w args => (Rows.lineNumbersSpec.pre enc Tryd.prog Tryd.f4 [] false w args ∧ laidMetH Tryd.prog Rows.lineNumbersRow.laid w) ∧ sizedMet enc Tryd.prog Tryd.f4 (OpenSpec.ofChange Rows.lineNumbersSpec) false w args)
      (Rows.lineNumbersSpec.post enc Tryd.prog Tryd.f4 false true false false) := by
  refine returnsInHanded_of_change_and (C := Tryd.checked) (X := fun w _ => laidMetH Tryd.prog Rows.lineNumbersRow.laid w) (fun _ _ _ hh h => h.of_heap hh) own started (by kernel_rfl) Tryd.func4
    (ChangeSpec.witness_shaped (enc := enc) (C := Tryd.checked) (os := os) (X := fun w _ => laidMetH Tryd.prog Rows.lineNumbersRow.laid w) false (World.laidAll Tryd.prog os Rows.lineNumbersRow.laid) #[.int .u32 0, .int .u32 0] 12 (World.laidAll_os _ _ _)
      (World.shaped_of_ZipB (by kernel_rfl) (by kernel_rfl)) (by kernel_rfl) (by kernel_rfl) (by kernel_rfl)
      (by rw [MakeChecks.laidMetH_plain _ _ _ (by kernel_rfl)]; exact laidMet_laidAll _ (by kernel_rfl) (by kernel_rfl))) ?_
  intro W base args ds gs before hval0 hW _ hsz0 hL _
  have hval : ∀ (j : Nat) t v, Tryd.f4.params[j]? = some t → args[j]? = some v → Value.okWide Tryd.prog W .any base t v := hval0
  have hsz : (DataW.weightsEach Tryd.prog (Tryd.f4.params.toList ++ Rows.lineNumbersSpec.plain.varTypes Tryd.prog) (ds ++ gs)).all (· ≤ reachBytes) = true := hsz0
  have hW' := hW
  obtain ⟨p, q, hA0, hV, rfl, hfz, hnd⟩ := hW
  have hA : DataW.TrodAll enc Tryd.prog W 0 (fun _ => true) true Tryd.f4.params.toList args.toList ds p := hA0
  rw [Tryd.params4] at hA hval hsz
  obtain ⟨v0, vs0, d0, ds0, p0, q0, hargs, rfl, rfl, h0, r0⟩ := trodAll_cons hA
  obtain ⟨v1, vs1, d1, ds1, p1, q1, rfl, rfl, rfl, h1, r1⟩ := trodAll_cons r0
  obtain ⟨rfl, rfl, rfl⟩ := trodAll_nil r1
  obtain rfl : args = #[v0, v1] := by cases args; simp_all
  obtain ⟨rfl, rfl⟩ := trodVars_none hV
  have lt0 : ∀ x ∈ p0, x.block < W.heap.size := by obtain ⟨m, hm⟩ := h0; exact DataW.trod_lt m _ _ _ hm
  obtain ⟨a0, ha0, hs0⟩ := opn_37.arg h0 (ok_cell Tryd.underlying37 rfl (hval 0 37 v0 rfl rfl))
  have s0 : Small.sm a0 := hs0 fun z hz => by
    have := List.all_eq_true.1 hsz z (DataW.weights_mem_each (j := 0) (t := 37) rfl rfl z hz)
    exact Nat.le_trans (of_decide_eq_true this) (by decide)
  have lt1 : ∀ x ∈ p1, x.block < W.heap.size := by obtain ⟨m, hm⟩ := h1; exact DataW.trod_lt m _ _ _ hm
  obtain ⟨a1, ha1, hs1⟩ := opn_37.arg h1 (ok_cell Tryd.underlying37 rfl (hval 1 37 v1 rfl rfl))
  have s1 : Small.sm a1 := hs1 fun z hz => by
    have := List.all_eq_true.1 hsz z (DataW.weights_mem_each (j := 1) (t := 37) rfl rfl z hz)
    exact Nat.le_trans (of_decide_eq_true this) (by decide)
  have hL' : laidMet Tryd.prog Rows.lineNumbersRow.laid W := by rw [← MakeChecks.laidMetH_plain _ _ _ (by kernel_rfl)]; exact hL
  have hI : glob.on (full W) := glob_full hL' (.tail _ (.tail _ (.tail _ (.tail _ (.head _))))) (.tail _ (.tail _ (.tail _ (.tail _ (.tail _ (.head _)))))) (.tail _ (.tail _ (.head _))) (.tail _ (.tail _ (.tail _ (.tail _ (.tail _ (.tail _ (.tail _ (.head _)))))))) (.tail _ (.tail _ (.tail _ (.tail _ (.tail _ (.tail _ (.head _)))))))
  refine (s_innkeeplaw04_LineNumbers a0 a1  (full W) W [v0, v1] (full_fits W) hI ⟨ha0, ha1, trivial⟩).mono ?_
  rintro e W' ⟨v, m', rfl, hg, hr⟩
  obtain rfl := V_bool hr
  have bel := hg.below
  exact ⟨_, rfl, _, _, _, [], _, [], hW', trodAll_mk1 (shut_bool Tryd.underlying4 _), (trodAll_cons_mk (Below.trod laidOut (by kernel_rfl) (of_decide_eq_true (by kernel_rfl)) h0 bel lt0) (trodAll_cons_mk (Below.trod laidOut (by kernel_rfl) (of_decide_eq_true (by kernel_rfl)) h1 bel lt1) trodAll_mk0)), rfl, bel.frame _, fun h => by cases h⟩
theorem over : Rows.lineNumbersRow.holds Tryd.pinned (OpenSpec.ofChange Rows.lineNumbersSpec) :=
  OpenClaim.holds_of_wide 4 Tryd.f4 rfl rfl rfl rfl rfl rfl rfl ⟨rfl, rfl, rfl, rfl, rfl⟩ rfl rfl rfl rfl rfl (by kernel_rfl) Tryd.func4 (by kernel_rfl)
    (of_decide_eq_true (by kernel_rfl)) (by unfold Func.isWrapper; first | (rw [if_pos (by decide +kernel)]; kernel_rfl) | (rw [if_neg (by decide +kernel)]; exact ⟨rfl, rfl⟩))
    (fun os started H enc _ => lifted os started H enc)
theorem proved : Rows.LineNumbersCardSaid :=
  Claim7.holds_tied_plain_at .later [] [.data, .data, .data, .data, .widerDeep, .widerDeep, .sentinel, .sentinel, .pinned] true (true, "b3b5a0748f5addbdb6767f81a0cc2f35543eb39b5b981156bf9da8ee7caf94fe") true over (fun _ h => by cases h) (by kernel_rfl) (fun _ h => by cases h) lineNumbers_row_tie rfl ⟨rfl, rfl⟩ (by kernel_rfl) rfl
    (fun f fn hf hfn => by
      obtain rfl : f = 4 := Option.some.inj ((show Tryd.prog.funcNamed "innkeep/innkeeplaw04.LineNumbers" = some 4 by kernel_rfl).symm.trans hf) |>.symm
      obtain rfl : fn = Tryd.f4 := (Option.some.inj (Tryd.func4.symm.trans hfn)).symm
      exact ⟨by kernel_rfl, fun j t ht => by
        rw [Tryd.params4] at ht
        have hm : t ∈ [37, 37] := by simpa using Array.mem_of_getElem? ht
        have hall : ([37, 37].all fun u => !Tryd.prog.wantsStandIn u) = true := by kernel_rfl
        exact (show Tryd.prog.wantsStandIn t = false by simpa using List.all_eq_true.1 hall t hm)⟩)
    (by kernel_rfl)
#print axioms proved
end Go.Proofs.YtgcaeaajpainmaaDoor.lawLineNumbers
