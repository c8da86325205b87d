/- token.Cut: a line as words: the library's iterator (which keeps what is left in a box of its own), and the loop over it. -/
import Derived.RangeFuncBox
import Derived.RangeFuncLeaves
import Derived.RangeFuncCalls
import Derived.RangeFuncNested
import Derived.WalkKit
import Derived.OwnWalkIn
import Derived.TacticsInMore
import Derived.LoopNIn
import Derived.LoopIn
import Derived.Maps.AppendAt
import Derived.Test.YtgnblhmejecgfaaGreatDoorL
set_option linter.all false
namespace Go.Proofs.YtgnblhmejecgfaaGreatDoor
open Go Go.RowKit Go.Shelf Go.Inn
attribute [local go_sem] Oper.semAt_some

/-- what is left in the iterator's box, as a length -/
def leftOf (b : Nat) (W : World) : Nat := match W.cell? ⟨b, 0, none⟩ with
  | some (.string s) => s.size
  | _ => 0

theorem idx32 : ∀ r : Str, (Lib.indexByte r 32 = -1 ∧ pieces r = [r]) ∨ ∃ i : Nat, Lib.indexByte r 32 = (i : Int) ∧ i < r.length ∧ pieces r = r.take i :: pieces (r.drop (i + 1))
  | [] => .inl ⟨rfl, rfl⟩
  | b :: r => by
    by_cases e : b = 32
    · subst e
      exact .inr ⟨0, by simp [Lib.indexByte], by simp, by simp [pieces]⟩
    · rcases idx32 r with ⟨h1, h2⟩ | ⟨i, h1, h2, h3⟩
      · exact .inl ⟨by simp [Lib.indexByte, e, h1], by simp [pieces, e, h2]⟩
      · refine .inr ⟨i + 1, ?_, by simp; omega, ?_⟩
        · have : ¬ ((i : Int) = -1) := by omega
          simp [Lib.indexByte, e, h1, this]
        · simp [pieces, e, h3]
theorem pieces_pos : ∀ r : Str, 0 < (pieces r).length
  | [] => by simp [pieces]
  | b :: r => by
    unfold pieces
    split
    · simp
    · split <;> simp
theorem pieces_len : ∀ r : Str, (pieces r).length ≤ r.length + 1
  | [] => by simp [pieces]
  | b :: r => by
    have := pieces_len r
    unfold pieces
    split
    · simp; omega
    · split
      · next h => rw [h] at this; simp at this ⊢; omega
      · simp
theorem left_eq {b : Nat} {W : World} {r : Str} (h : Boxed W b 9 (.string (ba r))) : leftOf b W = r.length := by
  unfold leftOf; rw [h.cell]; rfl
set_option maxRecDepth 100000 in
set_option maxHeartbeats 1000000 in
theorem split_in (n : Nat) (l b1 b2 b3 : Nat) (s : Str) (J : List Str → Str → World → Prop)
    (h1 : ∀ pre r W, J pre r W → W.cell? ⟨b1, 0, none⟩ = some (.string ⟨#[32]⟩)) (h2 : ∀ pre r W, J pre r W → Boxed W b2 9 (.string (ba r))) (h3 : ∀ pre r W, J pre r W → W.cell? ⟨b3, 0, none⟩ = some (.int .i64 0))
    (hset : ∀ pre r r' W, r'.length ≤ s.length → J pre r W → J pre r' (W.setCell ⟨b2, 0, none⟩ (.string (ba r'))))
    (hY : ∀ pre r x W, pre.length < (pieces s).length → J pre r W → YieldAt Fence.wide (n - 1) Tryz.prog l #[.string (ba x)] W fun e W' => e = .returned (.bool true) ∧ J (pre ++ [x]) r W')
    (hs : s.length < 9223372036854775807) (hlen : ∀ pre r W, J pre r W → r.length ≤ s.length) (W : World) (h0 : J [] s W) :
    CallsIn Fence.wide n Tryz.prog 124 #[.func (.yield l) #[] #[], .pointer (some ⟨b1, 0, none⟩), .pointer (some ⟨b2, 0, none⟩), .pointer (some ⟨b3, 0, none⟩)] W fun e W' => (∃ v, e = .returned v) ∧ ∃ r, J (pieces s) r W' := by
  refine callsIn_of_wp Tryz.func124 rfl trivial ?_ rfl
  simp only [Tryz.ntmps124, List.size_toArray, List.length_cons, List.length_nil, Nat.reduceAdd, Nat.reduceSub, Array.replicate_succ, Array.replicate_zero, List.push_toArray, List.append_toArray, List.nil_append, List.cons_append]
  have q1 := h1 _ _ _ h0
  have q2 := (h2 _ _ _ h0).cell
  gi_wp2
  gi_loopw [7, 8] (fun _ _ wr => ∃ pre r, pieces s = pre ++ pieces r ∧ J pre r wr) (fun _ _ wr => leftOf b2 wr)
  case atStart => exact ⟨[], s, rfl, h0⟩
  case round =>
    obtain ⟨pre, r, hps, hJ⟩ := hrel
    have c1 := h1 _ _ _ hJ
    have c2 := (h2 _ _ _ hJ).cell
    have c2f := (h2 _ _ _ hJ).frozen
    have c3 := h3 _ _ _ hJ
    have hpl : pre.length < (pieces s).length := by
      have := pieces_pos r
      rw [hps, List.length_append]; omega
    have hR := fun x => hY pre r x wr hpl hJ
    have hlen1 : r.length ≤ s.length := hlen _ _ _ hJ
    have hlen : r.length < 9223372036854775807 := by omega
    rcases idx32 r with ⟨hi, hpr⟩ | ⟨i, hi, hlt, hpr⟩
    · obtain ⟨fn, tmps, assign, body, hy, hRo⟩ := hR r
      have hcall : ∀ W, CallsIn Fence.wide (n - 1) Tryz.prog 126 #[.string (ba r), .string ⟨#[32]⟩] W fun e w' => e = .returned (.int .i64 (-1)) ∧ w' = W := fun W => by
        have := (callsIn_wide (n := n - 1)).2 (Tryz.strings_Index_one (ba r) 32 W)
        rw [ba_list, hi] at this
        exact this
      gi_wp2_with (refine ⟨trivial, (fun h => by cases h), ?_⟩; gi_at_call 126; refine (hcall _).mono ?_; rintro e w' ⟨rfl, rfl⟩)
      refine ⟨(fun h => by cases h), hRo.mono ?_⟩
      rintro e W3 ⟨rfl, hJ3⟩
      gi_wp2
      go_end0
      exact ⟨⟨_, rfl⟩, r, by rw [hps, hpr]; exact hJ3⟩
    · obtain ⟨fn, tmps, assign, body, hy, hRo⟩ := hR (r.take i)
      have hcall : ∀ W, CallsIn Fence.wide (n - 1) Tryz.prog 126 #[.string (ba r), .string ⟨#[32]⟩] W fun e w' => e = .returned (.int .i64 (i : Int)) ∧ w' = W := fun W => by
        have := (callsIn_wide (n := n - 1)).2 (Tryz.strings_Index_one (ba r) 32 W)
        rw [ba_list, hi] at this
        exact this
      have hi0 : wrap64 (i : Int) = (i : Int) := IntWalk.wrap64_in _ (by omega)
      have hsz : (ba r).size = r.length := rfl
      have ex : ba (r.take i) = (ba r).extract 0 i := by apply ByteArray.ext; simp [ba]
      rw [ex] at hy
      gi_wp2_with (refine ⟨trivial, (fun h => by cases h), ?_⟩; gi_at_call 126; refine (hcall _).mono ?_; rintro e w' ⟨rfl, rfl⟩)
      refine ⟨(fun h => by cases h), hRo.mono ?_⟩
      rintro e W3 ⟨rfl, hJ3⟩
      have d1 := h1 _ _ _ hJ3
      have d2 := (h2 _ _ _ hJ3).cell
      have d2f := (h2 _ _ _ hJ3).frozen
      have d3 := h3 _ _ _ hJ3
      have hi1 : wrap64 ((i : Int) + 1) = (i : Int) + 1 := IntWalk.wrap64_in _ (by omega)
      clear c1 c2 c2f c3 hR hy hRo hcall
      gi_wp2
      have ed : (ba r).extract (i + 1) r.length = ba (r.drop (i + 1)) := by
        apply ByteArray.ext
        simp [ba]
        rw [List.take_of_length_le (by simp)]
      rw [ed]
      have hdl : (r.drop (i + 1)).length ≤ s.length := by rw [List.length_drop]; omega
      have hb := h2 _ _ _ (hset _ _ (r.drop (i + 1)) _ hdl hJ3)
      refine ⟨⟨pre ++ [r.take i], r.drop (i + 1), by rw [hps, hpr]; simp, hset _ _ _ _ hdl hJ3⟩, ?_⟩
      rw [left_eq hb, left_eq (h2 _ _ _ hJ)]
      simp; omega

/-- a loop over such an iterator, whose rounds all go on -/
theorem range_box {P : Program} {n : Nat} {g : Operand} {p : Tmp} {assign body : Code} {Q : Exit → Act → World → Prop} {a : Act} {w : World} {gf : Nat} {lb : Array Value} (hg : a.eval g = .func (.func gf) #[] lb)
    (eg : ∀ args w, (callFunc gf args).run P w = .ok (.enter gf args) w) {b2 : Nat} (hb2 : b2 < w.heap.size) (s : Str) (I : List Str → Str → World → Prop)
    (hIp : ∀ pre r W k o o', w.heap.size ≤ k → W.heap[k]? = some o → o.isCells = false → I pre r W → I pre r (W.putObj k o')) (hIa : ∀ pre r W o, I pre r W → I pre r (W.alloc o))
    (hset : ∀ pre r r' W, r'.length ≤ s.length → I pre r W → I pre r' (W.setCell ⟨b2, 0, none⟩ (.string (ba r'))))
    (hseq : ∀ (l : Nat) (J : List Str → Str → World → Prop) (W : World), (∀ pre r W, J pre r W → I pre r W) → (∀ pre r r' W, r'.length ≤ s.length → J pre r W → J pre r' (W.setCell ⟨b2, 0, none⟩ (.string (ba r')))) →
      (∀ pre r x W, pre.length < (pieces s).length → J pre r W → YieldAt Fence.wide (n - 1 - 1) P l #[.string (ba x)] W fun e W' => e = .returned (.bool true) ∧ J (pre ++ [x]) r W') → J [] s W →
      CallsIn Fence.wide (n - 1) P gf (#[.func (.yield l) #[] #[]] ++ lb) W fun e W' => (∃ v, e = .returned v) ∧ ∃ r, J (pieces s) r W')
    (h0 : I [] s w) (a₁ : Str → Act)
    (hassign : ∀ (l : Nat) (x : Str) (W : World) (K : Act → World → Prop), K (a₁ x) W → assign.wpIn (Fence.wide.inRound l) (n - 1 - 1) P (Exit.then K (fun _ _ _ => False)) { tmps := (#[p].zip #[Value.string (ba x)]).foldl (fun t (p, v) => t.setIfInBounds p v) a.tmps, defers := [] } W)
    (hbody : ∀ (l : Nat) (pre : List Str) (r x : Str) (W : World), pre.length < (pieces s).length → I pre r W → body.wpIn (Fence.wide.inRound l) (n - 1 - 1) P (fun e _ W' => e = .normal ∧ KeepsOthers W W' ∧ I (pre ++ [x]) r W') (a₁ x) W)
    (hdone : ∀ (D : Nat) (r : Str) (W : World), w.heap.size ≤ D → I (pieces s) r W → W.heap[D]? = some (.deferred (some [])) → Q .normal { a with defers := { target := .collected D, args := #[] } :: a.defers } W) :
    (Code.rangeFunc g #[p] assign body).wpIn Fence.wide n P Q a w := by
  refine wpIn_rangeFunc ?_
  intro fn hfn
  obtain ⟨rec, hrec⟩ : ∃ rec : LoopState → Option Code → Loop, rec = fun st pe => { state := st, pending := pe, fn, tmps := a.tmps, params := #[p], assign, body, defers := w.heap.size } := ⟨_, rfl⟩
  obtain ⟨W1, hW1⟩ : ∃ W1, (w.alloc (.deferred (some []))).alloc (.loop (rec .ready none)) = W1 := ⟨_, rfl⟩
  have hL1 : W1.heap[w.heap.size + 1]? = some (.loop (rec .ready none)) := by
    rw [← hW1]; have := World.alloc_heap_new (w.alloc (.deferred (some []))) (.loop (rec .ready none)); rwa [World.size_alloc] at this
  have hK1 : W1.heap[w.heap.size]? = some (.deferred (some [])) := by
    rw [← hW1]; exact (Below.heap_alloc _ _ _ (by simp)).trans (World.alloc_heap_new w _)
  have hI1 : I [] s W1 := by rw [← hW1]; exact hIa _ _ _ _ (hIa _ _ _ _ h0)
  refine ⟨w.heap.size + 1, [{ target := .collected w.heap.size, args := #[] }], W1, { target := .fn (.func gf) lb, args := #[.func (.yield (w.heap.size + 1)) #[] #[]] }, W1, gf,
    #[.func (.yield (w.heap.size + 1)) #[] #[]] ++ lb, W1, ?_, ?_, ?_, ?_, (fun h => by cases h), ?_⟩
  · rw [← hW1, hrec]; exact run_enterLoop_outer _ _ _ _ _
  · simp only [resolve, hg]
    simp [go_sem]
  · intro f' hf'; exact trivial
  · simp [invoke, go_sem, eg]
  · refine (hseq (w.heap.size + 1) (fun pre r W => I pre r W ∧ W.heap[w.heap.size + 1]? = some (.loop (rec .ready none)) ∧ W.heap[w.heap.size]? = some (.deferred (some []))) W1
      (fun _ _ _ h => h.1) (fun pre r r' W hr h => ⟨hset _ _ _ _ hr h.1, (Below.heap_setCell W _ _ _ (by show _ ≠ b2; omega)).trans h.2.1, (Below.heap_setCell W _ _ _ (by show _ ≠ b2; omega)).trans h.2.2⟩) ?_ ⟨hI1, hL1, hK1⟩).mono ?_
    · rintro pre r x W hpl ⟨hi, hl, hk⟩
      have hlt : w.heap.size + 1 < W.heap.size := (Array.getElem?_eq_some_iff.1 hl).1
      have hy := run_yield (P := P) (args := #[.string (ba x)]) hl (by rw [hrec]; rfl)
      rw [hrec] at hy
      refine ⟨fn, _, assign, body, hy, roundIn_of_wpIn hfn (hassign _ x W _ ?_)⟩
      refine ⟨_, run_beginRound hl (by rw [hrec]), ?_⟩
      have hl2 : (W.putObj (w.heap.size + 1) (.loop { rec .ready none with state := .busy })).heap[w.heap.size + 1]? = some (.loop { rec .ready none with state := .busy }) := World.putObj_heap_same hlt
      have hk2 : (W.putObj (w.heap.size + 1) (.loop { rec .ready none with state := .busy })).heap[w.heap.size]? = some (.deferred (some [])) := (World.putObj_heap_other (by omega)).trans hk
      refine wpIn_mono (hbody _ pre r x _ hpl (hIp _ _ _ _ _ _ (by omega) hl rfl hi)) ?_
      rintro e a3 W3 ⟨rfl, hk3, hi3⟩
      have hl3 := hk3.same _ _ hl2 rfl
      have hr := run_endRound (P := P) none hl3
      rw [hrec] at hr hl3
      refine ⟨_, _, hr, ?_⟩
      refine ⟨rfl, hIp _ _ _ _ _ _ (by omega) hl3 rfl hi3, ?_, ?_⟩
      · rw [hrec]; exact World.putObj_heap_same (Array.getElem?_eq_some_iff.1 hl3).1
      · exact (World.putObj_heap_other (by omega)).trans (hk3.same _ _ hk2 rfl)
    · rintro e W2 ⟨⟨v, rfl⟩, r, hi, hl, hk⟩
      exact ⟨none, _, by have := run_endLoop (P := P) hl (by rw [hrec]; simp); rw [hrec] at this; exact this, hdone _ r _ (Nat.le_refl _) (hIp _ _ _ _ _ _ (by omega) hl rfl hi) ((World.putObj_heap_other (by omega)).trans hk)⟩

theorem pieces_le : ∀ {s x : Str}, x ∈ pieces s → x.length ≤ s.length
  | [], x, h => by simp [pieces] at h; simp [h]
  | b :: r, x, h => by
    unfold pieces at h
    split at h
    · simp only [List.mem_cons] at h
      rcases h with rfl | h
      · simp
      · have := pieces_le h; simp; omega
    · split at h
      · next w ws hw =>
        simp only [List.mem_cons] at h
        rcases h with rfl | h
        · have := pieces_le (s := r) (x := w) (by rw [hw]; simp); simp; omega
        · have := pieces_le (s := r) (x := x) (by rw [hw]; simp [h]); simp; omega
      · simp at h; subst h; simp
theorem words_le {s x : Str} (h : x ∈ words s) : x.length ≤ s.length := pieces_le (List.mem_filter.1 h).1
/-- the library's iterator over a line: three boxes, and a function that has them -/
def seqEnd (s : Str) (w : World) (e : Ending) (w' : World) : Prop :=
  e = .returned (.func (.func 124) #[] #[.pointer (some ⟨w.heap.size + 1, 0, none⟩), .pointer (some ⟨w.heap.size, 0, none⟩), .pointer (some ⟨w.heap.size + 2, 0, none⟩)]) ∧
    w' = ((w.alloc (.cells #[.string (ba s)] 9)).alloc (.cells #[.string ⟨#[32]⟩] 9)).alloc (.cells #[.int .i64 0] 3)
theorem seq0_in (n : Nat) (s : Str) (w : World) : CallsIn Fence.wide n Tryz.prog 113 #[.string (ba s), .string ⟨#[32]⟩, .int .i64 0] w (seqEnd s w) := by
  refine callsIn_of_wp Tryz.func113 rfl trivial ?_ rfl
  simp only [Tryz.ntmps113, List.size_toArray, List.length_cons, List.length_nil, Nat.reduceAdd, Nat.reduceSub, Array.replicate_succ, Array.replicate_zero, List.push_toArray, List.append_toArray, List.nil_append, List.cons_append]
  gi_wp2
  go_ret
  exact ⟨rfl, rfl⟩
theorem seq_in (n : Nat) (s : Str) (w : World) : CallsIn Fence.wide n Tryz.prog 88 #[.string (ba s), .string ⟨#[32]⟩] w (seqEnd s w) := by
  refine callsIn_of_wp Tryz.func88 rfl trivial ?_ rfl
  simp only [Tryz.ntmps88, List.size_toArray, List.length_cons, List.length_nil, Nat.reduceAdd, Nat.reduceSub, Array.replicate_succ, Array.replicate_zero, List.push_toArray, List.append_toArray, List.nil_append, List.cons_append]
  gi_wp2_with (refine ⟨trivial, (fun h => by cases h), ?_⟩; gi_at_call 113; refine (seq0_in _ _ _).mono ?_; rintro e w' ⟨rfl, rfl⟩)
  go_ret
  exact ⟨rfl, rfl⟩

theorem info9 : (Tryz.prog.info? 9).map (fun i => (i.zero, i.size, i.bytes)) = some (some (.string ⟨#[]⟩), 1, 16) := by kernel_rfl
def kw (l : List Str) : List Str := l.filter (· ≠ [])
theorem kw_len (l : List Str) : (kw l).length ≤ l.length := List.length_filter_le _ _
/-- between two rounds -/
structure CutI (w : World) (s : Str) (pre : List Str) (r : Str) (W : World) : Prop where
  out : ∃ v, Boxed W w.heap.size 22 v ∧ W.ownsRow (w.heap.size + 4) 9 1 v (kw pre).length ((kw pre).map fun x => .string (ba x))
  b1 : Boxed W (w.heap.size + 2) 9 (.string ⟨#[32]⟩)
  b2 : Boxed W (w.heap.size + 1) 9 (.string (ba r))
  b3 : Boxed W (w.heap.size + 3) 3 (.int .i64 0)
  len : r.length ≤ s.length
  below : Below w.heap.size w W
theorem CutI.kept {w : World} {s : Str} {pre : List Str} {r : Str} {W W' : World} {row : Option Nat} (h : CutI w s pre r W) (hg : W.grownBy W' row) (hr : ∀ k, row = some k → w.heap.size ≤ k ∧ ∃ o : Obj, W.heap[k]? = some o ∧ o.isCells = false) : CutI w s pre r W' := by
  have hne : ∀ {B t v}, Boxed W B t v → some B ≠ row := fun {B t v} hb e => by
    obtain ⟨_, o, ho, hc⟩ := hr B e.symm
    rw [show W.heap[B]? = _ from hb] at ho; cases ho; cases hc
  obtain ⟨v, hv, hrow⟩ := h.out
  refine ⟨⟨v, hv.kept hg (hne hv), hrow.kept hg ?_⟩, h.b1.kept hg (hne h.b1), h.b2.kept hg (hne h.b2), h.b3.kept hg (hne h.b3), h.len, h.below.grown hg h.below.size (fun k e => (hr k e).1)⟩
  rcases hrow.2 with ⟨rfl, _⟩ | ⟨g, cap, cur, rfl, _, hgb, _⟩
  · exact .inl rfl
  · exact .inr (fun e => by
      obtain ⟨_, o, ho, hc⟩ := hr g (by simpa [Value.ownBlock] using e.symm)
      rw [hgb] at ho; cases ho; cases hc)
theorem CutI.set {w : World} {s : Str} {pre : List Str} {r r' : Str} {W : World} (h : CutI w s pre r W) (hr : r'.length ≤ s.length) : CutI w s pre r' (W.setCell ⟨w.heap.size + 1, 0, none⟩ (.string (ba r'))) := by
  obtain ⟨v, hv, hrow⟩ := h.out
  have hg := grownBy_setCell' W (w.heap.size + 1) (.string (ba r'))
  refine ⟨⟨v, hv.other (by omega) _, hrow.kept hg ?_⟩, h.b1.other (by omega) _, h.b2.set _, h.b3.other (by omega) _, hr, h.below.setCell (p := ⟨w.heap.size + 1, 0, none⟩) (by simp) _⟩
  rcases hrow.2 with ⟨rfl, _⟩ | ⟨g, cap, cur, rfl, hbg, hgb, _⟩
  · exact .inl rfl
  · refine .inr (fun e => ?_)
    have : g = w.heap.size + 1 := by simpa [Value.ownBlock] using e
    omega
theorem row_low {W : World} {a b : Nat} {e : TypeId} {size : Nat} {v : Value} {k : Nat} {xs : List Value} (h : W.ownsRow b e size v k xs) (hab : a ≤ b) : W.ownsRow a e size v k xs := by
  obtain ⟨h1, h2⟩ := h
  refine ⟨h1, ?_⟩
  rcases h2 with h2 | ⟨g, cap, cur, hv, hb, r⟩
  · exact .inl h2
  · exact .inr ⟨g, cap, cur, hv, by omega, r⟩
theorem row_ne {W : World} {b B : Nat} {e : TypeId} {size : Nat} {v : Value} {k : Nat} {xs : List Value} (h : W.ownsRow b e size v k xs) (hB : B < b) : some B ≠ v.ownBlock := by
  rcases h.2 with ⟨rfl, _⟩ | ⟨g, cap, cur, rfl, hb, _⟩
  · simp [Value.ownBlock]
  · intro e'
    have : B = g := by simpa [Value.ownBlock] using e'
    omega
set_option maxRecDepth 100000 in
set_option maxHeartbeats 2000000 in
theorem cut_in (n : Nat) (s : Str) (hs : s.length ≤ 1000000000000) (w : World) :
    CallsIn Fence.wide n Tryz.prog 55 #[.string (ba s)] w fun e W' => ∃ v, e = .returned v ∧ W'.ownsRow w.heap.size 9 1 v (words s).length ((words s).map fun x => .string (ba x)) ∧ Below w.heap.size w W' := by
  obtain ⟨i0, hi, hz0, hz1, hz2⟩ := info_parts info9
  refine callsIn_of_wp_marks Tryz.func55 rfl trivial ?_ rfl
  simp only [Tryz.ntmps55, List.size_toArray, List.length_cons, List.length_nil, Nat.reduceAdd, Nat.reduceSub, Array.replicate_succ, Array.replicate_zero, List.push_toArray, List.append_toArray, List.nil_append, List.cons_append]
  gi_wp2_with (refine ⟨trivial, (fun h => by cases h), ?_⟩; gi_at_call 88; refine (seq_in _ _ _).mono ?_; rintro e w' ⟨rfl, rfl⟩)
  have e1 : w.heap.size + 1 + 1 = w.heap.size + 2 := rfl
  have e2 : w.heap.size + 1 + 2 = w.heap.size + 3 := rfl
  obtain ⟨w1, hw1⟩ : ∃ w1, (((w.alloc (.cells #[.slice none 0 0] 22)).alloc (.cells #[.string (ba s)] 9)).alloc (.cells #[.string ⟨#[32]⟩] 9)).alloc (.cells #[.int .i64 0] 3) = w1 := ⟨_, rfl⟩
  have z1 : (w.alloc (.cells #[.slice none 0 0] 22)).heap.size = w.heap.size + 1 := size_alloc_at _ _
  have z2 : ((w.alloc (.cells #[.slice none 0 0] 22)).alloc (.cells #[.string (ba s)] 9)).heap.size = w.heap.size + 2 := by rw [size_alloc_at, z1]
  have z3 : (((w.alloc (.cells #[.slice none 0 0] 22)).alloc (.cells #[.string (ba s)] 9)).alloc (.cells #[.string ⟨#[32]⟩] 9)).heap.size = w.heap.size + 3 := by rw [size_alloc_at, z2]
  have z4 : w1.heap.size = w.heap.size + 4 := by rw [← hw1, size_alloc_at, z3]
  have hI0 : CutI w s [] s w1 := by
    have q0 := Boxed.new w 22 (.slice none 0 0)
    have q1 := Boxed.new (w.alloc (.cells #[.slice none 0 0] 22)) 9 (.string (ba s))
    have q2 := Boxed.new ((w.alloc (.cells #[.slice none 0 0] 22)).alloc (.cells #[.string (ba s)] 9)) 9 (.string ⟨#[32]⟩)
    have q3 := Boxed.new (((w.alloc (.cells #[.slice none 0 0] 22)).alloc (.cells #[.string (ba s)] 9)).alloc (.cells #[.string ⟨#[32]⟩] 9)) 3 (.int .i64 0)
    rw [z1] at q1
    rw [z2] at q2
    rw [z3] at q3
    rw [← hw1]
    exact ⟨⟨_, ((q0.alloc _).alloc _).alloc _, World.ownsRow_nil _ _ _ _⟩, q2.alloc _, (q1.alloc _).alloc _, q3, Nat.le_refl _,
      ((((Below.refl _ w).alloc (Nat.le_refl _) _).alloc (by simp) _).alloc (by simp; omega) _).alloc (by simp; omega) _⟩
  rw [hw1]
  refine range_box (gf := 124) (lb := #[.pointer (some ⟨w.heap.size + 2, 0, none⟩), .pointer (some ⟨w.heap.size + 1, 0, none⟩), .pointer (some ⟨w.heap.size + 3, 0, none⟩)]) rfl (enters_of Tryz.func124 (by kernel_rfl) rfl)
    (b2 := w.heap.size + 1) (by omega) s (CutI w s)
    (fun pre r W k o o' hk ho hc h => h.kept (grownBy_putObj' W k o') (fun j e => by cases e; exact ⟨by omega, o, ho, hc⟩))
    (fun pre r W o h => h.kept (World.grownBy_alloc W o none) (fun j e => by cases e))
    (fun pre r r' W hr h => h.set hr)
    (fun l J W hJ hset hY h0 => split_in (n - 1) l (w.heap.size + 2) (w.heap.size + 1) (w.heap.size + 3) s J (fun pre r W h => (hJ _ _ _ h).b1.cell) (fun pre r W h => (hJ _ _ _ h).b2) (fun pre r W h => (hJ _ _ _ h).b3.cell) hset hY (by omega) (fun pre r W h => (hJ _ _ _ h).len) W h0)
    hI0
    (fun x => { tmps := #[.string (ba s), undef, .slice none 0 0, .pointer (some ⟨w.heap.size, 0, none⟩), .string (ba x), .string (ba s), .func (.func 124) #[] #[.pointer (some ⟨w.heap.size + 2, 0, none⟩), .pointer (some ⟨w.heap.size + 1, 0, none⟩), .pointer (some ⟨w.heap.size + 3, 0, none⟩)], .string (ba x), undef, undef, undef, undef, undef, undef, undef], defers := [] }) ?assign ?body ?done
  case assign =>
    intro l x W K hK
    gi_wp2
    exact hK
  case body =>
    rintro l pre r x W hpl h
    obtain ⟨v, hv, hrow⟩ := h.out
    have hc := hv.cell
    have hpl2 := pieces_len s
    have hkl := kw_len pre
    have hB := h.below
    gi_wp2_with (gi_at_builtin; refine wpListIn_append_own _ rfl _ _ 22 rfl (w.heap.size + 4) 9 i0 (.string ⟨#[]⟩) 1 16 Tryz.underlying22 hi hz0 hz1 hz2 rfl (by decide) _ _ _ rfl (hrow.alloc _) ⟨W.heap.size, 0, none⟩ 1 1 [.string (ba x)] rfl rfl (cell_one_new _ _ _) (by simp [Value.oneCell']) (by unfold maxLen; omega) (by omega) (by have := h.b3.lt; simp; omega) ?_; intro v' w2 hown' hgrow _; obtain ⟨g', cap', rfl⟩ := ownsRow_succ hown'; obtain ⟨hv1, hv2, hr2, hk2, hb2⟩ := hv.appended (by decide) (row_low hrow (Nat.le_add_right _ 4)) hB.size (Nat.le_refl _) (row_low hown' (Nat.le_add_right _ 4)) hgrow; have hr3 := hown'.kept (grownBy_setCell' w2 w.heap.size (.slice (some ⟨g', 0, none⟩) ((kw pre).length + 1) cap')) (.inr (hv1.not_row (by decide) hown').symm); have hc1 := hv1.cell; have hf1 := hv1.frozen)
    · have hx : x ≠ [] := by
        rintro rfl
        have : (ba []).toList = [] := by rw [ByteArray.toList_eq]; rfl
        simp_all
      have ek : kw (pre ++ [x]) = kw pre ++ [x] := by simp [kw, hx]
      have keep : ∀ {B t u}, Boxed W B t u → B ≠ w.heap.size → B < w.heap.size + 4 → Boxed (w2.setCell ⟨w.heap.size, 0, none⟩ (.slice (some ⟨g', 0, none⟩) ((kw pre).length + 1) cap')) B t u := fun {B t u} hb h1 h2 =>
        Boxed.other ((hb.alloc (.cells #[.string (ba x)] 9)).kept hgrow (row_ne hrow h2)) h1 _
      exact ⟨⟨_, hv2, by rw [ek]; simpa using hr3⟩, keep h.b1 (by omega) (by omega), keep h.b2 (by omega) (by omega), keep h.b3 (by omega) (by omega), h.len, h.below.trans hb2⟩
    · have hx : x = [] := by
        have e0 : (ba x).toList = x := by rw [ByteArray.toList_eq]; rfl
        simp_all
      have ek : kw (pre ++ [x]) = kw pre := by simp [kw, hx]
      exact ⟨KeepsOthers.refl _, ⟨v, hv, by rw [ek]; exact hrow⟩, h.b1, h.b2, h.b3, h.len, h.below⟩
  case done =>
    rintro D r W hD h hK
    obtain ⟨v, hv, hrow⟩ := h.out
    have hc := hv.cell
    gi_wp2
    refine ⟨by simp, .inl ⟨_, _, rfl, run_takeDeferred hK, ?_⟩⟩
    exact ⟨_, results_tmp rfl _ _ _, v, rfl, row_low (ownsRow_putObj hrow _ hK rfl) (Nat.le_add_right _ 4), h.below.trans (belowK_b (w := w) (Nat.le_refl _) W D _ _ (by omega) hK rfl rfl)⟩
theorem s_token_Cut (s : Str) (hs : s.length ≤ 1000000000000) : FnSpec Tryz.prog glob 55 [V s] (V (words s)) := by
  intro m w args hf hI ha
  match args, ha with
  | [v], ⟨hv, _⟩ =>
    obtain ⟨rfl, _⟩ := V_str hv
    refine (callsIn_wide.1 (cut_in 1 s hs w)).mono ?_
    rintro e W' ⟨v, rfl, hrow, hb⟩
    have g1 := Grow.of_below hf hb
    rcases hrow.2 with ⟨rfl, hn⟩ | ⟨g, cap, cur, rfl, hg0, hg, hnc, hcm, hsz, htake⟩
    · have hx : words s = [] := List.eq_nil_of_length_eq_zero hn
      rw [hx]
      exact ⟨_, m, rfl, g1, _, ⟨none, 0, rfl, Nat.le_refl _, Nat.zero_le _, .inl rfl⟩, rfl⟩
    · have hmg : m g = none := View.fits_none hf hg0
      have hc : arrCells m (words s) ((words s).map fun x => Value.string (ba x)) := by
        have key : ∀ l : List Str, (∀ x, x ∈ l → x.length ≤ maxLen) → arrCells m l (l.map fun x => Value.string (ba x)) := by
          intro l
          induction l with
          | nil => intro _; rfl
          | cons x xs ih => intro h; exact ⟨[_], _, rfl, ⟨rfl, h x (by simp)⟩, ih (fun y hy => h y (by simp [hy]))⟩
        exact key _ (fun x hx => Nat.le_trans (words_le hx) (by unfold maxLen; omega))
      refine ⟨_, m.add g (.cells cur 9 (0, 0)), rfl, ⟨View.le_add hmg, fits_add g1.fits hg, hb, fun k hk => View.add_ne m _ (by omega)⟩, _, ⟨some ⟨g, 0, none⟩, cap, rfl, hnc, hcm, RowAt.block (View.add_at _ _ _) (arrCells_up (View.le_add hmg) hc) (fun j hj => ?_)⟩, rfl⟩
      rw [← htake, List.getElem?_take, if_pos (by have := arrCells_len hc; simp at hj ⊢; exact hj)]; simp
end Go.Proofs.YtgnblhmejecgfaaGreatDoor
