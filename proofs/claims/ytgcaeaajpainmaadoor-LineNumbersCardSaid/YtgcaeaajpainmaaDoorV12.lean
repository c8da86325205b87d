/- The document's own answer of layer 4: a line's command. -/
import Derived.Test.YtgcaeaajpainmaaDoorV11
set_option linter.all false

namespace Go.Proofs.YtgcaeaajpainmaaDoor
open Go Go.RowKit Go.Inn
set_option linter.unusedSimpArgs false
set_option linter.unusedVariables false
set_option maxRecDepth 100000
def coins : Str := [99, 111, 105, 110, 115]
/-- numbers, up to the word coins -/
def scanR : List Str → List Int × Nat
  | [] => ([], 0)
  | w :: r => if w = coins then ([], 0) else ((numR w).1 :: (scanR r).1, (scanR r).2 + 1)
structure ScanInv (ws : List Str) (a i : Nat) (acc : List Int) : Prop where
  le : a ≤ i
  up : i ≤ ws.length ∨ i = a
  len : acc.length = i - a
  eq : scanR (ws.drop a) = (acc ++ (scanR (ws.drop i)).1, i - a + (scanR (ws.drop i)).2)
theorem ScanInv.zero (ws : List Str) (a : Nat) : ScanInv ws a a [] := ⟨Nat.le_refl _, .inr rfl, by simp, by simp⟩
theorem ScanInv.step {ws : List Str} {a i : Nat} {acc : List Int} (h : ScanInv ws a i acc) (k : (i : Int) < ws.length ∧ ¬ nth ws (i : Int) = coins) : ScanInv ws a (i + 1) (acc ++ [atR ws (i : Int)]) := by
  obtain ⟨h1, h2, h3, h4⟩ := h
  refine ⟨by omega, by omega, by simp; omega, ?_⟩
  have e : atR ws (i : Int) = (numR (nth ws (i : Int))).1 := by unfold atR; rw [if_neg (by omega)]
  rw [h4, drop_nth k.1, e]
  have e2 : scanR (nth ws (i : Int) :: ws.drop (i + 1)) = ((numR (nth ws (i : Int))).1 :: (scanR (ws.drop (i + 1))).1, (scanR (ws.drop (i + 1))).2 + 1) := by rw [scanR, if_neg k.2]
  rw [e2]
  simp; omega
theorem ScanInv.done {ws : List Str} {a i : Nat} {acc : List Int} (h : ScanInv ws a i acc) (k : ¬ (i : Int) < ws.length ∨ nth ws (i : Int) = coins) : scanR (ws.drop a) = (acc, i - a) := by
  obtain ⟨h1, h2, h3, h4⟩ := h
  have e : scanR (ws.drop i) = ([], 0) := by
    by_cases hi : (i : Int) < ws.length
    · rcases k with k | k
      · exact absurd hi k
      · rw [drop_nth hi, k, scanR, if_pos rfl]
    · rw [List.drop_of_length_le (by omega)]; rfl
  rw [h4, e]; simp
def tradeR (k : Int) (ws : List Str) : Cmd :=
  { kind := k, who := atR ws 1, gives := (scanR (ws.drop 3)).1, pay := atR ws (((3 + (scanR (ws.drop 3)).2 : Nat) : Int) + 1), wants := (scanR (ws.drop (3 + (scanR (ws.drop 3)).2 + 3))).1, fee := atR ws (((3 + (scanR (ws.drop 3)).2 + 3 + (scanR (ws.drop (3 + (scanR (ws.drop 3)).2 + 3))).2 : Nat) : Int) + 1) }
/-- what ref04.Get takes out of the words -/
def fillR (k : Int) (ws : List Str) : Cmd :=
  if k = 1 then (if 1 < (ws.length : Int) then { kind := k, dir := (dirOf (nth ws 1)).1 } else { kind := k })
  else if k = 2 then (if 2 < (ws.length : Int) then { kind := k, who := atR ws 1, dir := (dirOf (nth ws 2)).1 } else { kind := k, who := atR ws 1 })
  else if k = 3 ∨ k = 4 then { kind := k, item := atR ws 1 }
  else if k = 5 ∨ k = 6 then { kind := k, item := atR ws 1, box := atR ws 3 }
  else if k = 7 then { kind := k, item := atR ws 1, who := atR ws 3 }
  else if k = 8 then tradeR k ws else { kind := k }
theorem trade_is {k : Int} {ws : List Str} {i j : Nat} {g w : List Int} (h1 : scanR (ws.drop 3) = (g, i - 3)) (hi : 3 ≤ i) (h2 : scanR (ws.drop (i + 3)) = (w, j - (i + 3))) (hj : i + 3 ≤ j) :
    (((((({ kind := k } : Cmd).s_who (atR ws 1)).s_gives g).s_pay (atR ws ((i : Int) + 1))).s_wants w).s_fee (atR ws ((j : Int) + 1))) = tradeR k ws := by
  unfold tradeR
  have e1 : 3 + (scanR (ws.drop 3)).2 = i := by rw [h1]; simp; omega
  rw [e1]
  have e2 : i + 3 + (scanR (ws.drop (i + 3))).2 = j := by rw [h2]; simp; omega
  rw [e2, h1, h2]
  rfl
/-- ref04.Get -/
def getR (s : Str) : Cmd × Int :=
  if words s = [] then ({}, 2) else
    if mayR (fillR (kindOf (nth (words s) 0)).1 (words s)) = true ∧ wordsR (fillR (kindOf (nth (words s) 0)).1 (words s)) = words s then (fillR (kindOf (nth (words s) 0)).1 (words s), 0) else ({}, 2)
theorem getR_nil {s : Str} (h : ((words s).length : Int) = 0) : getR s = ({}, 2) := by unfold getR; rw [if_pos (len0 h)]
theorem getR_no {s : Str} (h : ¬ ((words s).length : Int) = 0) (k : mayR (fillR (kindOf (nth (words s) 0)).1 (words s)) = false ∨ ¬ wordsR (fillR (kindOf (nth (words s) 0)).1 (words s)) = words s) : getR s = ({}, 2) := by
  unfold getR
  rw [if_neg (len0' h), if_neg]
  rintro ⟨a, b⟩
  rcases k with k | k
  · rw [a] at k; cases k
  · exact k b
theorem getR_ok {s : Str} (h : ¬ ((words s).length : Int) = 0) (k : mayR (fillR (kindOf (nth (words s) 0)).1 (words s)) = true ∧ wordsR (fillR (kindOf (nth (words s) 0)).1 (words s)) = words s) : getR s = (fillR (kindOf (nth (words s) 0)).1 (words s), 0) := by
  unfold getR
  rw [if_neg (len0' h), if_pos k]
end Go.Proofs.YtgcaeaajpainmaaDoor
