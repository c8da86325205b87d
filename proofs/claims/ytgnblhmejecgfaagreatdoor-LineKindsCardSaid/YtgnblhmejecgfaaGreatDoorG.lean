/- What holds of the seat's tables whenever a law is called: the view tells them. -/
import Derived.Test.YtgnblhmejecgfaaGreatDoorF
import Derived.Test.YtgnblhmejecgfaaGreatDoorK9
import Derived.Test.YtgnblhmejecgfaaGreatDoorSh
set_option linter.all false
namespace Go.Inn
open Go Go.RowKit
section
variable {P : Program} {C : Cx} {Γ : Env} {Δ : List Own} {ks : List KI}
theorem SC.learnInt {t : Nat} {x : Int} {c : Code} (h : Γ.get t = some (V x)) (k : -9223372036854775808 ≤ x ∧ x ≤ 9223372036854775807 → SC P C Γ Δ c ks) : SC P C Γ Δ c ks :=
  fun m a w st => k (V_int (st.env t _ h)).2 m a w st
theorem SC.learnList {t : Nat} {α : Type} [Rep α] {x : List α} {c : Code} (h : Γ.get t = some (V x)) (k : x.length ≤ 9223372036854775807 → SC P C Γ Δ c ks) : SC P C Γ Δ c ks :=
  fun m a w st => k (by obtain ⟨A, cap, _, h1, h2, _⟩ := V_list (st.env t _ h); unfold maxLen at h2; omega) m a w st
theorem SC.learnStr {t : Nat} {x : Str} {c : Code} (h : Γ.get t = some (V x)) (k : x.length ≤ 9223372036854775807 → SC P C Γ Δ c ks) : SC P C Γ Δ c ks :=
  fun m a w st => k (by have := (V_str (st.env t _ h)).2; unfold maxLen at this; omega) m a w st
theorem SR.publishRow {t : Nat} {v : Value} {e : TypeId} {α : Type} [Rep α] {xs : List α} {i : Nat} (hi : Δ[i]? = some (Own.row v e xs)) (ht : Γ.get t = some (.eq v)) (k : SR C ((t, V xs) :: Γ) (Δ.set i Own.none)) : SR C Γ Δ := by
  intro m a w st
  obtain ⟨m', st2, hv, _⟩ := st.publishRow hi
  refine k _ a w (st2.env' ?_)
  intro s p hp
  by_cases e : s = t
  · subst e
    rw [Env.get_same] at hp; cases hp
    have : a.tmps.getD s undef = v := st.env s _ ht
    rw [this]; exact hv
  · rw [Env.get_ne _ _ e] at hp
    exact st2.env s p hp
theorem Owns.take {m : View} {w : World} : ∀ {Δ : List Own} {bs : List (List Nat)} (n : Nat), Owns Δ m w bs → Owns (Δ.take n) m w (bs.take n)
  | [], [], n, _ => by simp [Owns]
  | _ :: _, _ :: _, 0, _ => trivial
  | _ :: _, _ :: _, n + 1, h => ⟨h.1, Owns.take n h.2⟩
theorem Held.take {B : Nat → Prop} {Δ : List Own} {m : View} {w : World} (n : Nat) (h : Held B Δ m w) : Held B (Δ.take n) m w := by
  obtain ⟨bs, h1, h2⟩ := h
  have e : bs.flatten = (bs.take n).flatten ++ (bs.drop n).flatten := by rw [← List.flatten_append, List.take_append_drop]
  have hd := h2.dup
  rw [e, List.nodup_append] at hd
  exact ⟨bs.take n, h1.take n, hd.1, fun b hb => h2.inn b (by rw [e]; exact List.mem_append_left _ hb)⟩
/-- what is owned may be forgotten -/
theorem SK.takeOwn {P : Program} {C : Cx} {Γ : Env} {Δ : List Own} {ks : List KI} (n : Nat) (h : SK P C Γ (Δ.take n) ks) : SK P C Γ Δ ks := fun m a w st => h m a w { st with held := st.held.take n }
end
theorem FnSpec.eqv2 {P : Program} {I : GI} {f : FuncId} {ps : List VP} {α β : Type} [Rep α] [Rep β] {x y : α × β} (e : x = y) (h : FnSpec P I f ps (.tup [V x.1, V x.2])) : FnSpec P I f ps (.tup [V y.1, V y.2]) := e ▸ h
theorem FnSpec.eqv {P : Program} {I : GI} {f : FuncId} {ps : List VP} {α : Type} [Rep α] {x y : α} (e : x = y) (h : FnSpec P I f ps (V x)) : FnSpec P I f ps (V y) := e ▸ h
def kindsL : List Str := [[], [109, 111, 118, 101], [112, 117, 115, 104], [103, 101, 116], [100, 114, 111, 112], [112, 117, 116], [116, 97, 107, 101], [103, 105, 118, 101], [116, 114, 97, 100, 101], [108, 111, 111, 107], [111, 119, 110]]
def placesL : List Str := [[105, 110], [119, 105, 116, 104], [98, 111, 120]]
def waysL : List Str := [[110, 111, 114, 116, 104], [101, 97, 115, 116], [115, 111, 117, 116, 104], [119, 101, 115, 116]]
end Go.Inn
namespace Go.Proofs.YtgnblhmejecgfaaGreatDoor
open Go Go.RowKit Go.Inn
def kindsA : Arr 11 Str := ⟨kindsL, rfl⟩
def placesA : Arr 3 Str := ⟨placesL, rfl⟩
def waysA : Arr 4 Str := ⟨waysL, rfl⟩
def Tab (m : View) (g : Nat) (cs : Array Value) : Prop := ∃ e fr, m g = some (.cells cs e fr)
theorem Tab.up {m m' : View} (hm : m.le m') {g : Nat} {cs : Array Value} (h : Tab m g cs) : Tab m' g cs := let ⟨e, fr, k⟩ := h; ⟨e, fr, hm _ _ k⟩
theorem Tab.var {m : View} {w : World} (hf : m.fits w) {g : Nat} {cs : Array Value} (h : Tab m g cs) {P : Program} {n : String} (hn : P.globalNamed n = some g) : w.var? P n = some cs := by
  obtain ⟨e, fr, k⟩ := h
  simp [World.var?, hn, hf _ _ k]
/-- the tables, as the view tells them -/
structure GlobOn (m : View) : Prop where
  kinds : At m 1 0 kindsA
  ways : At m 0 0 waysA
  pow : Tab m 2 (Lib.pow10Tab.map fun z => Value.int .u64 z).toArray
  errS : ∃ t p, Tab m 6 #[.iface t p]
  errR : ∃ t p, Tab m 7 #[.iface t p]
def glob : GI where
  on := GlobOn
  up hm h := ⟨h.kinds.up hm, h.ways.up hm, h.pow.up hm, let ⟨t, p, k⟩ := h.errS; ⟨t, p, k.up hm⟩, let ⟨t, p, k⟩ := h.errR; ⟨t, p, k.up hm⟩⟩
theorem typ_kinds {Γ : Env} : Typ glob Γ (.global 1) (VP.ref kindsA) := fun m _ hI _ => ⟨1, 0, rfl, hI.kinds⟩
theorem typ_ways {Γ : Env} : Typ glob Γ (.global 0) (VP.ref waysA) := fun m _ hI _ => ⟨0, 0, rfl, hI.ways⟩
end Go.Proofs.YtgnblhmejecgfaaGreatDoor
