/- The program's structs as structures of Lean: their cells, their fields. -/
import Derived.Test.YtgnblhmejecgfaaGreatDoorK8
set_option linter.all false
namespace Go.Inn
open Go Go.RowKit

theorem Lens.fst (α β : Type) [Rep α] [Rep β] : Lens 0 (fun p : α × β => p.1) (fun p y => (y, p.2)) where
  fit := by show 0 + Rep.n α ≤ Rep.n α + Rep.n β; omega
  get_ok h := by obtain ⟨c, d, rfl, h1, h2⟩ := h; rw [List.drop_zero, List.take_left' (Rep.len h1)]; exact h1
  set_ok h k := by
    obtain ⟨c, d, rfl, h1, h2⟩ := h
    refine ⟨_, d, ?_, k, h2⟩
    rw [List.take_zero, List.nil_append, Nat.zero_add, ← Rep.len h1, List.drop_left]
theorem Lens.snd (α β : Type) [Rep α] [Rep β] : Lens (Rep.n α) (fun p : α × β => p.2) (fun p y => (p.1, y)) where
  fit := by show Rep.n α + Rep.n β ≤ Rep.n α + Rep.n β; omega
  get_ok h := by
    obtain ⟨c, d, rfl, h1, h2⟩ := h
    rw [← Rep.len h1, List.drop_left, List.take_of_length_le (by rw [Rep.len h2]; exact Nat.le_refl _)]; exact h2
  set_ok h k := by
    obtain ⟨c, d, rfl, h1, h2⟩ := h
    refine ⟨c, _, ?_, h1, k⟩
    rw [← Rep.len h1, List.take_left, List.drop_of_length_le (by rw [List.length_append, Rep.len h2]; exact Nat.le_refl _), List.append_nil]

/-- a slice's value, bare -/
structure RawSl where
  v : Value
def RawSl.nil : RawSl := ⟨.slice none 0 0⟩
instance : Inhabited RawSl := ⟨RawSl.nil⟩
instance : Rep RawSl where
  n := 1
  agg := false
  cells _ x cs := cs = [x.v] ∧ x.v.oneCell' = true
  len h := by rw [h.1]; rfl
  one _ := rfl
  plain h v hv := by rw [h.1] at hv; simp at hv; rw [hv]; exact h.2
  up _ h := h
theorem V_raw {x : RawSl} {m : View} {v : Value} (h : (V x).on m v) : v = x.v ∧ x.v.oneCell' = true := by
  obtain ⟨cs, ⟨rfl, hx⟩, e⟩ := h; exact ⟨e, hx⟩

structure Cmd where
  kind : Int := 0
  dir : Int := 0
  item : Int := 0
  box : Int := 0
  who : Int := 0
  gives : List Int := []
  pay : Int := 0
  wants : List Int := []
  fee : Int := 0
  deriving DecidableEq, Inhabited
@[reducible] def Cmd.tuple (x : Cmd) : Int × Int × Int × Int × Int × List Int × Int × List Int × Int := (x.kind, x.dir, x.item, x.box, x.who, x.gives, x.pay, x.wants, x.fee)
instance : Rep Cmd := Rep.iso Cmd.tuple
def Cmd.s_kind (x : Cmd) (y : Int) : Cmd := { x with kind := y }
def Cmd.s_dir (x : Cmd) (y : Int) : Cmd := { x with dir := y }
def Cmd.s_item (x : Cmd) (y : Int) : Cmd := { x with item := y }
def Cmd.s_box (x : Cmd) (y : Int) : Cmd := { x with box := y }
def Cmd.s_who (x : Cmd) (y : Int) : Cmd := { x with who := y }
def Cmd.s_gives (x : Cmd) (y : List Int) : Cmd := { x with gives := y }
def Cmd.s_pay (x : Cmd) (y : Int) : Cmd := { x with pay := y }
def Cmd.s_wants (x : Cmd) (y : List Int) : Cmd := { x with wants := y }
def Cmd.s_fee (x : Cmd) (y : Int) : Cmd := { x with fee := y }
theorem Cmd.l_kind : Lens 0 (fun x : Cmd => x.kind) Cmd.s_kind where
  fit := by decide
  get_ok h := (Lens.fst (Int) (Int × Int × Int × Int × List Int × Int × List Int × Int)).get_ok h
  set_ok h k := (Lens.fst (Int) (Int × Int × Int × Int × List Int × Int × List Int × Int)).set_ok h k
theorem Cmd.l_dir : Lens 1 (fun x : Cmd => x.dir) Cmd.s_dir where
  fit := by decide
  get_ok h := ((Lens.snd (Int) (Int × Int × Int × Int × List Int × Int × List Int × Int)).comp (Lens.fst (Int) (Int × Int × Int × List Int × Int × List Int × Int))).get_ok h
  set_ok h k := ((Lens.snd (Int) (Int × Int × Int × Int × List Int × Int × List Int × Int)).comp (Lens.fst (Int) (Int × Int × Int × List Int × Int × List Int × Int))).set_ok h k
theorem Cmd.l_item : Lens 2 (fun x : Cmd => x.item) Cmd.s_item where
  fit := by decide
  get_ok h := ((Lens.snd (Int) (Int × Int × Int × Int × List Int × Int × List Int × Int)).comp ((Lens.snd (Int) (Int × Int × Int × List Int × Int × List Int × Int)).comp (Lens.fst (Int) (Int × Int × List Int × Int × List Int × Int)))).get_ok h
  set_ok h k := ((Lens.snd (Int) (Int × Int × Int × Int × List Int × Int × List Int × Int)).comp ((Lens.snd (Int) (Int × Int × Int × List Int × Int × List Int × Int)).comp (Lens.fst (Int) (Int × Int × List Int × Int × List Int × Int)))).set_ok h k
theorem Cmd.l_box : Lens 3 (fun x : Cmd => x.box) Cmd.s_box where
  fit := by decide
  get_ok h := ((Lens.snd (Int) (Int × Int × Int × Int × List Int × Int × List Int × Int)).comp ((Lens.snd (Int) (Int × Int × Int × List Int × Int × List Int × Int)).comp ((Lens.snd (Int) (Int × Int × List Int × Int × List Int × Int)).comp (Lens.fst (Int) (Int × List Int × Int × List Int × Int))))).get_ok h
  set_ok h k := ((Lens.snd (Int) (Int × Int × Int × Int × List Int × Int × List Int × Int)).comp ((Lens.snd (Int) (Int × Int × Int × List Int × Int × List Int × Int)).comp ((Lens.snd (Int) (Int × Int × List Int × Int × List Int × Int)).comp (Lens.fst (Int) (Int × List Int × Int × List Int × Int))))).set_ok h k
theorem Cmd.l_who : Lens 4 (fun x : Cmd => x.who) Cmd.s_who where
  fit := by decide
  get_ok h := ((Lens.snd (Int) (Int × Int × Int × Int × List Int × Int × List Int × Int)).comp ((Lens.snd (Int) (Int × Int × Int × List Int × Int × List Int × Int)).comp ((Lens.snd (Int) (Int × Int × List Int × Int × List Int × Int)).comp ((Lens.snd (Int) (Int × List Int × Int × List Int × Int)).comp (Lens.fst (Int) (List Int × Int × List Int × Int)))))).get_ok h
  set_ok h k := ((Lens.snd (Int) (Int × Int × Int × Int × List Int × Int × List Int × Int)).comp ((Lens.snd (Int) (Int × Int × Int × List Int × Int × List Int × Int)).comp ((Lens.snd (Int) (Int × Int × List Int × Int × List Int × Int)).comp ((Lens.snd (Int) (Int × List Int × Int × List Int × Int)).comp (Lens.fst (Int) (List Int × Int × List Int × Int)))))).set_ok h k
theorem Cmd.l_gives : Lens 5 (fun x : Cmd => x.gives) Cmd.s_gives where
  fit := by decide
  get_ok h := ((Lens.snd (Int) (Int × Int × Int × Int × List Int × Int × List Int × Int)).comp ((Lens.snd (Int) (Int × Int × Int × List Int × Int × List Int × Int)).comp ((Lens.snd (Int) (Int × Int × List Int × Int × List Int × Int)).comp ((Lens.snd (Int) (Int × List Int × Int × List Int × Int)).comp ((Lens.snd (Int) (List Int × Int × List Int × Int)).comp (Lens.fst (List Int) (Int × List Int × Int))))))).get_ok h
  set_ok h k := ((Lens.snd (Int) (Int × Int × Int × Int × List Int × Int × List Int × Int)).comp ((Lens.snd (Int) (Int × Int × Int × List Int × Int × List Int × Int)).comp ((Lens.snd (Int) (Int × Int × List Int × Int × List Int × Int)).comp ((Lens.snd (Int) (Int × List Int × Int × List Int × Int)).comp ((Lens.snd (Int) (List Int × Int × List Int × Int)).comp (Lens.fst (List Int) (Int × List Int × Int))))))).set_ok h k
theorem Cmd.l_pay : Lens 6 (fun x : Cmd => x.pay) Cmd.s_pay where
  fit := by decide
  get_ok h := ((Lens.snd (Int) (Int × Int × Int × Int × List Int × Int × List Int × Int)).comp ((Lens.snd (Int) (Int × Int × Int × List Int × Int × List Int × Int)).comp ((Lens.snd (Int) (Int × Int × List Int × Int × List Int × Int)).comp ((Lens.snd (Int) (Int × List Int × Int × List Int × Int)).comp ((Lens.snd (Int) (List Int × Int × List Int × Int)).comp ((Lens.snd (List Int) (Int × List Int × Int)).comp (Lens.fst (Int) (List Int × Int)))))))).get_ok h
  set_ok h k := ((Lens.snd (Int) (Int × Int × Int × Int × List Int × Int × List Int × Int)).comp ((Lens.snd (Int) (Int × Int × Int × List Int × Int × List Int × Int)).comp ((Lens.snd (Int) (Int × Int × List Int × Int × List Int × Int)).comp ((Lens.snd (Int) (Int × List Int × Int × List Int × Int)).comp ((Lens.snd (Int) (List Int × Int × List Int × Int)).comp ((Lens.snd (List Int) (Int × List Int × Int)).comp (Lens.fst (Int) (List Int × Int)))))))).set_ok h k
theorem Cmd.l_wants : Lens 7 (fun x : Cmd => x.wants) Cmd.s_wants where
  fit := by decide
  get_ok h := ((Lens.snd (Int) (Int × Int × Int × Int × List Int × Int × List Int × Int)).comp ((Lens.snd (Int) (Int × Int × Int × List Int × Int × List Int × Int)).comp ((Lens.snd (Int) (Int × Int × List Int × Int × List Int × Int)).comp ((Lens.snd (Int) (Int × List Int × Int × List Int × Int)).comp ((Lens.snd (Int) (List Int × Int × List Int × Int)).comp ((Lens.snd (List Int) (Int × List Int × Int)).comp ((Lens.snd (Int) (List Int × Int)).comp (Lens.fst (List Int) (Int))))))))).get_ok h
  set_ok h k := ((Lens.snd (Int) (Int × Int × Int × Int × List Int × Int × List Int × Int)).comp ((Lens.snd (Int) (Int × Int × Int × List Int × Int × List Int × Int)).comp ((Lens.snd (Int) (Int × Int × List Int × Int × List Int × Int)).comp ((Lens.snd (Int) (Int × List Int × Int × List Int × Int)).comp ((Lens.snd (Int) (List Int × Int × List Int × Int)).comp ((Lens.snd (List Int) (Int × List Int × Int)).comp ((Lens.snd (Int) (List Int × Int)).comp (Lens.fst (List Int) (Int))))))))).set_ok h k
theorem Cmd.l_fee : Lens 8 (fun x : Cmd => x.fee) Cmd.s_fee where
  fit := by decide
  get_ok h := ((Lens.snd (Int) (Int × Int × Int × Int × List Int × Int × List Int × Int)).comp ((Lens.snd (Int) (Int × Int × Int × List Int × Int × List Int × Int)).comp ((Lens.snd (Int) (Int × Int × List Int × Int × List Int × Int)).comp ((Lens.snd (Int) (Int × List Int × Int × List Int × Int)).comp ((Lens.snd (Int) (List Int × Int × List Int × Int)).comp ((Lens.snd (List Int) (Int × List Int × Int)).comp ((Lens.snd (Int) (List Int × Int)).comp ((Lens.snd (List Int) (Int)).comp (Lens.id (Int)))))))))).get_ok h
  set_ok h k := ((Lens.snd (Int) (Int × Int × Int × Int × List Int × Int × List Int × Int)).comp ((Lens.snd (Int) (Int × Int × Int × List Int × Int × List Int × Int)).comp ((Lens.snd (Int) (Int × Int × List Int × Int × List Int × Int)).comp ((Lens.snd (Int) (Int × List Int × Int × List Int × Int)).comp ((Lens.snd (Int) (List Int × Int × List Int × Int)).comp ((Lens.snd (List Int) (Int × List Int × Int)).comp ((Lens.snd (Int) (List Int × Int)).comp ((Lens.snd (List Int) (Int)).comp (Lens.id (Int)))))))))).set_ok h k
structure Spot where
  kind : Int := 0
  id : Int := 0
  deriving DecidableEq, Inhabited
@[reducible] def Spot.tuple (x : Spot) : Int × Int := (x.kind, x.id)
instance : Rep Spot := Rep.iso Spot.tuple
def Spot.s_kind (x : Spot) (y : Int) : Spot := { x with kind := y }
def Spot.s_id (x : Spot) (y : Int) : Spot := { x with id := y }
theorem Spot.l_kind : Lens 0 (fun x : Spot => x.kind) Spot.s_kind where
  fit := by decide
  get_ok h := (Lens.fst (Int) (Int)).get_ok h
  set_ok h k := (Lens.fst (Int) (Int)).set_ok h k
theorem Spot.l_id : Lens 1 (fun x : Spot => x.id) Spot.s_id where
  fit := by decide
  get_ok h := ((Lens.snd (Int) (Int)).comp (Lens.id (Int))).get_ok h
  set_ok h k := ((Lens.snd (Int) (Int)).comp (Lens.id (Int))).set_ok h k
structure Seen where
  item : Int := 0
  at_ : Spot := default
  deriving DecidableEq, Inhabited
@[reducible] def Seen.tuple (x : Seen) : Int × Spot := (x.item, x.at_)
instance : Rep Seen := Rep.iso Seen.tuple
def Seen.s_item (x : Seen) (y : Int) : Seen := { x with item := y }
def Seen.s_at_ (x : Seen) (y : Spot) : Seen := { x with at_ := y }
theorem Seen.l_item : Lens 0 (fun x : Seen => x.item) Seen.s_item where
  fit := by decide
  get_ok h := (Lens.fst (Int) (Spot)).get_ok h
  set_ok h k := (Lens.fst (Int) (Spot)).set_ok h k
theorem Seen.l_at_ : Lens 1 (fun x : Seen => x.at_) Seen.s_at_ where
  fit := by decide
  get_ok h := ((Lens.snd (Int) (Spot)).comp (Lens.id (Spot))).get_ok h
  set_ok h k := ((Lens.snd (Int) (Spot)).comp (Lens.id (Spot))).set_ok h k
structure Reply where
  err : Int := 0
  kind : Int := 0
  room : Int := 0
  players : List Int := []
  items : List Seen := []
  coins : Int := 0
  deriving DecidableEq, Inhabited
@[reducible] def Reply.tuple (x : Reply) : Int × Int × Int × List Int × List Seen × Int := (x.err, x.kind, x.room, x.players, x.items, x.coins)
instance : Rep Reply := Rep.iso Reply.tuple
def Reply.s_err (x : Reply) (y : Int) : Reply := { x with err := y }
def Reply.s_kind (x : Reply) (y : Int) : Reply := { x with kind := y }
def Reply.s_room (x : Reply) (y : Int) : Reply := { x with room := y }
def Reply.s_players (x : Reply) (y : List Int) : Reply := { x with players := y }
def Reply.s_items (x : Reply) (y : List Seen) : Reply := { x with items := y }
def Reply.s_coins (x : Reply) (y : Int) : Reply := { x with coins := y }
theorem Reply.l_err : Lens 0 (fun x : Reply => x.err) Reply.s_err where
  fit := by decide
  get_ok h := (Lens.fst (Int) (Int × Int × List Int × List Seen × Int)).get_ok h
  set_ok h k := (Lens.fst (Int) (Int × Int × List Int × List Seen × Int)).set_ok h k
theorem Reply.l_kind : Lens 1 (fun x : Reply => x.kind) Reply.s_kind where
  fit := by decide
  get_ok h := ((Lens.snd (Int) (Int × Int × List Int × List Seen × Int)).comp (Lens.fst (Int) (Int × List Int × List Seen × Int))).get_ok h
  set_ok h k := ((Lens.snd (Int) (Int × Int × List Int × List Seen × Int)).comp (Lens.fst (Int) (Int × List Int × List Seen × Int))).set_ok h k
theorem Reply.l_room : Lens 2 (fun x : Reply => x.room) Reply.s_room where
  fit := by decide
  get_ok h := ((Lens.snd (Int) (Int × Int × List Int × List Seen × Int)).comp ((Lens.snd (Int) (Int × List Int × List Seen × Int)).comp (Lens.fst (Int) (List Int × List Seen × Int)))).get_ok h
  set_ok h k := ((Lens.snd (Int) (Int × Int × List Int × List Seen × Int)).comp ((Lens.snd (Int) (Int × List Int × List Seen × Int)).comp (Lens.fst (Int) (List Int × List Seen × Int)))).set_ok h k
theorem Reply.l_players : Lens 3 (fun x : Reply => x.players) Reply.s_players where
  fit := by decide
  get_ok h := ((Lens.snd (Int) (Int × Int × List Int × List Seen × Int)).comp ((Lens.snd (Int) (Int × List Int × List Seen × Int)).comp ((Lens.snd (Int) (List Int × List Seen × Int)).comp (Lens.fst (List Int) (List Seen × Int))))).get_ok h
  set_ok h k := ((Lens.snd (Int) (Int × Int × List Int × List Seen × Int)).comp ((Lens.snd (Int) (Int × List Int × List Seen × Int)).comp ((Lens.snd (Int) (List Int × List Seen × Int)).comp (Lens.fst (List Int) (List Seen × Int))))).set_ok h k
theorem Reply.l_items : Lens 4 (fun x : Reply => x.items) Reply.s_items where
  fit := by decide
  get_ok h := ((Lens.snd (Int) (Int × Int × List Int × List Seen × Int)).comp ((Lens.snd (Int) (Int × List Int × List Seen × Int)).comp ((Lens.snd (Int) (List Int × List Seen × Int)).comp ((Lens.snd (List Int) (List Seen × Int)).comp (Lens.fst (List Seen) (Int)))))).get_ok h
  set_ok h k := ((Lens.snd (Int) (Int × Int × List Int × List Seen × Int)).comp ((Lens.snd (Int) (Int × List Int × List Seen × Int)).comp ((Lens.snd (Int) (List Int × List Seen × Int)).comp ((Lens.snd (List Int) (List Seen × Int)).comp (Lens.fst (List Seen) (Int)))))).set_ok h k
theorem Reply.l_coins : Lens 5 (fun x : Reply => x.coins) Reply.s_coins where
  fit := by decide
  get_ok h := ((Lens.snd (Int) (Int × Int × List Int × List Seen × Int)).comp ((Lens.snd (Int) (Int × List Int × List Seen × Int)).comp ((Lens.snd (Int) (List Int × List Seen × Int)).comp ((Lens.snd (List Int) (List Seen × Int)).comp ((Lens.snd (List Seen) (Int)).comp (Lens.id (Int))))))).get_ok h
  set_ok h k := ((Lens.snd (Int) (Int × Int × List Int × List Seen × Int)).comp ((Lens.snd (Int) (Int × List Int × List Seen × Int)).comp ((Lens.snd (Int) (List Int × List Seen × Int)).comp ((Lens.snd (List Int) (List Seen × Int)).comp ((Lens.snd (List Seen) (Int)).comp (Lens.id (Int))))))).set_ok h k
structure Key where
  kind : Int := 0
  id : Int := 0
  deriving DecidableEq, Inhabited
@[reducible] def Key.tuple (x : Key) : Int × Int := (x.kind, x.id)
instance : Rep Key := Rep.iso Key.tuple
def Key.s_kind (x : Key) (y : Int) : Key := { x with kind := y }
def Key.s_id (x : Key) (y : Int) : Key := { x with id := y }
theorem Key.l_kind : Lens 0 (fun x : Key => x.kind) Key.s_kind where
  fit := by decide
  get_ok h := (Lens.fst (Int) (Int)).get_ok h
  set_ok h k := (Lens.fst (Int) (Int)).set_ok h k
theorem Key.l_id : Lens 1 (fun x : Key => x.id) Key.s_id where
  fit := by decide
  get_ok h := ((Lens.snd (Int) (Int)).comp (Lens.id (Int))).get_ok h
  set_ok h k := ((Lens.snd (Int) (Int)).comp (Lens.id (Int))).set_ok h k
structure Write where
  kind : Int := 0
  id : Int := 0
  num : Int := 0
  place : Spot := default
  deriving DecidableEq, Inhabited
@[reducible] def Write.tuple (x : Write) : Int × Int × Int × Spot := (x.kind, x.id, x.num, x.place)
instance : Rep Write := Rep.iso Write.tuple
def Write.s_kind (x : Write) (y : Int) : Write := { x with kind := y }
def Write.s_id (x : Write) (y : Int) : Write := { x with id := y }
def Write.s_num (x : Write) (y : Int) : Write := { x with num := y }
def Write.s_place (x : Write) (y : Spot) : Write := { x with place := y }
theorem Write.l_kind : Lens 0 (fun x : Write => x.kind) Write.s_kind where
  fit := by decide
  get_ok h := (Lens.fst (Int) (Int × Int × Spot)).get_ok h
  set_ok h k := (Lens.fst (Int) (Int × Int × Spot)).set_ok h k
theorem Write.l_id : Lens 1 (fun x : Write => x.id) Write.s_id where
  fit := by decide
  get_ok h := ((Lens.snd (Int) (Int × Int × Spot)).comp (Lens.fst (Int) (Int × Spot))).get_ok h
  set_ok h k := ((Lens.snd (Int) (Int × Int × Spot)).comp (Lens.fst (Int) (Int × Spot))).set_ok h k
theorem Write.l_num : Lens 2 (fun x : Write => x.num) Write.s_num where
  fit := by decide
  get_ok h := ((Lens.snd (Int) (Int × Int × Spot)).comp ((Lens.snd (Int) (Int × Spot)).comp (Lens.fst (Int) (Spot)))).get_ok h
  set_ok h k := ((Lens.snd (Int) (Int × Int × Spot)).comp ((Lens.snd (Int) (Int × Spot)).comp (Lens.fst (Int) (Spot)))).set_ok h k
theorem Write.l_place : Lens 3 (fun x : Write => x.place) Write.s_place where
  fit := by decide
  get_ok h := ((Lens.snd (Int) (Int × Int × Spot)).comp ((Lens.snd (Int) (Int × Spot)).comp ((Lens.snd (Int) (Spot)).comp (Lens.id (Spot))))).get_ok h
  set_ok h k := ((Lens.snd (Int) (Int × Int × Spot)).comp ((Lens.snd (Int) (Int × Spot)).comp ((Lens.snd (Int) (Spot)).comp (Lens.id (Spot))))).set_ok h k
structure Sess where
  player : Int := 0
  lines : List Str := []
  next : Int := 0
  phase : Int := 0
  step : Int := 0
  cmd : Cmd := default
  foot : List Key := []
  has : Int := 0
  plan : List Write := []
  reply : Reply := default
  stale : Bool := false
  tries : Int := 0
  ver : Int := 0
  room : Int := 0
  copies : List Spot := []
  heads : List Int := []
  purse : Int := 0
  deriving DecidableEq, Inhabited
@[reducible] def Sess.tuple (x : Sess) : Int × List Str × Int × Int × Int × Cmd × List Key × Int × List Write × Reply × Bool × Int × Int × Int × List Spot × List Int × Int := (x.player, x.lines, x.next, x.phase, x.step, x.cmd, x.foot, x.has, x.plan, x.reply, x.stale, x.tries, x.ver, x.room, x.copies, x.heads, x.purse)
instance : Rep Sess := Rep.iso Sess.tuple
def Sess.s_player (x : Sess) (y : Int) : Sess := { x with player := y }
def Sess.s_lines (x : Sess) (y : List Str) : Sess := { x with lines := y }
def Sess.s_next (x : Sess) (y : Int) : Sess := { x with next := y }
def Sess.s_phase (x : Sess) (y : Int) : Sess := { x with phase := y }
def Sess.s_step (x : Sess) (y : Int) : Sess := { x with step := y }
def Sess.s_cmd (x : Sess) (y : Cmd) : Sess := { x with cmd := y }
def Sess.s_foot (x : Sess) (y : List Key) : Sess := { x with foot := y }
def Sess.s_has (x : Sess) (y : Int) : Sess := { x with has := y }
def Sess.s_plan (x : Sess) (y : List Write) : Sess := { x with plan := y }
def Sess.s_reply (x : Sess) (y : Reply) : Sess := { x with reply := y }
def Sess.s_stale (x : Sess) (y : Bool) : Sess := { x with stale := y }
def Sess.s_tries (x : Sess) (y : Int) : Sess := { x with tries := y }
def Sess.s_ver (x : Sess) (y : Int) : Sess := { x with ver := y }
def Sess.s_room (x : Sess) (y : Int) : Sess := { x with room := y }
def Sess.s_copies (x : Sess) (y : List Spot) : Sess := { x with copies := y }
def Sess.s_heads (x : Sess) (y : List Int) : Sess := { x with heads := y }
def Sess.s_purse (x : Sess) (y : Int) : Sess := { x with purse := y }
theorem Sess.l_player : Lens 0 (fun x : Sess => x.player) Sess.s_player where
  fit := by decide
  get_ok h := (Lens.fst (Int) (List Str × Int × Int × Int × Cmd × List Key × Int × List Write × Reply × Bool × Int × Int × Int × List Spot × List Int × Int)).get_ok h
  set_ok h k := (Lens.fst (Int) (List Str × Int × Int × Int × Cmd × List Key × Int × List Write × Reply × Bool × Int × Int × Int × List Spot × List Int × Int)).set_ok h k
theorem Sess.l_lines : Lens 1 (fun x : Sess => x.lines) Sess.s_lines where
  fit := by decide
  get_ok h := ((Lens.snd (Int) (List Str × Int × Int × Int × Cmd × List Key × Int × List Write × Reply × Bool × Int × Int × Int × List Spot × List Int × Int)).comp (Lens.fst (List Str) (Int × Int × Int × Cmd × List Key × Int × List Write × Reply × Bool × Int × Int × Int × List Spot × List Int × Int))).get_ok h
  set_ok h k := ((Lens.snd (Int) (List Str × Int × Int × Int × Cmd × List Key × Int × List Write × Reply × Bool × Int × Int × Int × List Spot × List Int × Int)).comp (Lens.fst (List Str) (Int × Int × Int × Cmd × List Key × Int × List Write × Reply × Bool × Int × Int × Int × List Spot × List Int × Int))).set_ok h k
theorem Sess.l_next : Lens 2 (fun x : Sess => x.next) Sess.s_next where
  fit := by decide
  get_ok h := ((Lens.snd (Int) (List Str × Int × Int × Int × Cmd × List Key × Int × List Write × Reply × Bool × Int × Int × Int × List Spot × List Int × Int)).comp ((Lens.snd (List Str) (Int × Int × Int × Cmd × List Key × Int × List Write × Reply × Bool × Int × Int × Int × List Spot × List Int × Int)).comp (Lens.fst (Int) (Int × Int × Cmd × List Key × Int × List Write × Reply × Bool × Int × Int × Int × List Spot × List Int × Int)))).get_ok h
  set_ok h k := ((Lens.snd (Int) (List Str × Int × Int × Int × Cmd × List Key × Int × List Write × Reply × Bool × Int × Int × Int × List Spot × List Int × Int)).comp ((Lens.snd (List Str) (Int × Int × Int × Cmd × List Key × Int × List Write × Reply × Bool × Int × Int × Int × List Spot × List Int × Int)).comp (Lens.fst (Int) (Int × Int × Cmd × List Key × Int × List Write × Reply × Bool × Int × Int × Int × List Spot × List Int × Int)))).set_ok h k
theorem Sess.l_phase : Lens 3 (fun x : Sess => x.phase) Sess.s_phase where
  fit := by decide
  get_ok h := ((Lens.snd (Int) (List Str × Int × Int × Int × Cmd × List Key × Int × List Write × Reply × Bool × Int × Int × Int × List Spot × List Int × Int)).comp ((Lens.snd (List Str) (Int × Int × Int × Cmd × List Key × Int × List Write × Reply × Bool × Int × Int × Int × List Spot × List Int × Int)).comp ((Lens.snd (Int) (Int × Int × Cmd × List Key × Int × List Write × Reply × Bool × Int × Int × Int × List Spot × List Int × Int)).comp (Lens.fst (Int) (Int × Cmd × List Key × Int × List Write × Reply × Bool × Int × Int × Int × List Spot × List Int × Int))))).get_ok h
  set_ok h k := ((Lens.snd (Int) (List Str × Int × Int × Int × Cmd × List Key × Int × List Write × Reply × Bool × Int × Int × Int × List Spot × List Int × Int)).comp ((Lens.snd (List Str) (Int × Int × Int × Cmd × List Key × Int × List Write × Reply × Bool × Int × Int × Int × List Spot × List Int × Int)).comp ((Lens.snd (Int) (Int × Int × Cmd × List Key × Int × List Write × Reply × Bool × Int × Int × Int × List Spot × List Int × Int)).comp (Lens.fst (Int) (Int × Cmd × List Key × Int × List Write × Reply × Bool × Int × Int × Int × List Spot × List Int × Int))))).set_ok h k
theorem Sess.l_step : Lens 4 (fun x : Sess => x.step) Sess.s_step where
  fit := by decide
  get_ok h := ((Lens.snd (Int) (List Str × Int × Int × Int × Cmd × List Key × Int × List Write × Reply × Bool × Int × Int × Int × List Spot × List Int × Int)).comp ((Lens.snd (List Str) (Int × Int × Int × Cmd × List Key × Int × List Write × Reply × Bool × Int × Int × Int × List Spot × List Int × Int)).comp ((Lens.snd (Int) (Int × Int × Cmd × List Key × Int × List Write × Reply × Bool × Int × Int × Int × List Spot × List Int × Int)).comp ((Lens.snd (Int) (Int × Cmd × List Key × Int × List Write × Reply × Bool × Int × Int × Int × List Spot × List Int × Int)).comp (Lens.fst (Int) (Cmd × List Key × Int × List Write × Reply × Bool × Int × Int × Int × List Spot × List Int × Int)))))).get_ok h
  set_ok h k := ((Lens.snd (Int) (List Str × Int × Int × Int × Cmd × List Key × Int × List Write × Reply × Bool × Int × Int × Int × List Spot × List Int × Int)).comp ((Lens.snd (List Str) (Int × Int × Int × Cmd × List Key × Int × List Write × Reply × Bool × Int × Int × Int × List Spot × List Int × Int)).comp ((Lens.snd (Int) (Int × Int × Cmd × List Key × Int × List Write × Reply × Bool × Int × Int × Int × List Spot × List Int × Int)).comp ((Lens.snd (Int) (Int × Cmd × List Key × Int × List Write × Reply × Bool × Int × Int × Int × List Spot × List Int × Int)).comp (Lens.fst (Int) (Cmd × List Key × Int × List Write × Reply × Bool × Int × Int × Int × List Spot × List Int × Int)))))).set_ok h k
theorem Sess.l_cmd : Lens 5 (fun x : Sess => x.cmd) Sess.s_cmd where
  fit := by decide
  get_ok h := ((Lens.snd (Int) (List Str × Int × Int × Int × Cmd × List Key × Int × List Write × Reply × Bool × Int × Int × Int × List Spot × List Int × Int)).comp ((Lens.snd (List Str) (Int × Int × Int × Cmd × List Key × Int × List Write × Reply × Bool × Int × Int × Int × List Spot × List Int × Int)).comp ((Lens.snd (Int) (Int × Int × Cmd × List Key × Int × List Write × Reply × Bool × Int × Int × Int × List Spot × List Int × Int)).comp ((Lens.snd (Int) (Int × Cmd × List Key × Int × List Write × Reply × Bool × Int × Int × Int × List Spot × List Int × Int)).comp ((Lens.snd (Int) (Cmd × List Key × Int × List Write × Reply × Bool × Int × Int × Int × List Spot × List Int × Int)).comp (Lens.fst (Cmd) (List Key × Int × List Write × Reply × Bool × Int × Int × Int × List Spot × List Int × Int))))))).get_ok h
  set_ok h k := ((Lens.snd (Int) (List Str × Int × Int × Int × Cmd × List Key × Int × List Write × Reply × Bool × Int × Int × Int × List Spot × List Int × Int)).comp ((Lens.snd (List Str) (Int × Int × Int × Cmd × List Key × Int × List Write × Reply × Bool × Int × Int × Int × List Spot × List Int × Int)).comp ((Lens.snd (Int) (Int × Int × Cmd × List Key × Int × List Write × Reply × Bool × Int × Int × Int × List Spot × List Int × Int)).comp ((Lens.snd (Int) (Int × Cmd × List Key × Int × List Write × Reply × Bool × Int × Int × Int × List Spot × List Int × Int)).comp ((Lens.snd (Int) (Cmd × List Key × Int × List Write × Reply × Bool × Int × Int × Int × List Spot × List Int × Int)).comp (Lens.fst (Cmd) (List Key × Int × List Write × Reply × Bool × Int × Int × Int × List Spot × List Int × Int))))))).set_ok h k
theorem Sess.l_foot : Lens 14 (fun x : Sess => x.foot) Sess.s_foot where
  fit := by decide
  get_ok h := ((Lens.snd (Int) (List Str × Int × Int × Int × Cmd × List Key × Int × List Write × Reply × Bool × Int × Int × Int × List Spot × List Int × Int)).comp ((Lens.snd (List Str) (Int × Int × Int × Cmd × List Key × Int × List Write × Reply × Bool × Int × Int × Int × List Spot × List Int × Int)).comp ((Lens.snd (Int) (Int × Int × Cmd × List Key × Int × List Write × Reply × Bool × Int × Int × Int × List Spot × List Int × Int)).comp ((Lens.snd (Int) (Int × Cmd × List Key × Int × List Write × Reply × Bool × Int × Int × Int × List Spot × List Int × Int)).comp ((Lens.snd (Int) (Cmd × List Key × Int × List Write × Reply × Bool × Int × Int × Int × List Spot × List Int × Int)).comp ((Lens.snd (Cmd) (List Key × Int × List Write × Reply × Bool × Int × Int × Int × List Spot × List Int × Int)).comp (Lens.fst (List Key) (Int × List Write × Reply × Bool × Int × Int × Int × List Spot × List Int × Int)))))))).get_ok h
  set_ok h k := ((Lens.snd (Int) (List Str × Int × Int × Int × Cmd × List Key × Int × List Write × Reply × Bool × Int × Int × Int × List Spot × List Int × Int)).comp ((Lens.snd (List Str) (Int × Int × Int × Cmd × List Key × Int × List Write × Reply × Bool × Int × Int × Int × List Spot × List Int × Int)).comp ((Lens.snd (Int) (Int × Int × Cmd × List Key × Int × List Write × Reply × Bool × Int × Int × Int × List Spot × List Int × Int)).comp ((Lens.snd (Int) (Int × Cmd × List Key × Int × List Write × Reply × Bool × Int × Int × Int × List Spot × List Int × Int)).comp ((Lens.snd (Int) (Cmd × List Key × Int × List Write × Reply × Bool × Int × Int × Int × List Spot × List Int × Int)).comp ((Lens.snd (Cmd) (List Key × Int × List Write × Reply × Bool × Int × Int × Int × List Spot × List Int × Int)).comp (Lens.fst (List Key) (Int × List Write × Reply × Bool × Int × Int × Int × List Spot × List Int × Int)))))))).set_ok h k
theorem Sess.l_has : Lens 15 (fun x : Sess => x.has) Sess.s_has where
  fit := by decide
  get_ok h := ((Lens.snd (Int) (List Str × Int × Int × Int × Cmd × List Key × Int × List Write × Reply × Bool × Int × Int × Int × List Spot × List Int × Int)).comp ((Lens.snd (List Str) (Int × Int × Int × Cmd × List Key × Int × List Write × Reply × Bool × Int × Int × Int × List Spot × List Int × Int)).comp ((Lens.snd (Int) (Int × Int × Cmd × List Key × Int × List Write × Reply × Bool × Int × Int × Int × List Spot × List Int × Int)).comp ((Lens.snd (Int) (Int × Cmd × List Key × Int × List Write × Reply × Bool × Int × Int × Int × List Spot × List Int × Int)).comp ((Lens.snd (Int) (Cmd × List Key × Int × List Write × Reply × Bool × Int × Int × Int × List Spot × List Int × Int)).comp ((Lens.snd (Cmd) (List Key × Int × List Write × Reply × Bool × Int × Int × Int × List Spot × List Int × Int)).comp ((Lens.snd (List Key) (Int × List Write × Reply × Bool × Int × Int × Int × List Spot × List Int × Int)).comp (Lens.fst (Int) (List Write × Reply × Bool × Int × Int × Int × List Spot × List Int × Int))))))))).get_ok h
  set_ok h k := ((Lens.snd (Int) (List Str × Int × Int × Int × Cmd × List Key × Int × List Write × Reply × Bool × Int × Int × Int × List Spot × List Int × Int)).comp ((Lens.snd (List Str) (Int × Int × Int × Cmd × List Key × Int × List Write × Reply × Bool × Int × Int × Int × List Spot × List Int × Int)).comp ((Lens.snd (Int) (Int × Int × Cmd × List Key × Int × List Write × Reply × Bool × Int × Int × Int × List Spot × List Int × Int)).comp ((Lens.snd (Int) (Int × Cmd × List Key × Int × List Write × Reply × Bool × Int × Int × Int × List Spot × List Int × Int)).comp ((Lens.snd (Int) (Cmd × List Key × Int × List Write × Reply × Bool × Int × Int × Int × List Spot × List Int × Int)).comp ((Lens.snd (Cmd) (List Key × Int × List Write × Reply × Bool × Int × Int × Int × List Spot × List Int × Int)).comp ((Lens.snd (List Key) (Int × List Write × Reply × Bool × Int × Int × Int × List Spot × List Int × Int)).comp (Lens.fst (Int) (List Write × Reply × Bool × Int × Int × Int × List Spot × List Int × Int))))))))).set_ok h k
theorem Sess.l_plan : Lens 16 (fun x : Sess => x.plan) Sess.s_plan where
  fit := by decide
  get_ok h := ((Lens.snd (Int) (List Str × Int × Int × Int × Cmd × List Key × Int × List Write × Reply × Bool × Int × Int × Int × List Spot × List Int × Int)).comp ((Lens.snd (List Str) (Int × Int × Int × Cmd × List Key × Int × List Write × Reply × Bool × Int × Int × Int × List Spot × List Int × Int)).comp ((Lens.snd (Int) (Int × Int × Cmd × List Key × Int × List Write × Reply × Bool × Int × Int × Int × List Spot × List Int × Int)).comp ((Lens.snd (Int) (Int × Cmd × List Key × Int × List Write × Reply × Bool × Int × Int × Int × List Spot × List Int × Int)).comp ((Lens.snd (Int) (Cmd × List Key × Int × List Write × Reply × Bool × Int × Int × Int × List Spot × List Int × Int)).comp ((Lens.snd (Cmd) (List Key × Int × List Write × Reply × Bool × Int × Int × Int × List Spot × List Int × Int)).comp ((Lens.snd (List Key) (Int × List Write × Reply × Bool × Int × Int × Int × List Spot × List Int × Int)).comp ((Lens.snd (Int) (List Write × Reply × Bool × Int × Int × Int × List Spot × List Int × Int)).comp (Lens.fst (List Write) (Reply × Bool × Int × Int × Int × List Spot × List Int × Int)))))))))).get_ok h
  set_ok h k := ((Lens.snd (Int) (List Str × Int × Int × Int × Cmd × List Key × Int × List Write × Reply × Bool × Int × Int × Int × List Spot × List Int × Int)).comp ((Lens.snd (List Str) (Int × Int × Int × Cmd × List Key × Int × List Write × Reply × Bool × Int × Int × Int × List Spot × List Int × Int)).comp ((Lens.snd (Int) (Int × Int × Cmd × List Key × Int × List Write × Reply × Bool × Int × Int × Int × List Spot × List Int × Int)).comp ((Lens.snd (Int) (Int × Cmd × List Key × Int × List Write × Reply × Bool × Int × Int × Int × List Spot × List Int × Int)).comp ((Lens.snd (Int) (Cmd × List Key × Int × List Write × Reply × Bool × Int × Int × Int × List Spot × List Int × Int)).comp ((Lens.snd (Cmd) (List Key × Int × List Write × Reply × Bool × Int × Int × Int × List Spot × List Int × Int)).comp ((Lens.snd (List Key) (Int × List Write × Reply × Bool × Int × Int × Int × List Spot × List Int × Int)).comp ((Lens.snd (Int) (List Write × Reply × Bool × Int × Int × Int × List Spot × List Int × Int)).comp (Lens.fst (List Write) (Reply × Bool × Int × Int × Int × List Spot × List Int × Int)))))))))).set_ok h k
theorem Sess.l_reply : Lens 17 (fun x : Sess => x.reply) Sess.s_reply where
  fit := by decide
  get_ok h := ((Lens.snd (Int) (List Str × Int × Int × Int × Cmd × List Key × Int × List Write × Reply × Bool × Int × Int × Int × List Spot × List Int × Int)).comp ((Lens.snd (List Str) (Int × Int × Int × Cmd × List Key × Int × List Write × Reply × Bool × Int × Int × Int × List Spot × List Int × Int)).comp ((Lens.snd (Int) (Int × Int × Cmd × List Key × Int × List Write × Reply × Bool × Int × Int × Int × List Spot × List Int × Int)).comp ((Lens.snd (Int) (Int × Cmd × List Key × Int × List Write × Reply × Bool × Int × Int × Int × List Spot × List Int × Int)).comp ((Lens.snd (Int) (Cmd × List Key × Int × List Write × Reply × Bool × Int × Int × Int × List Spot × List Int × Int)).comp ((Lens.snd (Cmd) (List Key × Int × List Write × Reply × Bool × Int × Int × Int × List Spot × List Int × Int)).comp ((Lens.snd (List Key) (Int × List Write × Reply × Bool × Int × Int × Int × List Spot × List Int × Int)).comp ((Lens.snd (Int) (List Write × Reply × Bool × Int × Int × Int × List Spot × List Int × Int)).comp ((Lens.snd (List Write) (Reply × Bool × Int × Int × Int × List Spot × List Int × Int)).comp (Lens.fst (Reply) (Bool × Int × Int × Int × List Spot × List Int × Int))))))))))).get_ok h
  set_ok h k := ((Lens.snd (Int) (List Str × Int × Int × Int × Cmd × List Key × Int × List Write × Reply × Bool × Int × Int × Int × List Spot × List Int × Int)).comp ((Lens.snd (List Str) (Int × Int × Int × Cmd × List Key × Int × List Write × Reply × Bool × Int × Int × Int × List Spot × List Int × Int)).comp ((Lens.snd (Int) (Int × Int × Cmd × List Key × Int × List Write × Reply × Bool × Int × Int × Int × List Spot × List Int × Int)).comp ((Lens.snd (Int) (Int × Cmd × List Key × Int × List Write × Reply × Bool × Int × Int × Int × List Spot × List Int × Int)).comp ((Lens.snd (Int) (Cmd × List Key × Int × List Write × Reply × Bool × Int × Int × Int × List Spot × List Int × Int)).comp ((Lens.snd (Cmd) (List Key × Int × List Write × Reply × Bool × Int × Int × Int × List Spot × List Int × Int)).comp ((Lens.snd (List Key) (Int × List Write × Reply × Bool × Int × Int × Int × List Spot × List Int × Int)).comp ((Lens.snd (Int) (List Write × Reply × Bool × Int × Int × Int × List Spot × List Int × Int)).comp ((Lens.snd (List Write) (Reply × Bool × Int × Int × Int × List Spot × List Int × Int)).comp (Lens.fst (Reply) (Bool × Int × Int × Int × List Spot × List Int × Int))))))))))).set_ok h k
theorem Sess.l_stale : Lens 23 (fun x : Sess => x.stale) Sess.s_stale where
  fit := by decide
  get_ok h := ((Lens.snd (Int) (List Str × Int × Int × Int × Cmd × List Key × Int × List Write × Reply × Bool × Int × Int × Int × List Spot × List Int × Int)).comp ((Lens.snd (List Str) (Int × Int × Int × Cmd × List Key × Int × List Write × Reply × Bool × Int × Int × Int × List Spot × List Int × Int)).comp ((Lens.snd (Int) (Int × Int × Cmd × List Key × Int × List Write × Reply × Bool × Int × Int × Int × List Spot × List Int × Int)).comp ((Lens.snd (Int) (Int × Cmd × List Key × Int × List Write × Reply × Bool × Int × Int × Int × List Spot × List Int × Int)).comp ((Lens.snd (Int) (Cmd × List Key × Int × List Write × Reply × Bool × Int × Int × Int × List Spot × List Int × Int)).comp ((Lens.snd (Cmd) (List Key × Int × List Write × Reply × Bool × Int × Int × Int × List Spot × List Int × Int)).comp ((Lens.snd (List Key) (Int × List Write × Reply × Bool × Int × Int × Int × List Spot × List Int × Int)).comp ((Lens.snd (Int) (List Write × Reply × Bool × Int × Int × Int × List Spot × List Int × Int)).comp ((Lens.snd (List Write) (Reply × Bool × Int × Int × Int × List Spot × List Int × Int)).comp ((Lens.snd (Reply) (Bool × Int × Int × Int × List Spot × List Int × Int)).comp (Lens.fst (Bool) (Int × Int × Int × List Spot × List Int × Int)))))))))))).get_ok h
  set_ok h k := ((Lens.snd (Int) (List Str × Int × Int × Int × Cmd × List Key × Int × List Write × Reply × Bool × Int × Int × Int × List Spot × List Int × Int)).comp ((Lens.snd (List Str) (Int × Int × Int × Cmd × List Key × Int × List Write × Reply × Bool × Int × Int × Int × List Spot × List Int × Int)).comp ((Lens.snd (Int) (Int × Int × Cmd × List Key × Int × List Write × Reply × Bool × Int × Int × Int × List Spot × List Int × Int)).comp ((Lens.snd (Int) (Int × Cmd × List Key × Int × List Write × Reply × Bool × Int × Int × Int × List Spot × List Int × Int)).comp ((Lens.snd (Int) (Cmd × List Key × Int × List Write × Reply × Bool × Int × Int × Int × List Spot × List Int × Int)).comp ((Lens.snd (Cmd) (List Key × Int × List Write × Reply × Bool × Int × Int × Int × List Spot × List Int × Int)).comp ((Lens.snd (List Key) (Int × List Write × Reply × Bool × Int × Int × Int × List Spot × List Int × Int)).comp ((Lens.snd (Int) (List Write × Reply × Bool × Int × Int × Int × List Spot × List Int × Int)).comp ((Lens.snd (List Write) (Reply × Bool × Int × Int × Int × List Spot × List Int × Int)).comp ((Lens.snd (Reply) (Bool × Int × Int × Int × List Spot × List Int × Int)).comp (Lens.fst (Bool) (Int × Int × Int × List Spot × List Int × Int)))))))))))).set_ok h k
theorem Sess.l_tries : Lens 24 (fun x : Sess => x.tries) Sess.s_tries where
  fit := by decide
  get_ok h := ((Lens.snd (Int) (List Str × Int × Int × Int × Cmd × List Key × Int × List Write × Reply × Bool × Int × Int × Int × List Spot × List Int × Int)).comp ((Lens.snd (List Str) (Int × Int × Int × Cmd × List Key × Int × List Write × Reply × Bool × Int × Int × Int × List Spot × List Int × Int)).comp ((Lens.snd (Int) (Int × Int × Cmd × List Key × Int × List Write × Reply × Bool × Int × Int × Int × List Spot × List Int × Int)).comp ((Lens.snd (Int) (Int × Cmd × List Key × Int × List Write × Reply × Bool × Int × Int × Int × List Spot × List Int × Int)).comp ((Lens.snd (Int) (Cmd × List Key × Int × List Write × Reply × Bool × Int × Int × Int × List Spot × List Int × Int)).comp ((Lens.snd (Cmd) (List Key × Int × List Write × Reply × Bool × Int × Int × Int × List Spot × List Int × Int)).comp ((Lens.snd (List Key) (Int × List Write × Reply × Bool × Int × Int × Int × List Spot × List Int × Int)).comp ((Lens.snd (Int) (List Write × Reply × Bool × Int × Int × Int × List Spot × List Int × Int)).comp ((Lens.snd (List Write) (Reply × Bool × Int × Int × Int × List Spot × List Int × Int)).comp ((Lens.snd (Reply) (Bool × Int × Int × Int × List Spot × List Int × Int)).comp ((Lens.snd (Bool) (Int × Int × Int × List Spot × List Int × Int)).comp (Lens.fst (Int) (Int × Int × List Spot × List Int × Int))))))))))))).get_ok h
  set_ok h k := ((Lens.snd (Int) (List Str × Int × Int × Int × Cmd × List Key × Int × List Write × Reply × Bool × Int × Int × Int × List Spot × List Int × Int)).comp ((Lens.snd (List Str) (Int × Int × Int × Cmd × List Key × Int × List Write × Reply × Bool × Int × Int × Int × List Spot × List Int × Int)).comp ((Lens.snd (Int) (Int × Int × Cmd × List Key × Int × List Write × Reply × Bool × Int × Int × Int × List Spot × List Int × Int)).comp ((Lens.snd (Int) (Int × Cmd × List Key × Int × List Write × Reply × Bool × Int × Int × Int × List Spot × List Int × Int)).comp ((Lens.snd (Int) (Cmd × List Key × Int × List Write × Reply × Bool × Int × Int × Int × List Spot × List Int × Int)).comp ((Lens.snd (Cmd) (List Key × Int × List Write × Reply × Bool × Int × Int × Int × List Spot × List Int × Int)).comp ((Lens.snd (List Key) (Int × List Write × Reply × Bool × Int × Int × Int × List Spot × List Int × Int)).comp ((Lens.snd (Int) (List Write × Reply × Bool × Int × Int × Int × List Spot × List Int × Int)).comp ((Lens.snd (List Write) (Reply × Bool × Int × Int × Int × List Spot × List Int × Int)).comp ((Lens.snd (Reply) (Bool × Int × Int × Int × List Spot × List Int × Int)).comp ((Lens.snd (Bool) (Int × Int × Int × List Spot × List Int × Int)).comp (Lens.fst (Int) (Int × Int × List Spot × List Int × Int))))))))))))).set_ok h k
theorem Sess.l_ver : Lens 25 (fun x : Sess => x.ver) Sess.s_ver where
  fit := by decide
  get_ok h := ((Lens.snd (Int) (List Str × Int × Int × Int × Cmd × List Key × Int × List Write × Reply × Bool × Int × Int × Int × List Spot × List Int × Int)).comp ((Lens.snd (List Str) (Int × Int × Int × Cmd × List Key × Int × List Write × Reply × Bool × Int × Int × Int × List Spot × List Int × Int)).comp ((Lens.snd (Int) (Int × Int × Cmd × List Key × Int × List Write × Reply × Bool × Int × Int × Int × List Spot × List Int × Int)).comp ((Lens.snd (Int) (Int × Cmd × List Key × Int × List Write × Reply × Bool × Int × Int × Int × List Spot × List Int × Int)).comp ((Lens.snd (Int) (Cmd × List Key × Int × List Write × Reply × Bool × Int × Int × Int × List Spot × List Int × Int)).comp ((Lens.snd (Cmd) (List Key × Int × List Write × Reply × Bool × Int × Int × Int × List Spot × List Int × Int)).comp ((Lens.snd (List Key) (Int × List Write × Reply × Bool × Int × Int × Int × List Spot × List Int × Int)).comp ((Lens.snd (Int) (List Write × Reply × Bool × Int × Int × Int × List Spot × List Int × Int)).comp ((Lens.snd (List Write) (Reply × Bool × Int × Int × Int × List Spot × List Int × Int)).comp ((Lens.snd (Reply) (Bool × Int × Int × Int × List Spot × List Int × Int)).comp ((Lens.snd (Bool) (Int × Int × Int × List Spot × List Int × Int)).comp ((Lens.snd (Int) (Int × Int × List Spot × List Int × Int)).comp (Lens.fst (Int) (Int × List Spot × List Int × Int)))))))))))))).get_ok h
  set_ok h k := ((Lens.snd (Int) (List Str × Int × Int × Int × Cmd × List Key × Int × List Write × Reply × Bool × Int × Int × Int × List Spot × List Int × Int)).comp ((Lens.snd (List Str) (Int × Int × Int × Cmd × List Key × Int × List Write × Reply × Bool × Int × Int × Int × List Spot × List Int × Int)).comp ((Lens.snd (Int) (Int × Int × Cmd × List Key × Int × List Write × Reply × Bool × Int × Int × Int × List Spot × List Int × Int)).comp ((Lens.snd (Int) (Int × Cmd × List Key × Int × List Write × Reply × Bool × Int × Int × Int × List Spot × List Int × Int)).comp ((Lens.snd (Int) (Cmd × List Key × Int × List Write × Reply × Bool × Int × Int × Int × List Spot × List Int × Int)).comp ((Lens.snd (Cmd) (List Key × Int × List Write × Reply × Bool × Int × Int × Int × List Spot × List Int × Int)).comp ((Lens.snd (List Key) (Int × List Write × Reply × Bool × Int × Int × Int × List Spot × List Int × Int)).comp ((Lens.snd (Int) (List Write × Reply × Bool × Int × Int × Int × List Spot × List Int × Int)).comp ((Lens.snd (List Write) (Reply × Bool × Int × Int × Int × List Spot × List Int × Int)).comp ((Lens.snd (Reply) (Bool × Int × Int × Int × List Spot × List Int × Int)).comp ((Lens.snd (Bool) (Int × Int × Int × List Spot × List Int × Int)).comp ((Lens.snd (Int) (Int × Int × List Spot × List Int × Int)).comp (Lens.fst (Int) (Int × List Spot × List Int × Int)))))))))))))).set_ok h k
theorem Sess.l_room : Lens 26 (fun x : Sess => x.room) Sess.s_room where
  fit := by decide
  get_ok h := ((Lens.snd (Int) (List Str × Int × Int × Int × Cmd × List Key × Int × List Write × Reply × Bool × Int × Int × Int × List Spot × List Int × Int)).comp ((Lens.snd (List Str) (Int × Int × Int × Cmd × List Key × Int × List Write × Reply × Bool × Int × Int × Int × List Spot × List Int × Int)).comp ((Lens.snd (Int) (Int × Int × Cmd × List Key × Int × List Write × Reply × Bool × Int × Int × Int × List Spot × List Int × Int)).comp ((Lens.snd (Int) (Int × Cmd × List Key × Int × List Write × Reply × Bool × Int × Int × Int × List Spot × List Int × Int)).comp ((Lens.snd (Int) (Cmd × List Key × Int × List Write × Reply × Bool × Int × Int × Int × List Spot × List Int × Int)).comp ((Lens.snd (Cmd) (List Key × Int × List Write × Reply × Bool × Int × Int × Int × List Spot × List Int × Int)).comp ((Lens.snd (List Key) (Int × List Write × Reply × Bool × Int × Int × Int × List Spot × List Int × Int)).comp ((Lens.snd (Int) (List Write × Reply × Bool × Int × Int × Int × List Spot × List Int × Int)).comp ((Lens.snd (List Write) (Reply × Bool × Int × Int × Int × List Spot × List Int × Int)).comp ((Lens.snd (Reply) (Bool × Int × Int × Int × List Spot × List Int × Int)).comp ((Lens.snd (Bool) (Int × Int × Int × List Spot × List Int × Int)).comp ((Lens.snd (Int) (Int × Int × List Spot × List Int × Int)).comp ((Lens.snd (Int) (Int × List Spot × List Int × Int)).comp (Lens.fst (Int) (List Spot × List Int × Int))))))))))))))).get_ok h
  set_ok h k := ((Lens.snd (Int) (List Str × Int × Int × Int × Cmd × List Key × Int × List Write × Reply × Bool × Int × Int × Int × List Spot × List Int × Int)).comp ((Lens.snd (List Str) (Int × Int × Int × Cmd × List Key × Int × List Write × Reply × Bool × Int × Int × Int × List Spot × List Int × Int)).comp ((Lens.snd (Int) (Int × Int × Cmd × List Key × Int × List Write × Reply × Bool × Int × Int × Int × List Spot × List Int × Int)).comp ((Lens.snd (Int) (Int × Cmd × List Key × Int × List Write × Reply × Bool × Int × Int × Int × List Spot × List Int × Int)).comp ((Lens.snd (Int) (Cmd × List Key × Int × List Write × Reply × Bool × Int × Int × Int × List Spot × List Int × Int)).comp ((Lens.snd (Cmd) (List Key × Int × List Write × Reply × Bool × Int × Int × Int × List Spot × List Int × Int)).comp ((Lens.snd (List Key) (Int × List Write × Reply × Bool × Int × Int × Int × List Spot × List Int × Int)).comp ((Lens.snd (Int) (List Write × Reply × Bool × Int × Int × Int × List Spot × List Int × Int)).comp ((Lens.snd (List Write) (Reply × Bool × Int × Int × Int × List Spot × List Int × Int)).comp ((Lens.snd (Reply) (Bool × Int × Int × Int × List Spot × List Int × Int)).comp ((Lens.snd (Bool) (Int × Int × Int × List Spot × List Int × Int)).comp ((Lens.snd (Int) (Int × Int × List Spot × List Int × Int)).comp ((Lens.snd (Int) (Int × List Spot × List Int × Int)).comp (Lens.fst (Int) (List Spot × List Int × Int))))))))))))))).set_ok h k
theorem Sess.l_copies : Lens 27 (fun x : Sess => x.copies) Sess.s_copies where
  fit := by decide
  get_ok h := ((Lens.snd (Int) (List Str × Int × Int × Int × Cmd × List Key × Int × List Write × Reply × Bool × Int × Int × Int × List Spot × List Int × Int)).comp ((Lens.snd (List Str) (Int × Int × Int × Cmd × List Key × Int × List Write × Reply × Bool × Int × Int × Int × List Spot × List Int × Int)).comp ((Lens.snd (Int) (Int × Int × Cmd × List Key × Int × List Write × Reply × Bool × Int × Int × Int × List Spot × List Int × Int)).comp ((Lens.snd (Int) (Int × Cmd × List Key × Int × List Write × Reply × Bool × Int × Int × Int × List Spot × List Int × Int)).comp ((Lens.snd (Int) (Cmd × List Key × Int × List Write × Reply × Bool × Int × Int × Int × List Spot × List Int × Int)).comp ((Lens.snd (Cmd) (List Key × Int × List Write × Reply × Bool × Int × Int × Int × List Spot × List Int × Int)).comp ((Lens.snd (List Key) (Int × List Write × Reply × Bool × Int × Int × Int × List Spot × List Int × Int)).comp ((Lens.snd (Int) (List Write × Reply × Bool × Int × Int × Int × List Spot × List Int × Int)).comp ((Lens.snd (List Write) (Reply × Bool × Int × Int × Int × List Spot × List Int × Int)).comp ((Lens.snd (Reply) (Bool × Int × Int × Int × List Spot × List Int × Int)).comp ((Lens.snd (Bool) (Int × Int × Int × List Spot × List Int × Int)).comp ((Lens.snd (Int) (Int × Int × List Spot × List Int × Int)).comp ((Lens.snd (Int) (Int × List Spot × List Int × Int)).comp ((Lens.snd (Int) (List Spot × List Int × Int)).comp (Lens.fst (List Spot) (List Int × Int)))))))))))))))).get_ok h
  set_ok h k := ((Lens.snd (Int) (List Str × Int × Int × Int × Cmd × List Key × Int × List Write × Reply × Bool × Int × Int × Int × List Spot × List Int × Int)).comp ((Lens.snd (List Str) (Int × Int × Int × Cmd × List Key × Int × List Write × Reply × Bool × Int × Int × Int × List Spot × List Int × Int)).comp ((Lens.snd (Int) (Int × Int × Cmd × List Key × Int × List Write × Reply × Bool × Int × Int × Int × List Spot × List Int × Int)).comp ((Lens.snd (Int) (Int × Cmd × List Key × Int × List Write × Reply × Bool × Int × Int × Int × List Spot × List Int × Int)).comp ((Lens.snd (Int) (Cmd × List Key × Int × List Write × Reply × Bool × Int × Int × Int × List Spot × List Int × Int)).comp ((Lens.snd (Cmd) (List Key × Int × List Write × Reply × Bool × Int × Int × Int × List Spot × List Int × Int)).comp ((Lens.snd (List Key) (Int × List Write × Reply × Bool × Int × Int × Int × List Spot × List Int × Int)).comp ((Lens.snd (Int) (List Write × Reply × Bool × Int × Int × Int × List Spot × List Int × Int)).comp ((Lens.snd (List Write) (Reply × Bool × Int × Int × Int × List Spot × List Int × Int)).comp ((Lens.snd (Reply) (Bool × Int × Int × Int × List Spot × List Int × Int)).comp ((Lens.snd (Bool) (Int × Int × Int × List Spot × List Int × Int)).comp ((Lens.snd (Int) (Int × Int × List Spot × List Int × Int)).comp ((Lens.snd (Int) (Int × List Spot × List Int × Int)).comp ((Lens.snd (Int) (List Spot × List Int × Int)).comp (Lens.fst (List Spot) (List Int × Int)))))))))))))))).set_ok h k
theorem Sess.l_heads : Lens 28 (fun x : Sess => x.heads) Sess.s_heads where
  fit := by decide
  get_ok h := ((Lens.snd (Int) (List Str × Int × Int × Int × Cmd × List Key × Int × List Write × Reply × Bool × Int × Int × Int × List Spot × List Int × Int)).comp ((Lens.snd (List Str) (Int × Int × Int × Cmd × List Key × Int × List Write × Reply × Bool × Int × Int × Int × List Spot × List Int × Int)).comp ((Lens.snd (Int) (Int × Int × Cmd × List Key × Int × List Write × Reply × Bool × Int × Int × Int × List Spot × List Int × Int)).comp ((Lens.snd (Int) (Int × Cmd × List Key × Int × List Write × Reply × Bool × Int × Int × Int × List Spot × List Int × Int)).comp ((Lens.snd (Int) (Cmd × List Key × Int × List Write × Reply × Bool × Int × Int × Int × List Spot × List Int × Int)).comp ((Lens.snd (Cmd) (List Key × Int × List Write × Reply × Bool × Int × Int × Int × List Spot × List Int × Int)).comp ((Lens.snd (List Key) (Int × List Write × Reply × Bool × Int × Int × Int × List Spot × List Int × Int)).comp ((Lens.snd (Int) (List Write × Reply × Bool × Int × Int × Int × List Spot × List Int × Int)).comp ((Lens.snd (List Write) (Reply × Bool × Int × Int × Int × List Spot × List Int × Int)).comp ((Lens.snd (Reply) (Bool × Int × Int × Int × List Spot × List Int × Int)).comp ((Lens.snd (Bool) (Int × Int × Int × List Spot × List Int × Int)).comp ((Lens.snd (Int) (Int × Int × List Spot × List Int × Int)).comp ((Lens.snd (Int) (Int × List Spot × List Int × Int)).comp ((Lens.snd (Int) (List Spot × List Int × Int)).comp ((Lens.snd (List Spot) (List Int × Int)).comp (Lens.fst (List Int) (Int))))))))))))))))).get_ok h
  set_ok h k := ((Lens.snd (Int) (List Str × Int × Int × Int × Cmd × List Key × Int × List Write × Reply × Bool × Int × Int × Int × List Spot × List Int × Int)).comp ((Lens.snd (List Str) (Int × Int × Int × Cmd × List Key × Int × List Write × Reply × Bool × Int × Int × Int × List Spot × List Int × Int)).comp ((Lens.snd (Int) (Int × Int × Cmd × List Key × Int × List Write × Reply × Bool × Int × Int × Int × List Spot × List Int × Int)).comp ((Lens.snd (Int) (Int × Cmd × List Key × Int × List Write × Reply × Bool × Int × Int × Int × List Spot × List Int × Int)).comp ((Lens.snd (Int) (Cmd × List Key × Int × List Write × Reply × Bool × Int × Int × Int × List Spot × List Int × Int)).comp ((Lens.snd (Cmd) (List Key × Int × List Write × Reply × Bool × Int × Int × Int × List Spot × List Int × Int)).comp ((Lens.snd (List Key) (Int × List Write × Reply × Bool × Int × Int × Int × List Spot × List Int × Int)).comp ((Lens.snd (Int) (List Write × Reply × Bool × Int × Int × Int × List Spot × List Int × Int)).comp ((Lens.snd (List Write) (Reply × Bool × Int × Int × Int × List Spot × List Int × Int)).comp ((Lens.snd (Reply) (Bool × Int × Int × Int × List Spot × List Int × Int)).comp ((Lens.snd (Bool) (Int × Int × Int × List Spot × List Int × Int)).comp ((Lens.snd (Int) (Int × Int × List Spot × List Int × Int)).comp ((Lens.snd (Int) (Int × List Spot × List Int × Int)).comp ((Lens.snd (Int) (List Spot × List Int × Int)).comp ((Lens.snd (List Spot) (List Int × Int)).comp (Lens.fst (List Int) (Int))))))))))))))))).set_ok h k
theorem Sess.l_purse : Lens 29 (fun x : Sess => x.purse) Sess.s_purse where
  fit := by decide
  get_ok h := ((Lens.snd (Int) (List Str × Int × Int × Int × Cmd × List Key × Int × List Write × Reply × Bool × Int × Int × Int × List Spot × List Int × Int)).comp ((Lens.snd (List Str) (Int × Int × Int × Cmd × List Key × Int × List Write × Reply × Bool × Int × Int × Int × List Spot × List Int × Int)).comp ((Lens.snd (Int) (Int × Int × Cmd × List Key × Int × List Write × Reply × Bool × Int × Int × Int × List Spot × List Int × Int)).comp ((Lens.snd (Int) (Int × Cmd × List Key × Int × List Write × Reply × Bool × Int × Int × Int × List Spot × List Int × Int)).comp ((Lens.snd (Int) (Cmd × List Key × Int × List Write × Reply × Bool × Int × Int × Int × List Spot × List Int × Int)).comp ((Lens.snd (Cmd) (List Key × Int × List Write × Reply × Bool × Int × Int × Int × List Spot × List Int × Int)).comp ((Lens.snd (List Key) (Int × List Write × Reply × Bool × Int × Int × Int × List Spot × List Int × Int)).comp ((Lens.snd (Int) (List Write × Reply × Bool × Int × Int × Int × List Spot × List Int × Int)).comp ((Lens.snd (List Write) (Reply × Bool × Int × Int × Int × List Spot × List Int × Int)).comp ((Lens.snd (Reply) (Bool × Int × Int × Int × List Spot × List Int × Int)).comp ((Lens.snd (Bool) (Int × Int × Int × List Spot × List Int × Int)).comp ((Lens.snd (Int) (Int × Int × List Spot × List Int × Int)).comp ((Lens.snd (Int) (Int × List Spot × List Int × Int)).comp ((Lens.snd (Int) (List Spot × List Int × Int)).comp ((Lens.snd (List Spot) (List Int × Int)).comp ((Lens.snd (List Int) (Int)).comp (Lens.id (Int)))))))))))))))))).get_ok h
  set_ok h k := ((Lens.snd (Int) (List Str × Int × Int × Int × Cmd × List Key × Int × List Write × Reply × Bool × Int × Int × Int × List Spot × List Int × Int)).comp ((Lens.snd (List Str) (Int × Int × Int × Cmd × List Key × Int × List Write × Reply × Bool × Int × Int × Int × List Spot × List Int × Int)).comp ((Lens.snd (Int) (Int × Int × Cmd × List Key × Int × List Write × Reply × Bool × Int × Int × Int × List Spot × List Int × Int)).comp ((Lens.snd (Int) (Int × Cmd × List Key × Int × List Write × Reply × Bool × Int × Int × Int × List Spot × List Int × Int)).comp ((Lens.snd (Int) (Cmd × List Key × Int × List Write × Reply × Bool × Int × Int × Int × List Spot × List Int × Int)).comp ((Lens.snd (Cmd) (List Key × Int × List Write × Reply × Bool × Int × Int × Int × List Spot × List Int × Int)).comp ((Lens.snd (List Key) (Int × List Write × Reply × Bool × Int × Int × Int × List Spot × List Int × Int)).comp ((Lens.snd (Int) (List Write × Reply × Bool × Int × Int × Int × List Spot × List Int × Int)).comp ((Lens.snd (List Write) (Reply × Bool × Int × Int × Int × List Spot × List Int × Int)).comp ((Lens.snd (Reply) (Bool × Int × Int × Int × List Spot × List Int × Int)).comp ((Lens.snd (Bool) (Int × Int × Int × List Spot × List Int × Int)).comp ((Lens.snd (Int) (Int × Int × List Spot × List Int × Int)).comp ((Lens.snd (Int) (Int × List Spot × List Int × Int)).comp ((Lens.snd (Int) (List Spot × List Int × Int)).comp ((Lens.snd (List Spot) (List Int × Int)).comp ((Lens.snd (List Int) (Int)).comp (Lens.id (Int)))))))))))))))))).set_ok h k
structure Script where
  player : Int := 0
  lines : List Str := []
  deriving DecidableEq, Inhabited
@[reducible] def Script.tuple (x : Script) : Int × List Str := (x.player, x.lines)
instance : Rep Script := Rep.iso Script.tuple
def Script.s_player (x : Script) (y : Int) : Script := { x with player := y }
def Script.s_lines (x : Script) (y : List Str) : Script := { x with lines := y }
theorem Script.l_player : Lens 0 (fun x : Script => x.player) Script.s_player where
  fit := by decide
  get_ok h := (Lens.fst (Int) (List Str)).get_ok h
  set_ok h k := (Lens.fst (Int) (List Str)).set_ok h k
theorem Script.l_lines : Lens 1 (fun x : Script => x.lines) Script.s_lines where
  fit := by decide
  get_ok h := ((Lens.snd (Int) (List Str)).comp (Lens.id (List Str))).get_ok h
  set_ok h k := ((Lens.snd (Int) (List Str)).comp (Lens.id (List Str))).set_ok h k
structure CPlain where
  kind : Int := 0
  dir : Int := 0
  item : Int := 0
  box : Int := 0
  who : Int := 0
  pay : Int := 0
  fee : Int := 0
  deriving DecidableEq, Inhabited
@[reducible] def CPlain.tuple (x : CPlain) : Int × Int × Int × Int × Int × Int × Int := (x.kind, x.dir, x.item, x.box, x.who, x.pay, x.fee)
instance : Rep CPlain := Rep.iso CPlain.tuple
def CPlain.s_kind (x : CPlain) (y : Int) : CPlain := { x with kind := y }
def CPlain.s_dir (x : CPlain) (y : Int) : CPlain := { x with dir := y }
def CPlain.s_item (x : CPlain) (y : Int) : CPlain := { x with item := y }
def CPlain.s_box (x : CPlain) (y : Int) : CPlain := { x with box := y }
def CPlain.s_who (x : CPlain) (y : Int) : CPlain := { x with who := y }
def CPlain.s_pay (x : CPlain) (y : Int) : CPlain := { x with pay := y }
def CPlain.s_fee (x : CPlain) (y : Int) : CPlain := { x with fee := y }
theorem CPlain.l_kind : Lens 0 (fun x : CPlain => x.kind) CPlain.s_kind where
  fit := by decide
  get_ok h := (Lens.fst (Int) (Int × Int × Int × Int × Int × Int)).get_ok h
  set_ok h k := (Lens.fst (Int) (Int × Int × Int × Int × Int × Int)).set_ok h k
theorem CPlain.l_dir : Lens 1 (fun x : CPlain => x.dir) CPlain.s_dir where
  fit := by decide
  get_ok h := ((Lens.snd (Int) (Int × Int × Int × Int × Int × Int)).comp (Lens.fst (Int) (Int × Int × Int × Int × Int))).get_ok h
  set_ok h k := ((Lens.snd (Int) (Int × Int × Int × Int × Int × Int)).comp (Lens.fst (Int) (Int × Int × Int × Int × Int))).set_ok h k
theorem CPlain.l_item : Lens 2 (fun x : CPlain => x.item) CPlain.s_item where
  fit := by decide
  get_ok h := ((Lens.snd (Int) (Int × Int × Int × Int × Int × Int)).comp ((Lens.snd (Int) (Int × Int × Int × Int × Int)).comp (Lens.fst (Int) (Int × Int × Int × Int)))).get_ok h
  set_ok h k := ((Lens.snd (Int) (Int × Int × Int × Int × Int × Int)).comp ((Lens.snd (Int) (Int × Int × Int × Int × Int)).comp (Lens.fst (Int) (Int × Int × Int × Int)))).set_ok h k
theorem CPlain.l_box : Lens 3 (fun x : CPlain => x.box) CPlain.s_box where
  fit := by decide
  get_ok h := ((Lens.snd (Int) (Int × Int × Int × Int × Int × Int)).comp ((Lens.snd (Int) (Int × Int × Int × Int × Int)).comp ((Lens.snd (Int) (Int × Int × Int × Int)).comp (Lens.fst (Int) (Int × Int × Int))))).get_ok h
  set_ok h k := ((Lens.snd (Int) (Int × Int × Int × Int × Int × Int)).comp ((Lens.snd (Int) (Int × Int × Int × Int × Int)).comp ((Lens.snd (Int) (Int × Int × Int × Int)).comp (Lens.fst (Int) (Int × Int × Int))))).set_ok h k
theorem CPlain.l_who : Lens 4 (fun x : CPlain => x.who) CPlain.s_who where
  fit := by decide
  get_ok h := ((Lens.snd (Int) (Int × Int × Int × Int × Int × Int)).comp ((Lens.snd (Int) (Int × Int × Int × Int × Int)).comp ((Lens.snd (Int) (Int × Int × Int × Int)).comp ((Lens.snd (Int) (Int × Int × Int)).comp (Lens.fst (Int) (Int × Int)))))).get_ok h
  set_ok h k := ((Lens.snd (Int) (Int × Int × Int × Int × Int × Int)).comp ((Lens.snd (Int) (Int × Int × Int × Int × Int)).comp ((Lens.snd (Int) (Int × Int × Int × Int)).comp ((Lens.snd (Int) (Int × Int × Int)).comp (Lens.fst (Int) (Int × Int)))))).set_ok h k
theorem CPlain.l_pay : Lens 5 (fun x : CPlain => x.pay) CPlain.s_pay where
  fit := by decide
  get_ok h := ((Lens.snd (Int) (Int × Int × Int × Int × Int × Int)).comp ((Lens.snd (Int) (Int × Int × Int × Int × Int)).comp ((Lens.snd (Int) (Int × Int × Int × Int)).comp ((Lens.snd (Int) (Int × Int × Int)).comp ((Lens.snd (Int) (Int × Int)).comp (Lens.fst (Int) (Int))))))).get_ok h
  set_ok h k := ((Lens.snd (Int) (Int × Int × Int × Int × Int × Int)).comp ((Lens.snd (Int) (Int × Int × Int × Int × Int)).comp ((Lens.snd (Int) (Int × Int × Int × Int)).comp ((Lens.snd (Int) (Int × Int × Int)).comp ((Lens.snd (Int) (Int × Int)).comp (Lens.fst (Int) (Int))))))).set_ok h k
theorem CPlain.l_fee : Lens 6 (fun x : CPlain => x.fee) CPlain.s_fee where
  fit := by decide
  get_ok h := ((Lens.snd (Int) (Int × Int × Int × Int × Int × Int)).comp ((Lens.snd (Int) (Int × Int × Int × Int × Int)).comp ((Lens.snd (Int) (Int × Int × Int × Int)).comp ((Lens.snd (Int) (Int × Int × Int)).comp ((Lens.snd (Int) (Int × Int)).comp ((Lens.snd (Int) (Int)).comp (Lens.id (Int)))))))).get_ok h
  set_ok h k := ((Lens.snd (Int) (Int × Int × Int × Int × Int × Int)).comp ((Lens.snd (Int) (Int × Int × Int × Int × Int)).comp ((Lens.snd (Int) (Int × Int × Int × Int)).comp ((Lens.snd (Int) (Int × Int × Int)).comp ((Lens.snd (Int) (Int × Int)).comp ((Lens.snd (Int) (Int)).comp (Lens.id (Int)))))))).set_ok h k
structure RPlain where
  err : Int := 0
  kind : Int := 0
  room : Int := 0
  coins : Int := 0
  deriving DecidableEq, Inhabited
@[reducible] def RPlain.tuple (x : RPlain) : Int × Int × Int × Int := (x.err, x.kind, x.room, x.coins)
instance : Rep RPlain := Rep.iso RPlain.tuple
def RPlain.s_err (x : RPlain) (y : Int) : RPlain := { x with err := y }
def RPlain.s_kind (x : RPlain) (y : Int) : RPlain := { x with kind := y }
def RPlain.s_room (x : RPlain) (y : Int) : RPlain := { x with room := y }
def RPlain.s_coins (x : RPlain) (y : Int) : RPlain := { x with coins := y }
theorem RPlain.l_err : Lens 0 (fun x : RPlain => x.err) RPlain.s_err where
  fit := by decide
  get_ok h := (Lens.fst (Int) (Int × Int × Int)).get_ok h
  set_ok h k := (Lens.fst (Int) (Int × Int × Int)).set_ok h k
theorem RPlain.l_kind : Lens 1 (fun x : RPlain => x.kind) RPlain.s_kind where
  fit := by decide
  get_ok h := ((Lens.snd (Int) (Int × Int × Int)).comp (Lens.fst (Int) (Int × Int))).get_ok h
  set_ok h k := ((Lens.snd (Int) (Int × Int × Int)).comp (Lens.fst (Int) (Int × Int))).set_ok h k
theorem RPlain.l_room : Lens 2 (fun x : RPlain => x.room) RPlain.s_room where
  fit := by decide
  get_ok h := ((Lens.snd (Int) (Int × Int × Int)).comp ((Lens.snd (Int) (Int × Int)).comp (Lens.fst (Int) (Int)))).get_ok h
  set_ok h k := ((Lens.snd (Int) (Int × Int × Int)).comp ((Lens.snd (Int) (Int × Int)).comp (Lens.fst (Int) (Int)))).set_ok h k
theorem RPlain.l_coins : Lens 3 (fun x : RPlain => x.coins) RPlain.s_coins where
  fit := by decide
  get_ok h := ((Lens.snd (Int) (Int × Int × Int)).comp ((Lens.snd (Int) (Int × Int)).comp ((Lens.snd (Int) (Int)).comp (Lens.id (Int))))).get_ok h
  set_ok h k := ((Lens.snd (Int) (Int × Int × Int)).comp ((Lens.snd (Int) (Int × Int)).comp ((Lens.snd (Int) (Int)).comp (Lens.id (Int))))).set_ok h k
structure CmdR where
  kind : Int := 0
  dir : Int := 0
  item : Int := 0
  box : Int := 0
  who : Int := 0
  gives : RawSl := RawSl.nil
  pay : Int := 0
  wants : RawSl := RawSl.nil
  fee : Int := 0
  deriving Inhabited
@[reducible] def CmdR.tuple (x : CmdR) : Int × Int × Int × Int × Int × RawSl × Int × RawSl × Int := (x.kind, x.dir, x.item, x.box, x.who, x.gives, x.pay, x.wants, x.fee)
instance : Rep CmdR := Rep.iso CmdR.tuple
def CmdR.s_kind (x : CmdR) (y : Int) : CmdR := { x with kind := y }
def CmdR.s_dir (x : CmdR) (y : Int) : CmdR := { x with dir := y }
def CmdR.s_item (x : CmdR) (y : Int) : CmdR := { x with item := y }
def CmdR.s_box (x : CmdR) (y : Int) : CmdR := { x with box := y }
def CmdR.s_who (x : CmdR) (y : Int) : CmdR := { x with who := y }
def CmdR.s_gives (x : CmdR) (y : RawSl) : CmdR := { x with gives := y }
def CmdR.s_pay (x : CmdR) (y : Int) : CmdR := { x with pay := y }
def CmdR.s_wants (x : CmdR) (y : RawSl) : CmdR := { x with wants := y }
def CmdR.s_fee (x : CmdR) (y : Int) : CmdR := { x with fee := y }
theorem CmdR.l_kind : Lens 0 (fun x : CmdR => x.kind) CmdR.s_kind where
  fit := by decide
  get_ok h := (Lens.fst (Int) (Int × Int × Int × Int × RawSl × Int × RawSl × Int)).get_ok h
  set_ok h k := (Lens.fst (Int) (Int × Int × Int × Int × RawSl × Int × RawSl × Int)).set_ok h k
theorem CmdR.l_dir : Lens 1 (fun x : CmdR => x.dir) CmdR.s_dir where
  fit := by decide
  get_ok h := ((Lens.snd (Int) (Int × Int × Int × Int × RawSl × Int × RawSl × Int)).comp (Lens.fst (Int) (Int × Int × Int × RawSl × Int × RawSl × Int))).get_ok h
  set_ok h k := ((Lens.snd (Int) (Int × Int × Int × Int × RawSl × Int × RawSl × Int)).comp (Lens.fst (Int) (Int × Int × Int × RawSl × Int × RawSl × Int))).set_ok h k
theorem CmdR.l_item : Lens 2 (fun x : CmdR => x.item) CmdR.s_item where
  fit := by decide
  get_ok h := ((Lens.snd (Int) (Int × Int × Int × Int × RawSl × Int × RawSl × Int)).comp ((Lens.snd (Int) (Int × Int × Int × RawSl × Int × RawSl × Int)).comp (Lens.fst (Int) (Int × Int × RawSl × Int × RawSl × Int)))).get_ok h
  set_ok h k := ((Lens.snd (Int) (Int × Int × Int × Int × RawSl × Int × RawSl × Int)).comp ((Lens.snd (Int) (Int × Int × Int × RawSl × Int × RawSl × Int)).comp (Lens.fst (Int) (Int × Int × RawSl × Int × RawSl × Int)))).set_ok h k
theorem CmdR.l_box : Lens 3 (fun x : CmdR => x.box) CmdR.s_box where
  fit := by decide
  get_ok h := ((Lens.snd (Int) (Int × Int × Int × Int × RawSl × Int × RawSl × Int)).comp ((Lens.snd (Int) (Int × Int × Int × RawSl × Int × RawSl × Int)).comp ((Lens.snd (Int) (Int × Int × RawSl × Int × RawSl × Int)).comp (Lens.fst (Int) (Int × RawSl × Int × RawSl × Int))))).get_ok h
  set_ok h k := ((Lens.snd (Int) (Int × Int × Int × Int × RawSl × Int × RawSl × Int)).comp ((Lens.snd (Int) (Int × Int × Int × RawSl × Int × RawSl × Int)).comp ((Lens.snd (Int) (Int × Int × RawSl × Int × RawSl × Int)).comp (Lens.fst (Int) (Int × RawSl × Int × RawSl × Int))))).set_ok h k
theorem CmdR.l_who : Lens 4 (fun x : CmdR => x.who) CmdR.s_who where
  fit := by decide
  get_ok h := ((Lens.snd (Int) (Int × Int × Int × Int × RawSl × Int × RawSl × Int)).comp ((Lens.snd (Int) (Int × Int × Int × RawSl × Int × RawSl × Int)).comp ((Lens.snd (Int) (Int × Int × RawSl × Int × RawSl × Int)).comp ((Lens.snd (Int) (Int × RawSl × Int × RawSl × Int)).comp (Lens.fst (Int) (RawSl × Int × RawSl × Int)))))).get_ok h
  set_ok h k := ((Lens.snd (Int) (Int × Int × Int × Int × RawSl × Int × RawSl × Int)).comp ((Lens.snd (Int) (Int × Int × Int × RawSl × Int × RawSl × Int)).comp ((Lens.snd (Int) (Int × Int × RawSl × Int × RawSl × Int)).comp ((Lens.snd (Int) (Int × RawSl × Int × RawSl × Int)).comp (Lens.fst (Int) (RawSl × Int × RawSl × Int)))))).set_ok h k
theorem CmdR.l_gives : Lens 5 (fun x : CmdR => x.gives) CmdR.s_gives where
  fit := by decide
  get_ok h := ((Lens.snd (Int) (Int × Int × Int × Int × RawSl × Int × RawSl × Int)).comp ((Lens.snd (Int) (Int × Int × Int × RawSl × Int × RawSl × Int)).comp ((Lens.snd (Int) (Int × Int × RawSl × Int × RawSl × Int)).comp ((Lens.snd (Int) (Int × RawSl × Int × RawSl × Int)).comp ((Lens.snd (Int) (RawSl × Int × RawSl × Int)).comp (Lens.fst (RawSl) (Int × RawSl × Int))))))).get_ok h
  set_ok h k := ((Lens.snd (Int) (Int × Int × Int × Int × RawSl × Int × RawSl × Int)).comp ((Lens.snd (Int) (Int × Int × Int × RawSl × Int × RawSl × Int)).comp ((Lens.snd (Int) (Int × Int × RawSl × Int × RawSl × Int)).comp ((Lens.snd (Int) (Int × RawSl × Int × RawSl × Int)).comp ((Lens.snd (Int) (RawSl × Int × RawSl × Int)).comp (Lens.fst (RawSl) (Int × RawSl × Int))))))).set_ok h k
theorem CmdR.l_pay : Lens 6 (fun x : CmdR => x.pay) CmdR.s_pay where
  fit := by decide
  get_ok h := ((Lens.snd (Int) (Int × Int × Int × Int × RawSl × Int × RawSl × Int)).comp ((Lens.snd (Int) (Int × Int × Int × RawSl × Int × RawSl × Int)).comp ((Lens.snd (Int) (Int × Int × RawSl × Int × RawSl × Int)).comp ((Lens.snd (Int) (Int × RawSl × Int × RawSl × Int)).comp ((Lens.snd (Int) (RawSl × Int × RawSl × Int)).comp ((Lens.snd (RawSl) (Int × RawSl × Int)).comp (Lens.fst (Int) (RawSl × Int)))))))).get_ok h
  set_ok h k := ((Lens.snd (Int) (Int × Int × Int × Int × RawSl × Int × RawSl × Int)).comp ((Lens.snd (Int) (Int × Int × Int × RawSl × Int × RawSl × Int)).comp ((Lens.snd (Int) (Int × Int × RawSl × Int × RawSl × Int)).comp ((Lens.snd (Int) (Int × RawSl × Int × RawSl × Int)).comp ((Lens.snd (Int) (RawSl × Int × RawSl × Int)).comp ((Lens.snd (RawSl) (Int × RawSl × Int)).comp (Lens.fst (Int) (RawSl × Int)))))))).set_ok h k
theorem CmdR.l_wants : Lens 7 (fun x : CmdR => x.wants) CmdR.s_wants where
  fit := by decide
  get_ok h := ((Lens.snd (Int) (Int × Int × Int × Int × RawSl × Int × RawSl × Int)).comp ((Lens.snd (Int) (Int × Int × Int × RawSl × Int × RawSl × Int)).comp ((Lens.snd (Int) (Int × Int × RawSl × Int × RawSl × Int)).comp ((Lens.snd (Int) (Int × RawSl × Int × RawSl × Int)).comp ((Lens.snd (Int) (RawSl × Int × RawSl × Int)).comp ((Lens.snd (RawSl) (Int × RawSl × Int)).comp ((Lens.snd (Int) (RawSl × Int)).comp (Lens.fst (RawSl) (Int))))))))).get_ok h
  set_ok h k := ((Lens.snd (Int) (Int × Int × Int × Int × RawSl × Int × RawSl × Int)).comp ((Lens.snd (Int) (Int × Int × Int × RawSl × Int × RawSl × Int)).comp ((Lens.snd (Int) (Int × Int × RawSl × Int × RawSl × Int)).comp ((Lens.snd (Int) (Int × RawSl × Int × RawSl × Int)).comp ((Lens.snd (Int) (RawSl × Int × RawSl × Int)).comp ((Lens.snd (RawSl) (Int × RawSl × Int)).comp ((Lens.snd (Int) (RawSl × Int)).comp (Lens.fst (RawSl) (Int))))))))).set_ok h k
theorem CmdR.l_fee : Lens 8 (fun x : CmdR => x.fee) CmdR.s_fee where
  fit := by decide
  get_ok h := ((Lens.snd (Int) (Int × Int × Int × Int × RawSl × Int × RawSl × Int)).comp ((Lens.snd (Int) (Int × Int × Int × RawSl × Int × RawSl × Int)).comp ((Lens.snd (Int) (Int × Int × RawSl × Int × RawSl × Int)).comp ((Lens.snd (Int) (Int × RawSl × Int × RawSl × Int)).comp ((Lens.snd (Int) (RawSl × Int × RawSl × Int)).comp ((Lens.snd (RawSl) (Int × RawSl × Int)).comp ((Lens.snd (Int) (RawSl × Int)).comp ((Lens.snd (RawSl) (Int)).comp (Lens.id (Int)))))))))).get_ok h
  set_ok h k := ((Lens.snd (Int) (Int × Int × Int × Int × RawSl × Int × RawSl × Int)).comp ((Lens.snd (Int) (Int × Int × Int × RawSl × Int × RawSl × Int)).comp ((Lens.snd (Int) (Int × Int × RawSl × Int × RawSl × Int)).comp ((Lens.snd (Int) (Int × RawSl × Int × RawSl × Int)).comp ((Lens.snd (Int) (RawSl × Int × RawSl × Int)).comp ((Lens.snd (RawSl) (Int × RawSl × Int)).comp ((Lens.snd (Int) (RawSl × Int)).comp ((Lens.snd (RawSl) (Int)).comp (Lens.id (Int)))))))))).set_ok h k
end Go.Inn
