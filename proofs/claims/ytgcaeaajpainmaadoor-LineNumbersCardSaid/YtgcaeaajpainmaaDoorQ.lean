/- How the seat's types of data are opened: by a program (opens.py) of this session. -/
import Derived.Test.YtgcaeaajpainmaaDoorF
import Derived.Test.YtgcaeaajpainmaaDoorO
import Derived.KernelRfl
set_option linter.all false
namespace Go.Inn
open Go Go.RowKit
instance : Small Cmd := Small.iso Cmd.tuple
instance : Small Spot := Small.iso Spot.tuple
instance : Small Seen := Small.iso Seen.tuple
instance : Small Reply := Small.iso Reply.tuple
instance : Small Key := Small.iso Key.tuple
instance : Small Write := Small.iso Write.tuple
instance : Small Sess := Small.iso Sess.tuple
instance : Small Script := Small.iso Script.tuple
instance : Small CPlain := Small.iso CPlain.tuple
instance : Small RPlain := Small.iso RPlain.tuple
end Go.Inn
namespace Go.Proofs.YtgcaeaajpainmaaDoor
open Go Go.RowKit Go.Inn
theorem opn_2 : Opn Tryd.prog 2 (Int) := Opn.int (by kernel_rfl) Tryd.underlying2
theorem opn_3 : Opn Tryd.prog 3 (Int) := Opn.int (by kernel_rfl) Tryd.underlying3
theorem opn_4 : Opn Tryd.prog 4 (Bool) := Opn.bool (by kernel_rfl) Tryd.underlying4
theorem opn_5 : Opn Tryd.prog 5 (UInt8) := Opn.u8 (by kernel_rfl) Tryd.underlying5
theorem opn_6 : Opn Tryd.prog 6 (UInt8) := Opn.u8 (by kernel_rfl) Tryd.underlying6
theorem opn_9 : Opn Tryd.prog 9 (Str) := Opn.str (by kernel_rfl) Tryd.underlying9
theorem opn_10 : Opn Tryd.prog 10 (Str) := Opn.str (by kernel_rfl) Tryd.underlying10
theorem opn_11 : Opn Tryd.prog 11 (Str) := Opn.str (by kernel_rfl) Tryd.underlying11
theorem opn_22 : Opn Tryd.prog 22 (List Int) := Opn.slice (by kernel_rfl) Tryd.underlying22 (by decide) (of_decide_eq_true (by kernel_rfl)) opn_3
theorem opn_24 : Opn Tryd.prog 24 (Cmd) := Opn.struct Cmd.tuple (fun p => ⟨p.1, p.2.1, p.2.2.1, p.2.2.2.1, p.2.2.2.2.1, p.2.2.2.2.2.1, p.2.2.2.2.2.2.1, p.2.2.2.2.2.2.2.1, p.2.2.2.2.2.2.2.2⟩) (fun _ => rfl) (by kernel_rfl) Tryd.underlying24 (OpnF.cons rfl opn_3 (OpnF.cons rfl opn_3 (OpnF.cons rfl opn_3 (OpnF.cons rfl opn_3 (OpnF.cons rfl opn_3 (OpnF.cons rfl opn_22 (OpnF.cons rfl opn_3 (OpnF.cons rfl opn_22 (OpnF.last rfl opn_3)))))))))
theorem opn_27 : Opn Tryd.prog 27 (Int) := Opn.int (by kernel_rfl) Tryd.underlying27
theorem opn_34 : Opn Tryd.prog 34 (List Str) := Opn.slice (by kernel_rfl) Tryd.underlying34 (by decide) (of_decide_eq_true (by kernel_rfl)) opn_9
theorem opn_37 : Opn Tryd.prog 37 (UInt32) := Opn.u32 (by kernel_rfl) Tryd.underlying37
theorem opn_59 : Opn Tryd.prog 59 (Arr 4 Str) := Opn.arr (by kernel_rfl) Tryd.underlying59 opn_9
theorem opn_60 : Opn Tryd.prog 60 (List (List Str)) := Opn.slice (by kernel_rfl) Tryd.underlying60 (by decide) (of_decide_eq_true (by kernel_rfl)) opn_34
theorem opn_63 : Opn Tryd.prog 63 (Arr 11 Str) := Opn.arr (by kernel_rfl) Tryd.underlying63 opn_9
theorem opn_74 : Opn Tryd.prog 74 (CPlain) := Opn.struct CPlain.tuple (fun p => ⟨p.1, p.2.1, p.2.2.1, p.2.2.2.1, p.2.2.2.2.1, p.2.2.2.2.2.1, p.2.2.2.2.2.2⟩) (fun _ => rfl) (by kernel_rfl) Tryd.underlying74 (OpnF.cons rfl opn_3 (OpnF.cons rfl opn_3 (OpnF.cons rfl opn_3 (OpnF.cons rfl opn_3 (OpnF.cons rfl opn_3 (OpnF.cons rfl opn_3 (OpnF.last rfl opn_3)))))))
theorem opn_97 : Opn Tryd.prog 97 (Arr 24 UInt8) := Opn.arr (by kernel_rfl) Tryd.underlying97 opn_5
theorem opn_110 : Opn Tryd.prog 110 (Arr 65 UInt8) := Opn.arr (by kernel_rfl) Tryd.underlying110 opn_5
theorem opn_113 : Opn Tryd.prog 113 (Arr 256 UInt8) := Opn.arr (by kernel_rfl) Tryd.underlying113 opn_5
theorem opn_118 : Opn Tryd.prog 118 (Int) := Opn.int (by kernel_rfl) Tryd.underlying118
theorem opn_133 : Opn Tryd.prog 133 (Arr 32 UInt8) := Opn.arr (by kernel_rfl) Tryd.underlying133 opn_5
theorem opn_134 : Opn Tryd.prog 134 (Arr 64 UInt8) := Opn.arr (by kernel_rfl) Tryd.underlying134 opn_5
theorem opn_145 : Opn Tryd.prog 145 (UInt8) := Opn.u8 (by kernel_rfl) Tryd.underlying145
theorem opn_146 : Opn Tryd.prog 146 (UInt8) := Opn.u8 (by kernel_rfl) Tryd.underlying146
end Go.Proofs.YtgcaeaajpainmaaDoor
