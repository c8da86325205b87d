/- How the seat's types of data are opened: by a program (opens.py) of this session. -/
import Derived.Test.YtgnblhmejecgfaaGreatDoorF
import Derived.Test.YtgnblhmejecgfaaGreatDoorO
import Derived.KernelRfl
set_option linter.all false
namespace Go.Inn
open Go Go.RowKit
instance : Small Cmd := Small.iso Cmd.tuple
instance : Small Spot := Small.iso Spot.tuple
instance : Small Seen := Small.iso Seen.tuple
instance : Small Reply := Small.iso Reply.tuple
instance : Small Key := Small.iso Key.tuple
instance : Small Write := Small.iso Write.tuple
instance : Small Sess := Small.iso Sess.tuple
instance : Small Script := Small.iso Script.tuple
instance : Small CPlain := Small.iso CPlain.tuple
instance : Small RPlain := Small.iso RPlain.tuple
end Go.Inn
namespace Go.Proofs.YtgnblhmejecgfaaGreatDoor
open Go Go.RowKit Go.Inn
theorem opn_2 : Opn Tryz.prog 2 (Int) := Opn.int (by kernel_rfl) Tryz.underlying2
theorem opn_3 : Opn Tryz.prog 3 (Int) := Opn.int (by kernel_rfl) Tryz.underlying3
theorem opn_4 : Opn Tryz.prog 4 (Bool) := Opn.bool (by kernel_rfl) Tryz.underlying4
theorem opn_5 : Opn Tryz.prog 5 (UInt8) := Opn.u8 (by kernel_rfl) Tryz.underlying5
theorem opn_6 : Opn Tryz.prog 6 (UInt8) := Opn.u8 (by kernel_rfl) Tryz.underlying6
theorem opn_9 : Opn Tryz.prog 9 (Str) := Opn.str (by kernel_rfl) Tryz.underlying9
theorem opn_10 : Opn Tryz.prog 10 (Str) := Opn.str (by kernel_rfl) Tryz.underlying10
theorem opn_11 : Opn Tryz.prog 11 (Str) := Opn.str (by kernel_rfl) Tryz.underlying11
theorem opn_22 : Opn Tryz.prog 22 (List Str) := Opn.slice (by kernel_rfl) Tryz.underlying22 (by decide) (of_decide_eq_true (by kernel_rfl)) opn_9
theorem opn_24 : Opn Tryz.prog 24 (Script) := Opn.struct Script.tuple (fun p => ⟨p.1, p.2⟩) (fun _ => rfl) (by kernel_rfl) Tryz.underlying24 (OpnF.cons rfl opn_3 (OpnF.last rfl opn_22))
theorem opn_27 : Opn Tryz.prog 27 (List Int) := Opn.slice (by kernel_rfl) Tryz.underlying27 (by decide) (of_decide_eq_true (by kernel_rfl)) opn_3
theorem opn_29 : Opn Tryz.prog 29 (Cmd) := Opn.struct Cmd.tuple (fun p => ⟨p.1, p.2.1, p.2.2.1, p.2.2.2.1, p.2.2.2.2.1, p.2.2.2.2.2.1, p.2.2.2.2.2.2.1, p.2.2.2.2.2.2.2.1, p.2.2.2.2.2.2.2.2⟩) (fun _ => rfl) (by kernel_rfl) Tryz.underlying29 (OpnF.cons rfl opn_3 (OpnF.cons rfl opn_3 (OpnF.cons rfl opn_3 (OpnF.cons rfl opn_3 (OpnF.cons rfl opn_3 (OpnF.cons rfl opn_27 (OpnF.cons rfl opn_3 (OpnF.cons rfl opn_27 (OpnF.last rfl opn_3)))))))))
theorem opn_75 : Opn Tryz.prog 75 (Key) := Opn.struct Key.tuple (fun p => ⟨p.1, p.2⟩) (fun _ => rfl) (by kernel_rfl) Tryz.underlying75 (OpnF.cons rfl opn_3 (OpnF.last rfl opn_3))
theorem opn_30 : Opn Tryz.prog 30 (List Key) := Opn.slice (by kernel_rfl) Tryz.underlying30 (by decide) (of_decide_eq_true (by kernel_rfl)) opn_75
theorem opn_78 : Opn Tryz.prog 78 (Spot) := Opn.struct Spot.tuple (fun p => ⟨p.1, p.2⟩) (fun _ => rfl) (by kernel_rfl) Tryz.underlying78 (OpnF.cons rfl opn_3 (OpnF.last rfl opn_3))
theorem opn_80 : Opn Tryz.prog 80 (Write) := Opn.struct Write.tuple (fun p => ⟨p.1, p.2.1, p.2.2.1, p.2.2.2⟩) (fun _ => rfl) (by kernel_rfl) Tryz.underlying80 (OpnF.cons rfl opn_3 (OpnF.cons rfl opn_3 (OpnF.cons rfl opn_3 (OpnF.last rfl opn_78))))
theorem opn_31 : Opn Tryz.prog 31 (List Write) := Opn.slice (by kernel_rfl) Tryz.underlying31 (by decide) (of_decide_eq_true (by kernel_rfl)) opn_80
theorem opn_32 : Opn Tryz.prog 32 (Int) := Opn.int (by kernel_rfl) Tryz.underlying32
theorem opn_100 : Opn Tryz.prog 100 (Seen) := Opn.struct Seen.tuple (fun p => ⟨p.1, p.2⟩) (fun _ => rfl) (by kernel_rfl) Tryz.underlying100 (OpnF.cons rfl opn_3 (OpnF.last rfl opn_78))
theorem opn_33 : Opn Tryz.prog 33 (List Seen) := Opn.slice (by kernel_rfl) Tryz.underlying33 (by decide) (of_decide_eq_true (by kernel_rfl)) opn_100
theorem opn_35 : Opn Tryz.prog 35 (Reply) := Opn.struct Reply.tuple (fun p => ⟨p.1, p.2.1, p.2.2.1, p.2.2.2.1, p.2.2.2.2.1, p.2.2.2.2.2⟩) (fun _ => rfl) (by kernel_rfl) Tryz.underlying35 (OpnF.cons rfl opn_32 (OpnF.cons rfl opn_3 (OpnF.cons rfl opn_3 (OpnF.cons rfl opn_27 (OpnF.cons rfl opn_33 (OpnF.last rfl opn_3))))))
theorem opn_36 : Opn Tryz.prog 36 (List Spot) := Opn.slice (by kernel_rfl) Tryz.underlying36 (by decide) (of_decide_eq_true (by kernel_rfl)) opn_78
theorem opn_38 : Opn Tryz.prog 38 (Sess) := Opn.struct Sess.tuple (fun p => ⟨p.1, p.2.1, p.2.2.1, p.2.2.2.1, p.2.2.2.2.1, p.2.2.2.2.2.1, p.2.2.2.2.2.2.1, p.2.2.2.2.2.2.2.1, p.2.2.2.2.2.2.2.2.1, p.2.2.2.2.2.2.2.2.2.1, p.2.2.2.2.2.2.2.2.2.2.1, p.2.2.2.2.2.2.2.2.2.2.2.1, p.2.2.2.2.2.2.2.2.2.2.2.2.1, p.2.2.2.2.2.2.2.2.2.2.2.2.2.1, p.2.2.2.2.2.2.2.2.2.2.2.2.2.2.1, p.2.2.2.2.2.2.2.2.2.2.2.2.2.2.2.1, p.2.2.2.2.2.2.2.2.2.2.2.2.2.2.2.2⟩) (fun _ => rfl) (by kernel_rfl) Tryz.underlying38 (OpnF.cons rfl opn_3 (OpnF.cons rfl opn_22 (OpnF.cons rfl opn_3 (OpnF.cons rfl opn_3 (OpnF.cons rfl opn_3 (OpnF.cons rfl opn_29 (OpnF.cons rfl opn_30 (OpnF.cons rfl opn_3 (OpnF.cons rfl opn_31 (OpnF.cons rfl opn_35 (OpnF.cons rfl opn_4 (OpnF.cons rfl opn_3 (OpnF.cons rfl opn_3 (OpnF.cons rfl opn_3 (OpnF.cons rfl opn_36 (OpnF.cons rfl opn_27 (OpnF.last rfl opn_3)))))))))))))))))
theorem opn_69 : Opn Tryz.prog 69 (Arr 9 Int) := Opn.arr (by kernel_rfl) Tryz.underlying69 opn_3
theorem opn_72 : Opn Tryz.prog 72 (Arr 2 (List Str)) := Opn.arr (by kernel_rfl) Tryz.underlying72 opn_22
theorem opn_76 : Opn Tryz.prog 76 (Arr 2 (List Key)) := Opn.arr (by kernel_rfl) Tryz.underlying76 opn_30
theorem opn_81 : Opn Tryz.prog 81 (Arr 2 (List Write)) := Opn.arr (by kernel_rfl) Tryz.underlying81 opn_31
theorem opn_83 : Opn Tryz.prog 83 (Arr 2 (List Spot)) := Opn.arr (by kernel_rfl) Tryz.underlying83 opn_36
theorem opn_85 : Opn Tryz.prog 85 (Arr 2 (List Int)) := Opn.arr (by kernel_rfl) Tryz.underlying85 opn_27
theorem opn_102 : Opn Tryz.prog 102 (CPlain) := Opn.struct CPlain.tuple (fun p => ⟨p.1, p.2.1, p.2.2.1, p.2.2.2.1, p.2.2.2.2.1, p.2.2.2.2.2.1, p.2.2.2.2.2.2⟩) (fun _ => rfl) (by kernel_rfl) Tryz.underlying102 (OpnF.cons rfl opn_3 (OpnF.cons rfl opn_3 (OpnF.cons rfl opn_3 (OpnF.cons rfl opn_3 (OpnF.cons rfl opn_3 (OpnF.cons rfl opn_3 (OpnF.last rfl opn_3)))))))
theorem opn_105 : Opn Tryz.prog 105 (RPlain) := Opn.struct RPlain.tuple (fun p => ⟨p.1, p.2.1, p.2.2.1, p.2.2.2⟩) (fun _ => rfl) (by kernel_rfl) Tryz.underlying105 (OpnF.cons rfl opn_32 (OpnF.cons rfl opn_3 (OpnF.cons rfl opn_3 (OpnF.last rfl opn_3))))
theorem opn_107 : Opn Tryz.prog 107 (List (Arr 2 (List Str))) := Opn.slice (by kernel_rfl) Tryz.underlying107 (by decide) (of_decide_eq_true (by kernel_rfl)) opn_72
theorem opn_110 : Opn Tryz.prog 110 (List (Arr 2 (List Key))) := Opn.slice (by kernel_rfl) Tryz.underlying110 (by decide) (of_decide_eq_true (by kernel_rfl)) opn_76
theorem opn_114 : Opn Tryz.prog 114 (List (Arr 2 (List Write))) := Opn.slice (by kernel_rfl) Tryz.underlying114 (by decide) (of_decide_eq_true (by kernel_rfl)) opn_81
theorem opn_118 : Opn Tryz.prog 118 (List (Arr 2 (List Spot))) := Opn.slice (by kernel_rfl) Tryz.underlying118 (by decide) (of_decide_eq_true (by kernel_rfl)) opn_83
theorem opn_122 : Opn Tryz.prog 122 (List (Arr 2 (List Int))) := Opn.slice (by kernel_rfl) Tryz.underlying122 (by decide) (of_decide_eq_true (by kernel_rfl)) opn_85
theorem opn_129 : Opn Tryz.prog 129 (Arr 4 Str) := Opn.arr (by kernel_rfl) Tryz.underlying129 opn_9
theorem opn_130 : Opn Tryz.prog 130 (List (List Str)) := Opn.slice (by kernel_rfl) Tryz.underlying130 (by decide) (of_decide_eq_true (by kernel_rfl)) opn_22
theorem opn_133 : Opn Tryz.prog 133 (Arr 11 Str) := Opn.arr (by kernel_rfl) Tryz.underlying133 opn_9
theorem opn_169 : Opn Tryz.prog 169 (Arr 24 UInt8) := Opn.arr (by kernel_rfl) Tryz.underlying169 opn_5
theorem opn_182 : Opn Tryz.prog 182 (UInt32) := Opn.u32 (by kernel_rfl) Tryz.underlying182
theorem opn_183 : Opn Tryz.prog 183 (Arr 65 UInt8) := Opn.arr (by kernel_rfl) Tryz.underlying183 opn_5
theorem opn_186 : Opn Tryz.prog 186 (Arr 256 UInt8) := Opn.arr (by kernel_rfl) Tryz.underlying186 opn_5
theorem opn_191 : Opn Tryz.prog 191 (Int) := Opn.int (by kernel_rfl) Tryz.underlying191
theorem opn_206 : Opn Tryz.prog 206 (Arr 32 UInt8) := Opn.arr (by kernel_rfl) Tryz.underlying206 opn_5
theorem opn_207 : Opn Tryz.prog 207 (Arr 64 UInt8) := Opn.arr (by kernel_rfl) Tryz.underlying207 opn_5
theorem opn_218 : Opn Tryz.prog 218 (UInt8) := Opn.u8 (by kernel_rfl) Tryz.underlying218
theorem opn_219 : Opn Tryz.prog 219 (UInt8) := Opn.u8 (by kernel_rfl) Tryz.underlying219
end Go.Proofs.YtgnblhmejecgfaaGreatDoor
