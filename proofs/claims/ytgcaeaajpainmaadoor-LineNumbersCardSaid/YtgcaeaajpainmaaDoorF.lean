/- The seat's types as kinds of data: what the rules ask of each. By a program (facts.py) of this session. -/
import Derived.Test.YtgcaeaajpainmaaDoorD
import Derived.Test.YtgcaeaajpainmaaDoorT
import Derived.Test.YtgcaeaajpainmaaDoorKC
import Derived.Test.YtgcaeaajpainmaaDoorProg
import Derived.KernelRfl
import Derived.Laws.IdiomArrays
set_option linter.all false
namespace Go.Proofs.YtgcaeaajpainmaaDoor
open Go Go.RowKit Go.Inn

theorem zc_int (m : View) : Rep.cells m (0 : Int) [Value.int .i64 0] := ⟨rfl, by unfold in64; omega⟩
theorem zc_bool (m : View) : Rep.cells m false [Value.bool false] := ⟨rfl, trivial⟩
theorem zc_str (m : View) : Rep.cells m ([] : Str) [Value.string ⟨[].toArray⟩] := ⟨rfl, by simp⟩
theorem zc_u8 (m : View) : Rep.cells m (0 : UInt8) [Value.int .u8 0] := ⟨rfl, trivial⟩
theorem zc_u16 (m : View) : Rep.cells m (0 : UInt16) [Value.int .u16 0] := ⟨rfl, trivial⟩
theorem zc_u32 (m : View) : Rep.cells m (0 : UInt32) [Value.int .u32 0] := ⟨rfl, trivial⟩
theorem zc_raw (m : View) : Rep.cells m RawSl.nil [Value.slice none 0 0] := ⟨rfl, rfl⟩
theorem zc_part (m : View) : Rep.cells m Part.nil [Value.nilFunc] := ⟨_, rfl, rfl⟩
theorem zc_list {α : Type} [Rep α] (m : View) : Rep.cells m ([] : List α) [Value.slice none 0 0] := ⟨none, 0, rfl, Nat.le_refl _, Nat.zero_le _, .inl rfl⟩
theorem zc_pair {α β : Type} [Rep α] [Rep β] {m : View} {x : α} {y : β} {c d : List Value} (h : Rep.cells m x c) (k : Rep.cells m y d) : Rep.cells m (x, y) (c ++ d) := ⟨c, d, rfl, h, k⟩
theorem zc_rep {α : Type} [Rep α] {m : View} {x : α} {c : List Value} (h : Rep.cells m x c) : ∀ k, arrCells m (List.replicate k x) (List.replicate k c).flatten
  | 0 => rfl
  | k + 1 => ⟨c, _, by rw [List.replicate_succ, List.flatten_cons], h, zc_rep h k⟩
theorem zc_arr {α : Type} [Rep α] {m : View} {x : α} {c : List Value} (k : Nat) (h : Rep.cells m x c) : Rep.cells m (⟨List.replicate k x, List.length_replicate⟩ : Arr k α) (List.replicate k c).flatten := zc_rep h k
theorem ty_1 : Ty Tryd.prog 1 (Fn0) := ⟨Tryd.isAgg1, Tryd.sizeOf1⟩
theorem ty_2 : Ty Tryd.prog 2 (Int) := ⟨Tryd.isAgg2, Tryd.sizeOf2⟩
theorem tyz_2 : TyZ Tryd.prog 2 (0 : Int) := ⟨ty_2, [Value.int .i64 0], Tryd.zeroValue2, fun m => zc_int m⟩
theorem ty_3 : Ty Tryd.prog 3 (Int) := ⟨Tryd.isAgg3, Tryd.sizeOf3⟩
theorem tyz_3 : TyZ Tryd.prog 3 (0 : Int) := ⟨ty_3, [Value.int .i64 0], Tryd.zeroValue3, fun m => zc_int m⟩
theorem ty_4 : Ty Tryd.prog 4 (Bool) := ⟨Tryd.isAgg4, Tryd.sizeOf4⟩
theorem tyz_4 : TyZ Tryd.prog 4 false := ⟨ty_4, [Value.bool false], Tryd.zeroValue4, fun m => zc_bool m⟩
theorem ty_5 : Ty Tryd.prog 5 (UInt8) := ⟨Tryd.isAgg5, Tryd.sizeOf5⟩
theorem tyz_5 : TyZ Tryd.prog 5 (0 : UInt8) := ⟨ty_5, [Value.int .u8 0], Tryd.zeroValue5, fun m => zc_u8 m⟩
theorem ty_6 : Ty Tryd.prog 6 (UInt8) := ⟨Tryd.isAgg6, Tryd.sizeOf6⟩
theorem tyz_6 : TyZ Tryd.prog 6 (0 : UInt8) := ⟨ty_6, [Value.int .u8 0], Tryd.zeroValue6, fun m => zc_u8 m⟩
theorem ty_9 : Ty Tryd.prog 9 (Str) := ⟨Tryd.isAgg9, Tryd.sizeOf9⟩
theorem tyz_9 : TyZ Tryd.prog 9 ([] : Str) := ⟨ty_9, [Value.string ⟨[].toArray⟩], Tryd.zeroValue9, fun m => zc_str m⟩
theorem ty_10 : Ty Tryd.prog 10 (Str) := ⟨Tryd.isAgg10, Tryd.sizeOf10⟩
theorem tyz_10 : TyZ Tryd.prog 10 ([] : Str) := ⟨ty_10, [Value.string ⟨[].toArray⟩], Tryd.zeroValue10, fun m => zc_str m⟩
theorem ty_11 : Ty Tryd.prog 11 (Str) := ⟨Tryd.isAgg11, Tryd.sizeOf11⟩
theorem tyz_11 : TyZ Tryd.prog 11 ([] : Str) := ⟨ty_11, [Value.string ⟨[].toArray⟩], Tryd.zeroValue11, fun m => zc_str m⟩
theorem ty_22 : Ty Tryd.prog 22 (List Int) := ⟨Tryd.isAgg22, Tryd.sizeOf22⟩
theorem tyz_22 : TyZ Tryd.prog 22 ([] : List Int) := ⟨ty_22, [Value.slice none 0 0], Tryd.zeroValue22, fun m => zc_list m⟩
theorem ty_24 : Ty Tryd.prog 24 (Cmd) := ⟨Tryd.isAgg24, Tryd.sizeOf24⟩
theorem tyz_24 : TyZ Tryd.prog 24 ({} : Cmd) := ⟨ty_24, [Value.int .i64 0, Value.int .i64 0, Value.int .i64 0, Value.int .i64 0, Value.int .i64 0, Value.slice none 0 0, Value.int .i64 0, Value.slice none 0 0, Value.int .i64 0], Tryd.zeroValue24, fun m => zc_pair (zc_int m) (zc_pair (zc_int m) (zc_pair (zc_int m) (zc_pair (zc_int m) (zc_pair (zc_int m) (zc_pair (zc_list m) (zc_pair (zc_int m) (zc_pair (zc_list m) (zc_int m))))))))⟩
theorem ty_25 : Ty Tryd.prog 25 (Fn0) := ⟨Tryd.isAgg25, Tryd.sizeOf25⟩
theorem ty_26 : Ty Tryd.prog 26 (Fn0) := ⟨Tryd.isAgg26, Tryd.sizeOf26⟩
theorem ty_27 : Ty Tryd.prog 27 (Int) := ⟨Tryd.isAgg27, Tryd.sizeOf27⟩
theorem tyz_27 : TyZ Tryd.prog 27 (0 : Int) := ⟨ty_27, [Value.int .i64 0], Tryd.zeroValue27, fun m => zc_int m⟩
theorem ty_29 : Ty Tryd.prog 29 (Fn0) := ⟨Tryd.isAgg29, Tryd.sizeOf29⟩
theorem ty_31 : Ty Tryd.prog 31 (Fn0) := ⟨Tryd.isAgg31, Tryd.sizeOf31⟩
theorem ty_32 : Ty Tryd.prog 32 (Fn0) := ⟨Tryd.isAgg32, Tryd.sizeOf32⟩
theorem ty_33 : Ty Tryd.prog 33 (Fn0) := ⟨Tryd.isAgg33, Tryd.sizeOf33⟩
theorem ty_34 : Ty Tryd.prog 34 (List Str) := ⟨Tryd.isAgg34, Tryd.sizeOf34⟩
theorem tyz_34 : TyZ Tryd.prog 34 ([] : List Str) := ⟨ty_34, [Value.slice none 0 0], Tryd.zeroValue34, fun m => zc_list m⟩
theorem ty_35 : Ty Tryd.prog 35 (Fn0) := ⟨Tryd.isAgg35, Tryd.sizeOf35⟩
theorem ty_36 : Ty Tryd.prog 36 (Fn0) := ⟨Tryd.isAgg36, Tryd.sizeOf36⟩
theorem ty_37 : Ty Tryd.prog 37 (UInt32) := ⟨Tryd.isAgg37, Tryd.sizeOf37⟩
theorem tyz_37 : TyZ Tryd.prog 37 (0 : UInt32) := ⟨ty_37, [Value.int .u32 0], Tryd.zeroValue37, fun m => zc_u32 m⟩
theorem ty_38 : Ty Tryd.prog 38 (Fn0) := ⟨Tryd.isAgg38, Tryd.sizeOf38⟩
theorem ty_39 : Ty Tryd.prog 39 (Fn0) := ⟨Tryd.isAgg39, Tryd.sizeOf39⟩
theorem ty_41 : Ty Tryd.prog 41 (Fn0) := ⟨Tryd.isAgg41, Tryd.sizeOf41⟩
theorem ty_42 : Ty Tryd.prog 42 (Fn0) := ⟨Tryd.isAgg42, Tryd.sizeOf42⟩
theorem ty_43 : Ty Tryd.prog 43 (Fn0) := ⟨Tryd.isAgg43, Tryd.sizeOf43⟩
theorem ty_45 : Ty Tryd.prog 45 (Fn0) := ⟨Tryd.isAgg45, Tryd.sizeOf45⟩
theorem ty_46 : Ty Tryd.prog 46 (List Part) := ⟨Tryd.isAgg46, Tryd.sizeOf46⟩
theorem tyz_46 : TyZ Tryd.prog 46 ([] : List Part) := ⟨ty_46, [Value.slice none 0 0], Tryd.zeroValue46, fun m => zc_list m⟩
theorem ty_48 : Ty Tryd.prog 48 (Fn0) := ⟨Tryd.isAgg48, Tryd.sizeOf48⟩
theorem ty_49 : Ty Tryd.prog 49 (Fn0) := ⟨Tryd.isAgg49, Tryd.sizeOf49⟩
theorem ty_50 : Ty Tryd.prog 50 (Part) := ⟨Tryd.isAgg50, Tryd.sizeOf50⟩
theorem tyz_50 : TyZ Tryd.prog 50 Part.nil := ⟨ty_50, [Value.nilFunc], Tryd.zeroValue50, fun m => zc_part m⟩
theorem ty_53 : Ty Tryd.prog 53 (Fn0) := ⟨Tryd.isAgg53, Tryd.sizeOf53⟩
theorem ty_55 : Ty Tryd.prog 55 (Fn0) := ⟨Tryd.isAgg55, Tryd.sizeOf55⟩
theorem ty_56 : Ty Tryd.prog 56 (Fn0) := ⟨Tryd.isAgg56, Tryd.sizeOf56⟩
theorem ty_57 : Ty Tryd.prog 57 (Fn0) := ⟨Tryd.isAgg57, Tryd.sizeOf57⟩
theorem ty_58 : Ty Tryd.prog 58 (Fn0) := ⟨Tryd.isAgg58, Tryd.sizeOf58⟩
theorem ty_59 : Ty Tryd.prog 59 (Arr 4 Str) := ⟨Tryd.isAgg59, Tryd.sizeOf59⟩
theorem tyz_59 : TyZ Tryd.prog 59 (⟨List.replicate 4 ([] : Str), rfl⟩ : Arr 4 Str) := ⟨ty_59, [Value.string ⟨[].toArray⟩, Value.string ⟨[].toArray⟩, Value.string ⟨[].toArray⟩, Value.string ⟨[].toArray⟩], Tryd.zeroValue59, fun m => zc_arr 4 (zc_str m)⟩
theorem ty_60 : Ty Tryd.prog 60 (List (List Str)) := ⟨Tryd.isAgg60, Tryd.sizeOf60⟩
theorem tyz_60 : TyZ Tryd.prog 60 ([] : List (List Str)) := ⟨ty_60, [Value.slice none 0 0], Tryd.zeroValue60, fun m => zc_list m⟩
theorem ty_61 : Ty Tryd.prog 61 (Fn0) := ⟨Tryd.isAgg61, Tryd.sizeOf61⟩
theorem ty_62 : Ty Tryd.prog 62 (Fn0) := ⟨Tryd.isAgg62, Tryd.sizeOf62⟩
theorem ty_63 : Ty Tryd.prog 63 (Arr 11 Str) := ⟨Tryd.isAgg63, Tryd.sizeOf63⟩
theorem tyz_63 : TyZ Tryd.prog 63 (⟨List.replicate 11 ([] : Str), rfl⟩ : Arr 11 Str) := ⟨ty_63, [Value.string ⟨[].toArray⟩, Value.string ⟨[].toArray⟩, Value.string ⟨[].toArray⟩, Value.string ⟨[].toArray⟩, Value.string ⟨[].toArray⟩, Value.string ⟨[].toArray⟩, Value.string ⟨[].toArray⟩, Value.string ⟨[].toArray⟩, Value.string ⟨[].toArray⟩, Value.string ⟨[].toArray⟩, Value.string ⟨[].toArray⟩], Tryd.zeroValue63, fun m => zc_arr 11 (zc_str m)⟩
theorem ty_64 : Ty Tryd.prog 64 (Fn0) := ⟨Tryd.isAgg64, Tryd.sizeOf64⟩
theorem ty_66 : Ty Tryd.prog 66 (Fn0) := ⟨Tryd.isAgg66, Tryd.sizeOf66⟩
theorem ty_67 : Ty Tryd.prog 67 (Fn0) := ⟨Tryd.isAgg67, Tryd.sizeOf67⟩
theorem ty_68 : Ty Tryd.prog 68 (Fn0) := ⟨Tryd.isAgg68, Tryd.sizeOf68⟩
theorem ty_69 : Ty Tryd.prog 69 (Fn0) := ⟨Tryd.isAgg69, Tryd.sizeOf69⟩
theorem ty_70 : Ty Tryd.prog 70 (Fn0) := ⟨Tryd.isAgg70, Tryd.sizeOf70⟩
theorem ty_71 : Ty Tryd.prog 71 (Fn0) := ⟨Tryd.isAgg71, Tryd.sizeOf71⟩
theorem ty_72 : Ty Tryd.prog 72 (Fn0) := ⟨Tryd.isAgg72, Tryd.sizeOf72⟩
theorem ty_74 : Ty Tryd.prog 74 (CPlain) := ⟨Tryd.isAgg74, Tryd.sizeOf74⟩
theorem tyz_74 : TyZ Tryd.prog 74 ({} : CPlain) := ⟨ty_74, [Value.int .i64 0, Value.int .i64 0, Value.int .i64 0, Value.int .i64 0, Value.int .i64 0, Value.int .i64 0, Value.int .i64 0], Tryd.zeroValue74, fun m => zc_pair (zc_int m) (zc_pair (zc_int m) (zc_pair (zc_int m) (zc_pair (zc_int m) (zc_pair (zc_int m) (zc_pair (zc_int m) (zc_int m))))))⟩
theorem ty_75 : Ty Tryd.prog 75 (Fn0) := ⟨Tryd.isAgg75, Tryd.sizeOf75⟩
theorem ty_76 : Ty Tryd.prog 76 (Fn0) := ⟨Tryd.isAgg76, Tryd.sizeOf76⟩
theorem ty_80 : Ty Tryd.prog 80 (Fn0) := ⟨Tryd.isAgg80, Tryd.sizeOf80⟩
theorem ty_84 : Ty Tryd.prog 84 (Fn0) := ⟨Tryd.isAgg84, Tryd.sizeOf84⟩
theorem ty_85 : Ty Tryd.prog 85 (Fn0) := ⟨Tryd.isAgg85, Tryd.sizeOf85⟩
theorem ty_86 : Ty Tryd.prog 86 (Fn0) := ⟨Tryd.isAgg86, Tryd.sizeOf86⟩
theorem ty_87 : Ty Tryd.prog 87 (Fn0) := ⟨Tryd.isAgg87, Tryd.sizeOf87⟩
theorem ty_90 : Ty Tryd.prog 90 (Fn0) := ⟨Tryd.isAgg90, Tryd.sizeOf90⟩
theorem ty_91 : Ty Tryd.prog 91 (Fn0) := ⟨Tryd.isAgg91, Tryd.sizeOf91⟩
theorem ty_93 : Ty Tryd.prog 93 (Fn0) := ⟨Tryd.isAgg93, Tryd.sizeOf93⟩
theorem ty_95 : Ty Tryd.prog 95 (Fn0) := ⟨Tryd.isAgg95, Tryd.sizeOf95⟩
theorem ty_96 : Ty Tryd.prog 96 (Fn0) := ⟨Tryd.isAgg96, Tryd.sizeOf96⟩
theorem ty_97 : Ty Tryd.prog 97 (Arr 24 UInt8) := ⟨Tryd.isAgg97, Tryd.sizeOf97⟩
theorem ty_99 : Ty Tryd.prog 99 (Fn0) := ⟨Tryd.isAgg99, Tryd.sizeOf99⟩
theorem ty_100 : Ty Tryd.prog 100 (Fn0) := ⟨Tryd.isAgg100, Tryd.sizeOf100⟩
theorem ty_102 : Ty Tryd.prog 102 (Fn0) := ⟨Tryd.isAgg102, Tryd.sizeOf102⟩
theorem ty_104 : Ty Tryd.prog 104 (Fn0) := ⟨Tryd.isAgg104, Tryd.sizeOf104⟩
theorem ty_105 : Ty Tryd.prog 105 (Fn0) := ⟨Tryd.isAgg105, Tryd.sizeOf105⟩
theorem ty_106 : Ty Tryd.prog 106 (Fn0) := ⟨Tryd.isAgg106, Tryd.sizeOf106⟩
theorem ty_107 : Ty Tryd.prog 107 (Fn0) := ⟨Tryd.isAgg107, Tryd.sizeOf107⟩
theorem ty_108 : Ty Tryd.prog 108 (Fn0) := ⟨Tryd.isAgg108, Tryd.sizeOf108⟩
theorem ty_110 : Ty Tryd.prog 110 (Arr 65 UInt8) := ⟨Tryd.isAgg110, Tryd.sizeOf110⟩
theorem ty_112 : Ty Tryd.prog 112 (Fn0) := ⟨Tryd.isAgg112, Tryd.sizeOf112⟩
theorem ty_113 : Ty Tryd.prog 113 (Arr 256 UInt8) := ⟨Tryd.isAgg113, Tryd.sizeOf113⟩
theorem ty_117 : Ty Tryd.prog 117 (Fn0) := ⟨Tryd.isAgg117, Tryd.sizeOf117⟩
theorem ty_118 : Ty Tryd.prog 118 (Int) := ⟨Tryd.isAgg118, Tryd.sizeOf118⟩
theorem tyz_118 : TyZ Tryd.prog 118 (0 : Int) := ⟨ty_118, [Value.int .i64 0], Tryd.zeroValue118, fun m => zc_int m⟩
theorem ty_120 : Ty Tryd.prog 120 (Fn0) := ⟨Tryd.isAgg120, Tryd.sizeOf120⟩
theorem ty_122 : Ty Tryd.prog 122 (Fn0) := ⟨Tryd.isAgg122, Tryd.sizeOf122⟩
theorem ty_123 : Ty Tryd.prog 123 (Fn0) := ⟨Tryd.isAgg123, Tryd.sizeOf123⟩
theorem ty_124 : Ty Tryd.prog 124 (Fn0) := ⟨Tryd.isAgg124, Tryd.sizeOf124⟩
theorem ty_126 : Ty Tryd.prog 126 (Fn0) := ⟨Tryd.isAgg126, Tryd.sizeOf126⟩
theorem ty_128 : Ty Tryd.prog 128 (Fn0) := ⟨Tryd.isAgg128, Tryd.sizeOf128⟩
theorem ty_129 : Ty Tryd.prog 129 (Fn0) := ⟨Tryd.isAgg129, Tryd.sizeOf129⟩
theorem ty_132 : Ty Tryd.prog 132 (Fn0) := ⟨Tryd.isAgg132, Tryd.sizeOf132⟩
theorem ty_133 : Ty Tryd.prog 133 (Arr 32 UInt8) := ⟨Tryd.isAgg133, Tryd.sizeOf133⟩
theorem ty_134 : Ty Tryd.prog 134 (Arr 64 UInt8) := ⟨Tryd.isAgg134, Tryd.sizeOf134⟩
theorem ty_135 : Ty Tryd.prog 135 (Fn0) := ⟨Tryd.isAgg135, Tryd.sizeOf135⟩
theorem ty_144 : Ty Tryd.prog 144 (Fn0) := ⟨Tryd.isAgg144, Tryd.sizeOf144⟩
theorem ty_145 : Ty Tryd.prog 145 (UInt8) := ⟨Tryd.isAgg145, Tryd.sizeOf145⟩
theorem tyz_145 : TyZ Tryd.prog 145 (0 : UInt8) := ⟨ty_145, [Value.int .u8 0], Tryd.zeroValue145, fun m => zc_u8 m⟩
theorem ty_146 : Ty Tryd.prog 146 (UInt8) := ⟨Tryd.isAgg146, Tryd.sizeOf146⟩
theorem tyz_146 : TyZ Tryd.prog 146 (0 : UInt8) := ⟨ty_146, [Value.int .u8 0], Tryd.zeroValue146, fun m => zc_u8 m⟩
theorem ty_147 : Ty Tryd.prog 147 (Fn0) := ⟨Tryd.isAgg147, Tryd.sizeOf147⟩
theorem fld_24_0 : Fld Tryd.prog 24 0 0 (fun x : Cmd => x.kind) Cmd.s_kind := ⟨⟨_, _, Tryd.underlying24, rfl, rfl, ty_3⟩, by decide, Cmd.l_kind⟩
theorem fld_24_1 : Fld Tryd.prog 24 1 1 (fun x : Cmd => x.dir) Cmd.s_dir := ⟨⟨_, _, Tryd.underlying24, rfl, rfl, ty_3⟩, by decide, Cmd.l_dir⟩
theorem fld_24_2 : Fld Tryd.prog 24 2 2 (fun x : Cmd => x.item) Cmd.s_item := ⟨⟨_, _, Tryd.underlying24, rfl, rfl, ty_3⟩, by decide, Cmd.l_item⟩
theorem fld_24_3 : Fld Tryd.prog 24 3 3 (fun x : Cmd => x.box) Cmd.s_box := ⟨⟨_, _, Tryd.underlying24, rfl, rfl, ty_3⟩, by decide, Cmd.l_box⟩
theorem fld_24_4 : Fld Tryd.prog 24 4 4 (fun x : Cmd => x.who) Cmd.s_who := ⟨⟨_, _, Tryd.underlying24, rfl, rfl, ty_3⟩, by decide, Cmd.l_who⟩
theorem fld_24_5 : Fld Tryd.prog 24 5 5 (fun x : Cmd => x.gives) Cmd.s_gives := ⟨⟨_, _, Tryd.underlying24, rfl, rfl, ty_22⟩, by decide, Cmd.l_gives⟩
theorem fld_24_6 : Fld Tryd.prog 24 6 6 (fun x : Cmd => x.pay) Cmd.s_pay := ⟨⟨_, _, Tryd.underlying24, rfl, rfl, ty_3⟩, by decide, Cmd.l_pay⟩
theorem fld_24_7 : Fld Tryd.prog 24 7 7 (fun x : Cmd => x.wants) Cmd.s_wants := ⟨⟨_, _, Tryd.underlying24, rfl, rfl, ty_22⟩, by decide, Cmd.l_wants⟩
theorem fld_24_8 : Fld Tryd.prog 24 8 8 (fun x : Cmd => x.fee) Cmd.s_fee := ⟨⟨_, _, Tryd.underlying24, rfl, rfl, ty_3⟩, by decide, Cmd.l_fee⟩
theorem tys_24 : TyS Tryd.prog 24 ({} : Cmd) [(0, 1), (1, 1), (2, 1), (3, 1), (4, 1), (5, 1), (6, 1), (7, 1), (8, 1)] := ⟨tyz_24, rfl, _, Tryd.underlying24, fun w => by simp [Tryd.sizeOf22, Tryd.sizeOf3]⟩
theorem fld_74_0 : Fld Tryd.prog 74 0 0 (fun x : CPlain => x.kind) CPlain.s_kind := ⟨⟨_, _, Tryd.underlying74, rfl, rfl, ty_3⟩, by decide, CPlain.l_kind⟩
theorem fld_74_1 : Fld Tryd.prog 74 1 1 (fun x : CPlain => x.dir) CPlain.s_dir := ⟨⟨_, _, Tryd.underlying74, rfl, rfl, ty_3⟩, by decide, CPlain.l_dir⟩
theorem fld_74_2 : Fld Tryd.prog 74 2 2 (fun x : CPlain => x.item) CPlain.s_item := ⟨⟨_, _, Tryd.underlying74, rfl, rfl, ty_3⟩, by decide, CPlain.l_item⟩
theorem fld_74_3 : Fld Tryd.prog 74 3 3 (fun x : CPlain => x.box) CPlain.s_box := ⟨⟨_, _, Tryd.underlying74, rfl, rfl, ty_3⟩, by decide, CPlain.l_box⟩
theorem fld_74_4 : Fld Tryd.prog 74 4 4 (fun x : CPlain => x.who) CPlain.s_who := ⟨⟨_, _, Tryd.underlying74, rfl, rfl, ty_3⟩, by decide, CPlain.l_who⟩
theorem fld_74_5 : Fld Tryd.prog 74 5 5 (fun x : CPlain => x.pay) CPlain.s_pay := ⟨⟨_, _, Tryd.underlying74, rfl, rfl, ty_3⟩, by decide, CPlain.l_pay⟩
theorem fld_74_6 : Fld Tryd.prog 74 6 6 (fun x : CPlain => x.fee) CPlain.s_fee := ⟨⟨_, _, Tryd.underlying74, rfl, rfl, ty_3⟩, by decide, CPlain.l_fee⟩
theorem tys_74 : TyS Tryd.prog 74 ({} : CPlain) [(0, 1), (1, 1), (2, 1), (3, 1), (4, 1), (5, 1), (6, 1)] := ⟨tyz_74, rfl, _, Tryd.underlying74, fun w => by simp [Tryd.sizeOf3]⟩
theorem tyi_22 : ∃ bytes, bytes ≤ 400 ∧ TyI Tryd.prog 3 (Int) bytes := ⟨(Tryd.t3).bytes, by decide +kernel, ty_3, by kernel_rfl, by decide⟩
theorem lit_22_1 : SLit Tryd.prog 22 3 1 (0 : Int) := ⟨Tryd.underlying22, tyz_3, by decide, by decide⟩
theorem lit_22_2 : SLit Tryd.prog 22 3 2 (0 : Int) := ⟨Tryd.underlying22, tyz_3, by decide, by decide⟩
theorem lit_22_3 : SLit Tryd.prog 22 3 3 (0 : Int) := ⟨Tryd.underlying22, tyz_3, by decide, by decide⟩
theorem lit_22_4 : SLit Tryd.prog 22 3 4 (0 : Int) := ⟨Tryd.underlying22, tyz_3, by decide, by decide⟩
theorem lit_22_5 : SLit Tryd.prog 22 3 5 (0 : Int) := ⟨Tryd.underlying22, tyz_3, by decide, by decide⟩
theorem lit_22_9 : SLit Tryd.prog 22 3 9 (0 : Int) := ⟨Tryd.underlying22, tyz_3, by decide, by decide⟩
theorem lit_22_11 : SLit Tryd.prog 22 3 11 (0 : Int) := ⟨Tryd.underlying22, tyz_3, by decide, by decide⟩
theorem tyi_34 : ∃ bytes, bytes ≤ 400 ∧ TyI Tryd.prog 9 (Str) bytes := ⟨(Tryd.t9).bytes, by decide +kernel, ty_9, by kernel_rfl, by decide⟩
theorem lit_34_1 : SLit Tryd.prog 34 9 1 ([] : Str) := ⟨Tryd.underlying34, tyz_9, by decide, by decide⟩
theorem lit_34_2 : SLit Tryd.prog 34 9 2 ([] : Str) := ⟨Tryd.underlying34, tyz_9, by decide, by decide⟩
theorem lit_34_3 : SLit Tryd.prog 34 9 3 ([] : Str) := ⟨Tryd.underlying34, tyz_9, by decide, by decide⟩
theorem lit_34_4 : SLit Tryd.prog 34 9 4 ([] : Str) := ⟨Tryd.underlying34, tyz_9, by decide, by decide⟩
theorem lit_34_5 : SLit Tryd.prog 34 9 5 ([] : Str) := ⟨Tryd.underlying34, tyz_9, by decide, by decide⟩
theorem lit_34_9 : SLit Tryd.prog 34 9 9 ([] : Str) := ⟨Tryd.underlying34, tyz_9, by decide, by decide⟩
theorem lit_34_11 : SLit Tryd.prog 34 9 11 ([] : Str) := ⟨Tryd.underlying34, tyz_9, by decide, by decide⟩
theorem tyi_46 : ∃ bytes, bytes ≤ 400 ∧ TyI Tryd.prog 50 (Part) bytes := ⟨(Tryd.t50).bytes, by decide +kernel, ty_50, by kernel_rfl, by decide⟩
theorem lit_46_1 : SLit Tryd.prog 46 50 1 Part.nil := ⟨Tryd.underlying46, tyz_50, by decide, by decide⟩
theorem lit_46_2 : SLit Tryd.prog 46 50 2 Part.nil := ⟨Tryd.underlying46, tyz_50, by decide, by decide⟩
theorem lit_46_3 : SLit Tryd.prog 46 50 3 Part.nil := ⟨Tryd.underlying46, tyz_50, by decide, by decide⟩
theorem lit_46_4 : SLit Tryd.prog 46 50 4 Part.nil := ⟨Tryd.underlying46, tyz_50, by decide, by decide⟩
theorem lit_46_5 : SLit Tryd.prog 46 50 5 Part.nil := ⟨Tryd.underlying46, tyz_50, by decide, by decide⟩
theorem lit_46_9 : SLit Tryd.prog 46 50 9 Part.nil := ⟨Tryd.underlying46, tyz_50, by decide, by decide⟩
theorem lit_46_11 : SLit Tryd.prog 46 50 11 Part.nil := ⟨Tryd.underlying46, tyz_50, by decide, by decide⟩
theorem tyi_60 : ∃ bytes, bytes ≤ 400 ∧ TyI Tryd.prog 34 (List Str) bytes := ⟨(Tryd.t34).bytes, by decide +kernel, ty_34, by kernel_rfl, by decide⟩
theorem lit_60_1 : SLit Tryd.prog 60 34 1 ([] : List Str) := ⟨Tryd.underlying60, tyz_34, by decide, by decide⟩
theorem lit_60_2 : SLit Tryd.prog 60 34 2 ([] : List Str) := ⟨Tryd.underlying60, tyz_34, by decide, by decide⟩
theorem lit_60_3 : SLit Tryd.prog 60 34 3 ([] : List Str) := ⟨Tryd.underlying60, tyz_34, by decide, by decide⟩
theorem lit_60_4 : SLit Tryd.prog 60 34 4 ([] : List Str) := ⟨Tryd.underlying60, tyz_34, by decide, by decide⟩
theorem lit_60_5 : SLit Tryd.prog 60 34 5 ([] : List Str) := ⟨Tryd.underlying60, tyz_34, by decide, by decide⟩
theorem lit_60_9 : SLit Tryd.prog 60 34 9 ([] : List Str) := ⟨Tryd.underlying60, tyz_34, by decide, by decide⟩
theorem lit_60_11 : SLit Tryd.prog 60 34 11 ([] : List Str) := ⟨Tryd.underlying60, tyz_34, by decide, by decide⟩
theorem lit_54_1 : SLit Tryd.prog 54 5 1 (0 : UInt8) := ⟨Tryd.underlying54, tyz_5, by decide, by decide⟩
theorem lit_54_2 : SLit Tryd.prog 54 5 2 (0 : UInt8) := ⟨Tryd.underlying54, tyz_5, by decide, by decide⟩
theorem lit_54_3 : SLit Tryd.prog 54 5 3 (0 : UInt8) := ⟨Tryd.underlying54, tyz_5, by decide, by decide⟩
theorem tyr : Ty Tryd.prog 22 RawSl := ⟨Tryd.isAgg22, Tryd.sizeOf22⟩
theorem tyR : Ty Tryd.prog 24 CmdR := ⟨Tryd.isAgg24, Tryd.sizeOf24⟩
theorem tyzR : TyZ Tryd.prog 24 ({} : CmdR) := ⟨tyR, [Value.int .i64 0, Value.int .i64 0, Value.int .i64 0, Value.int .i64 0, Value.int .i64 0, Value.slice none 0 0, Value.int .i64 0, Value.slice none 0 0, Value.int .i64 0], Tryd.zeroValue24, fun m => zc_pair (zc_int m) (zc_pair (zc_int m) (zc_pair (zc_int m) (zc_pair (zc_int m) (zc_pair (zc_int m) (zc_pair (zc_raw m) (zc_pair (zc_int m) (zc_pair (zc_raw m) (zc_int m))))))))⟩
theorem tysR : TyS Tryd.prog 24 ({} : CmdR) [(0, 1), (1, 1), (2, 1), (3, 1), (4, 1), (5, 1), (6, 1), (7, 1), (8, 1)] := ⟨tyzR, rfl, _, Tryd.underlying24, fun w => by simp [Tryd.sizeOf22, Tryd.sizeOf3]⟩
theorem fldR_24_0 : Fld Tryd.prog 24 0 0 (fun x : CmdR => x.kind) CmdR.s_kind := ⟨⟨_, _, Tryd.underlying24, rfl, rfl, ty_3⟩, by decide, CmdR.l_kind⟩
theorem fldR_24_1 : Fld Tryd.prog 24 1 1 (fun x : CmdR => x.dir) CmdR.s_dir := ⟨⟨_, _, Tryd.underlying24, rfl, rfl, ty_3⟩, by decide, CmdR.l_dir⟩
theorem fldR_24_2 : Fld Tryd.prog 24 2 2 (fun x : CmdR => x.item) CmdR.s_item := ⟨⟨_, _, Tryd.underlying24, rfl, rfl, ty_3⟩, by decide, CmdR.l_item⟩
theorem fldR_24_3 : Fld Tryd.prog 24 3 3 (fun x : CmdR => x.box) CmdR.s_box := ⟨⟨_, _, Tryd.underlying24, rfl, rfl, ty_3⟩, by decide, CmdR.l_box⟩
theorem fldR_24_4 : Fld Tryd.prog 24 4 4 (fun x : CmdR => x.who) CmdR.s_who := ⟨⟨_, _, Tryd.underlying24, rfl, rfl, ty_3⟩, by decide, CmdR.l_who⟩
theorem fldR_24_5 : Fld Tryd.prog 24 5 5 (fun x : CmdR => x.gives) CmdR.s_gives := ⟨⟨_, _, Tryd.underlying24, rfl, rfl, tyr⟩, by decide, CmdR.l_gives⟩
theorem fldR_24_6 : Fld Tryd.prog 24 6 6 (fun x : CmdR => x.pay) CmdR.s_pay := ⟨⟨_, _, Tryd.underlying24, rfl, rfl, ty_3⟩, by decide, CmdR.l_pay⟩
theorem fldR_24_7 : Fld Tryd.prog 24 7 7 (fun x : CmdR => x.wants) CmdR.s_wants := ⟨⟨_, _, Tryd.underlying24, rfl, rfl, tyr⟩, by decide, CmdR.l_wants⟩
theorem fldR_24_8 : Fld Tryd.prog 24 8 8 (fun x : CmdR => x.fee) CmdR.s_fee := ⟨⟨_, _, Tryd.underlying24, rfl, rfl, ty_3⟩, by decide, CmdR.l_fee⟩
theorem eqt_74 : TyQ Tryd.prog 74 2 (fun a b : CPlain => decide (a = b)) := by
  refine TyQ.struct (n := 1) rfl Tryd.underlying74 Tryd.stoodInHeld74 (FQ.cons CPlain.l_kind rfl ty_3 (TyQ.le (TyQ.int Tryd.underlying3) (by decide)) (by decide) (FQ.cons CPlain.l_dir rfl ty_3 (TyQ.le (TyQ.int Tryd.underlying3) (by decide)) (by decide) (FQ.cons CPlain.l_item rfl ty_3 (TyQ.le (TyQ.int Tryd.underlying3) (by decide)) (by decide) (FQ.cons CPlain.l_box rfl ty_3 (TyQ.le (TyQ.int Tryd.underlying3) (by decide)) (by decide) (FQ.cons CPlain.l_who rfl ty_3 (TyQ.le (TyQ.int Tryd.underlying3) (by decide)) (by decide) (FQ.cons CPlain.l_pay rfl ty_3 (TyQ.le (TyQ.int Tryd.underlying3) (by decide)) (by decide) (FQ.cons CPlain.l_fee rfl ty_3 (TyQ.le (TyQ.int Tryd.underlying3) (by decide)) (by decide) FQ.nil))))))) (fun x y => ?_)
  obtain ⟨a0, a1, a2, a3, a4, a5, a6⟩ := x; obtain ⟨b0, b1, b2, b3, b4, b5, b6⟩ := y; rw [Bool.eq_iff_iff]; simp [CPlain.mk.injEq]
theorem eqt_59 : TyQ Tryd.prog 59 2 (fun a b : Arr 4 Str => decide (a.list = b.list)) := TyQ.array Tryd.underlying59 ty_9 (TyQ.str Tryd.underlying9)
theorem eqt_63 : TyQ Tryd.prog 63 2 (fun a b : Arr 11 Str => decide (a.list = b.list)) := TyQ.array Tryd.underlying63 ty_9 (TyQ.str Tryd.underlying9)
end Go.Proofs.YtgcaeaajpainmaaDoor
