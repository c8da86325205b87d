/- The seat's types as kinds of data: what the rules ask of each. By a program (facts.py) of this session. -/
import Derived.Test.YtgnblhmejecgfaaGreatDoorD
import Derived.Test.YtgnblhmejecgfaaGreatDoorT
import Derived.Test.YtgnblhmejecgfaaGreatDoorKC
import Derived.Test.YtgnblhmejecgfaaGreatDoorProg
import Derived.KernelRfl
import Derived.Laws.IdiomArrays
set_option linter.all false
namespace Go.Proofs.YtgnblhmejecgfaaGreatDoor
open Go Go.RowKit Go.Inn

theorem zc_int (m : View) : Rep.cells m (0 : Int) [Value.int .i64 0] := ⟨rfl, by unfold in64; omega⟩
theorem zc_bool (m : View) : Rep.cells m false [Value.bool false] := ⟨rfl, trivial⟩
theorem zc_str (m : View) : Rep.cells m ([] : Str) [Value.string ⟨[].toArray⟩] := ⟨rfl, by simp⟩
theorem zc_u8 (m : View) : Rep.cells m (0 : UInt8) [Value.int .u8 0] := ⟨rfl, trivial⟩
theorem zc_u16 (m : View) : Rep.cells m (0 : UInt16) [Value.int .u16 0] := ⟨rfl, trivial⟩
theorem zc_u32 (m : View) : Rep.cells m (0 : UInt32) [Value.int .u32 0] := ⟨rfl, trivial⟩
theorem zc_raw (m : View) : Rep.cells m RawSl.nil [Value.slice none 0 0] := ⟨rfl, rfl⟩
theorem zc_part (m : View) : Rep.cells m Part.nil [Value.nilFunc] := ⟨_, rfl, rfl⟩
theorem zc_list {α : Type} [Rep α] (m : View) : Rep.cells m ([] : List α) [Value.slice none 0 0] := ⟨none, 0, rfl, Nat.le_refl _, Nat.zero_le _, .inl rfl⟩
theorem zc_pair {α β : Type} [Rep α] [Rep β] {m : View} {x : α} {y : β} {c d : List Value} (h : Rep.cells m x c) (k : Rep.cells m y d) : Rep.cells m (x, y) (c ++ d) := ⟨c, d, rfl, h, k⟩
theorem zc_rep {α : Type} [Rep α] {m : View} {x : α} {c : List Value} (h : Rep.cells m x c) : ∀ k, arrCells m (List.replicate k x) (List.replicate k c).flatten
  | 0 => rfl
  | k + 1 => ⟨c, _, by rw [List.replicate_succ, List.flatten_cons], h, zc_rep h k⟩
theorem zc_arr {α : Type} [Rep α] {m : View} {x : α} {c : List Value} (k : Nat) (h : Rep.cells m x c) : Rep.cells m (⟨List.replicate k x, List.length_replicate⟩ : Arr k α) (List.replicate k c).flatten := zc_rep h k
theorem ty_1 : Ty Tryz.prog 1 (Fn0) := ⟨Tryz.isAgg1, Tryz.sizeOf1⟩
theorem ty_2 : Ty Tryz.prog 2 (Int) := ⟨Tryz.isAgg2, Tryz.sizeOf2⟩
theorem tyz_2 : TyZ Tryz.prog 2 (0 : Int) := ⟨ty_2, [Value.int .i64 0], Tryz.zeroValue2, fun m => zc_int m⟩
theorem ty_3 : Ty Tryz.prog 3 (Int) := ⟨Tryz.isAgg3, Tryz.sizeOf3⟩
theorem tyz_3 : TyZ Tryz.prog 3 (0 : Int) := ⟨ty_3, [Value.int .i64 0], Tryz.zeroValue3, fun m => zc_int m⟩
theorem ty_4 : Ty Tryz.prog 4 (Bool) := ⟨Tryz.isAgg4, Tryz.sizeOf4⟩
theorem tyz_4 : TyZ Tryz.prog 4 false := ⟨ty_4, [Value.bool false], Tryz.zeroValue4, fun m => zc_bool m⟩
theorem ty_5 : Ty Tryz.prog 5 (UInt8) := ⟨Tryz.isAgg5, Tryz.sizeOf5⟩
theorem tyz_5 : TyZ Tryz.prog 5 (0 : UInt8) := ⟨ty_5, [Value.int .u8 0], Tryz.zeroValue5, fun m => zc_u8 m⟩
theorem ty_6 : Ty Tryz.prog 6 (UInt8) := ⟨Tryz.isAgg6, Tryz.sizeOf6⟩
theorem tyz_6 : TyZ Tryz.prog 6 (0 : UInt8) := ⟨ty_6, [Value.int .u8 0], Tryz.zeroValue6, fun m => zc_u8 m⟩
theorem ty_9 : Ty Tryz.prog 9 (Str) := ⟨Tryz.isAgg9, Tryz.sizeOf9⟩
theorem tyz_9 : TyZ Tryz.prog 9 ([] : Str) := ⟨ty_9, [Value.string ⟨[].toArray⟩], Tryz.zeroValue9, fun m => zc_str m⟩
theorem ty_10 : Ty Tryz.prog 10 (Str) := ⟨Tryz.isAgg10, Tryz.sizeOf10⟩
theorem tyz_10 : TyZ Tryz.prog 10 ([] : Str) := ⟨ty_10, [Value.string ⟨[].toArray⟩], Tryz.zeroValue10, fun m => zc_str m⟩
theorem ty_11 : Ty Tryz.prog 11 (Str) := ⟨Tryz.isAgg11, Tryz.sizeOf11⟩
theorem tyz_11 : TyZ Tryz.prog 11 ([] : Str) := ⟨ty_11, [Value.string ⟨[].toArray⟩], Tryz.zeroValue11, fun m => zc_str m⟩
theorem ty_22 : Ty Tryz.prog 22 (List Str) := ⟨Tryz.isAgg22, Tryz.sizeOf22⟩
theorem tyz_22 : TyZ Tryz.prog 22 ([] : List Str) := ⟨ty_22, [Value.slice none 0 0], Tryz.zeroValue22, fun m => zc_list m⟩
theorem ty_24 : Ty Tryz.prog 24 (Script) := ⟨Tryz.isAgg24, Tryz.sizeOf24⟩
theorem tyz_24 : TyZ Tryz.prog 24 ({} : Script) := ⟨ty_24, [Value.int .i64 0, Value.slice none 0 0], Tryz.zeroValue24, fun m => zc_pair (zc_int m) (zc_list m)⟩
theorem ty_25 : Ty Tryz.prog 25 (Fn0) := ⟨Tryz.isAgg25, Tryz.sizeOf25⟩
theorem ty_26 : Ty Tryz.prog 26 (Fn0) := ⟨Tryz.isAgg26, Tryz.sizeOf26⟩
theorem ty_27 : Ty Tryz.prog 27 (List Int) := ⟨Tryz.isAgg27, Tryz.sizeOf27⟩
theorem tyz_27 : TyZ Tryz.prog 27 ([] : List Int) := ⟨ty_27, [Value.slice none 0 0], Tryz.zeroValue27, fun m => zc_list m⟩
theorem ty_29 : Ty Tryz.prog 29 (Cmd) := ⟨Tryz.isAgg29, Tryz.sizeOf29⟩
theorem tyz_29 : TyZ Tryz.prog 29 ({} : Cmd) := ⟨ty_29, [Value.int .i64 0, Value.int .i64 0, Value.int .i64 0, Value.int .i64 0, Value.int .i64 0, Value.slice none 0 0, Value.int .i64 0, Value.slice none 0 0, Value.int .i64 0], Tryz.zeroValue29, fun m => zc_pair (zc_int m) (zc_pair (zc_int m) (zc_pair (zc_int m) (zc_pair (zc_int m) (zc_pair (zc_int m) (zc_pair (zc_list m) (zc_pair (zc_int m) (zc_pair (zc_list m) (zc_int m))))))))⟩
theorem ty_30 : Ty Tryz.prog 30 (List Key) := ⟨Tryz.isAgg30, Tryz.sizeOf30⟩
theorem tyz_30 : TyZ Tryz.prog 30 ([] : List Key) := ⟨ty_30, [Value.slice none 0 0], Tryz.zeroValue30, fun m => zc_list m⟩
theorem ty_31 : Ty Tryz.prog 31 (List Write) := ⟨Tryz.isAgg31, Tryz.sizeOf31⟩
theorem tyz_31 : TyZ Tryz.prog 31 ([] : List Write) := ⟨ty_31, [Value.slice none 0 0], Tryz.zeroValue31, fun m => zc_list m⟩
theorem ty_32 : Ty Tryz.prog 32 (Int) := ⟨Tryz.isAgg32, Tryz.sizeOf32⟩
theorem tyz_32 : TyZ Tryz.prog 32 (0 : Int) := ⟨ty_32, [Value.int .i64 0], Tryz.zeroValue32, fun m => zc_int m⟩
theorem ty_33 : Ty Tryz.prog 33 (List Seen) := ⟨Tryz.isAgg33, Tryz.sizeOf33⟩
theorem tyz_33 : TyZ Tryz.prog 33 ([] : List Seen) := ⟨ty_33, [Value.slice none 0 0], Tryz.zeroValue33, fun m => zc_list m⟩
theorem ty_35 : Ty Tryz.prog 35 (Reply) := ⟨Tryz.isAgg35, Tryz.sizeOf35⟩
theorem tyz_35 : TyZ Tryz.prog 35 ({} : Reply) := ⟨ty_35, [Value.int .i64 0, Value.int .i64 0, Value.int .i64 0, Value.slice none 0 0, Value.slice none 0 0, Value.int .i64 0], Tryz.zeroValue35, fun m => zc_pair (zc_int m) (zc_pair (zc_int m) (zc_pair (zc_int m) (zc_pair (zc_list m) (zc_pair (zc_list m) (zc_int m)))))⟩
theorem ty_36 : Ty Tryz.prog 36 (List Spot) := ⟨Tryz.isAgg36, Tryz.sizeOf36⟩
theorem tyz_36 : TyZ Tryz.prog 36 ([] : List Spot) := ⟨ty_36, [Value.slice none 0 0], Tryz.zeroValue36, fun m => zc_list m⟩
theorem ty_38 : Ty Tryz.prog 38 (Sess) := ⟨Tryz.isAgg38, Tryz.sizeOf38⟩
theorem tyz_38 : TyZ Tryz.prog 38 ({} : Sess) := ⟨ty_38, [Value.int .i64 0, Value.slice none 0 0, Value.int .i64 0, Value.int .i64 0, Value.int .i64 0, Value.int .i64 0, Value.int .i64 0, Value.int .i64 0, Value.int .i64 0, Value.int .i64 0, Value.slice none 0 0, Value.int .i64 0, Value.slice none 0 0, Value.int .i64 0, Value.slice none 0 0, Value.int .i64 0, Value.slice none 0 0, Value.int .i64 0, Value.int .i64 0, Value.int .i64 0, Value.slice none 0 0, Value.slice none 0 0, Value.int .i64 0, Value.bool false, Value.int .i64 0, Value.int .i64 0, Value.int .i64 0, Value.slice none 0 0, Value.slice none 0 0, Value.int .i64 0], Tryz.zeroValue38, fun m => zc_pair (zc_int m) (zc_pair (zc_list m) (zc_pair (zc_int m) (zc_pair (zc_int m) (zc_pair (zc_int m) (zc_pair (zc_pair (zc_int m) (zc_pair (zc_int m) (zc_pair (zc_int m) (zc_pair (zc_int m) (zc_pair (zc_int m) (zc_pair (zc_list m) (zc_pair (zc_int m) (zc_pair (zc_list m) (zc_int m))))))))) (zc_pair (zc_list m) (zc_pair (zc_int m) (zc_pair (zc_list m) (zc_pair (zc_pair (zc_int m) (zc_pair (zc_int m) (zc_pair (zc_int m) (zc_pair (zc_list m) (zc_pair (zc_list m) (zc_int m)))))) (zc_pair (zc_bool m) (zc_pair (zc_int m) (zc_pair (zc_int m) (zc_pair (zc_int m) (zc_pair (zc_list m) (zc_pair (zc_list m) (zc_int m))))))))))))))))⟩
theorem ty_39 : Ty Tryz.prog 39 (Fn0) := ⟨Tryz.isAgg39, Tryz.sizeOf39⟩
theorem ty_40 : Ty Tryz.prog 40 (Fn0) := ⟨Tryz.isAgg40, Tryz.sizeOf40⟩
theorem ty_42 : Ty Tryz.prog 42 (Fn0) := ⟨Tryz.isAgg42, Tryz.sizeOf42⟩
theorem ty_43 : Ty Tryz.prog 43 (Fn0) := ⟨Tryz.isAgg43, Tryz.sizeOf43⟩
theorem ty_44 : Ty Tryz.prog 44 (Fn0) := ⟨Tryz.isAgg44, Tryz.sizeOf44⟩
theorem ty_45 : Ty Tryz.prog 45 (Fn0) := ⟨Tryz.isAgg45, Tryz.sizeOf45⟩
theorem ty_46 : Ty Tryz.prog 46 (Fn0) := ⟨Tryz.isAgg46, Tryz.sizeOf46⟩
theorem ty_47 : Ty Tryz.prog 47 (Fn0) := ⟨Tryz.isAgg47, Tryz.sizeOf47⟩
theorem ty_48 : Ty Tryz.prog 48 (Fn0) := ⟨Tryz.isAgg48, Tryz.sizeOf48⟩
theorem ty_50 : Ty Tryz.prog 50 (Fn0) := ⟨Tryz.isAgg50, Tryz.sizeOf50⟩
theorem ty_52 : Ty Tryz.prog 52 (Fn0) := ⟨Tryz.isAgg52, Tryz.sizeOf52⟩
theorem ty_54 : Ty Tryz.prog 54 (Fn0) := ⟨Tryz.isAgg54, Tryz.sizeOf54⟩
theorem ty_55 : Ty Tryz.prog 55 (Fn0) := ⟨Tryz.isAgg55, Tryz.sizeOf55⟩
theorem ty_56 : Ty Tryz.prog 56 (Fn0) := ⟨Tryz.isAgg56, Tryz.sizeOf56⟩
theorem ty_57 : Ty Tryz.prog 57 (Fn0) := ⟨Tryz.isAgg57, Tryz.sizeOf57⟩
theorem ty_58 : Ty Tryz.prog 58 (Fn0) := ⟨Tryz.isAgg58, Tryz.sizeOf58⟩
theorem ty_59 : Ty Tryz.prog 59 (Fn0) := ⟨Tryz.isAgg59, Tryz.sizeOf59⟩
theorem ty_60 : Ty Tryz.prog 60 (Fn0) := ⟨Tryz.isAgg60, Tryz.sizeOf60⟩
theorem ty_62 : Ty Tryz.prog 62 (Fn0) := ⟨Tryz.isAgg62, Tryz.sizeOf62⟩
theorem ty_63 : Ty Tryz.prog 63 (Fn0) := ⟨Tryz.isAgg63, Tryz.sizeOf63⟩
theorem ty_64 : Ty Tryz.prog 64 (Fn0) := ⟨Tryz.isAgg64, Tryz.sizeOf64⟩
theorem ty_65 : Ty Tryz.prog 65 (Fn0) := ⟨Tryz.isAgg65, Tryz.sizeOf65⟩
theorem ty_66 : Ty Tryz.prog 66 (Fn0) := ⟨Tryz.isAgg66, Tryz.sizeOf66⟩
theorem ty_67 : Ty Tryz.prog 67 (Fn0) := ⟨Tryz.isAgg67, Tryz.sizeOf67⟩
theorem ty_68 : Ty Tryz.prog 68 (Fn0) := ⟨Tryz.isAgg68, Tryz.sizeOf68⟩
theorem ty_69 : Ty Tryz.prog 69 (Arr 9 Int) := ⟨Tryz.isAgg69, Tryz.sizeOf69⟩
theorem tyz_69 : TyZ Tryz.prog 69 (⟨List.replicate 9 (0 : Int), rfl⟩ : Arr 9 Int) := ⟨ty_69, [Value.int .i64 0, Value.int .i64 0, Value.int .i64 0, Value.int .i64 0, Value.int .i64 0, Value.int .i64 0, Value.int .i64 0, Value.int .i64 0, Value.int .i64 0], Tryz.zeroValue69, fun m => zc_arr 9 (zc_int m)⟩
theorem ty_70 : Ty Tryz.prog 70 (Fn0) := ⟨Tryz.isAgg70, Tryz.sizeOf70⟩
theorem ty_71 : Ty Tryz.prog 71 (Fn0) := ⟨Tryz.isAgg71, Tryz.sizeOf71⟩
theorem ty_72 : Ty Tryz.prog 72 (Arr 2 (List Str)) := ⟨Tryz.isAgg72, Tryz.sizeOf72⟩
theorem tyz_72 : TyZ Tryz.prog 72 (⟨List.replicate 2 ([] : List Str), rfl⟩ : Arr 2 (List Str)) := ⟨ty_72, [Value.slice none 0 0, Value.slice none 0 0], Tryz.zeroValue72, fun m => zc_arr 2 (zc_list m)⟩
theorem ty_73 : Ty Tryz.prog 73 (Fn0) := ⟨Tryz.isAgg73, Tryz.sizeOf73⟩
theorem ty_75 : Ty Tryz.prog 75 (Key) := ⟨Tryz.isAgg75, Tryz.sizeOf75⟩
theorem tyz_75 : TyZ Tryz.prog 75 ({} : Key) := ⟨ty_75, [Value.int .i64 0, Value.int .i64 0], Tryz.zeroValue75, fun m => zc_pair (zc_int m) (zc_int m)⟩
theorem ty_76 : Ty Tryz.prog 76 (Arr 2 (List Key)) := ⟨Tryz.isAgg76, Tryz.sizeOf76⟩
theorem tyz_76 : TyZ Tryz.prog 76 (⟨List.replicate 2 ([] : List Key), rfl⟩ : Arr 2 (List Key)) := ⟨ty_76, [Value.slice none 0 0, Value.slice none 0 0], Tryz.zeroValue76, fun m => zc_arr 2 (zc_list m)⟩
theorem ty_77 : Ty Tryz.prog 77 (Fn0) := ⟨Tryz.isAgg77, Tryz.sizeOf77⟩
theorem ty_78 : Ty Tryz.prog 78 (Spot) := ⟨Tryz.isAgg78, Tryz.sizeOf78⟩
theorem tyz_78 : TyZ Tryz.prog 78 ({} : Spot) := ⟨ty_78, [Value.int .i64 0, Value.int .i64 0], Tryz.zeroValue78, fun m => zc_pair (zc_int m) (zc_int m)⟩
theorem ty_80 : Ty Tryz.prog 80 (Write) := ⟨Tryz.isAgg80, Tryz.sizeOf80⟩
theorem tyz_80 : TyZ Tryz.prog 80 ({} : Write) := ⟨ty_80, [Value.int .i64 0, Value.int .i64 0, Value.int .i64 0, Value.int .i64 0, Value.int .i64 0], Tryz.zeroValue80, fun m => zc_pair (zc_int m) (zc_pair (zc_int m) (zc_pair (zc_int m) (zc_pair (zc_int m) (zc_int m))))⟩
theorem ty_81 : Ty Tryz.prog 81 (Arr 2 (List Write)) := ⟨Tryz.isAgg81, Tryz.sizeOf81⟩
theorem tyz_81 : TyZ Tryz.prog 81 (⟨List.replicate 2 ([] : List Write), rfl⟩ : Arr 2 (List Write)) := ⟨ty_81, [Value.slice none 0 0, Value.slice none 0 0], Tryz.zeroValue81, fun m => zc_arr 2 (zc_list m)⟩
theorem ty_82 : Ty Tryz.prog 82 (Fn0) := ⟨Tryz.isAgg82, Tryz.sizeOf82⟩
theorem ty_83 : Ty Tryz.prog 83 (Arr 2 (List Spot)) := ⟨Tryz.isAgg83, Tryz.sizeOf83⟩
theorem tyz_83 : TyZ Tryz.prog 83 (⟨List.replicate 2 ([] : List Spot), rfl⟩ : Arr 2 (List Spot)) := ⟨ty_83, [Value.slice none 0 0, Value.slice none 0 0], Tryz.zeroValue83, fun m => zc_arr 2 (zc_list m)⟩
theorem ty_84 : Ty Tryz.prog 84 (Fn0) := ⟨Tryz.isAgg84, Tryz.sizeOf84⟩
theorem ty_85 : Ty Tryz.prog 85 (Arr 2 (List Int)) := ⟨Tryz.isAgg85, Tryz.sizeOf85⟩
theorem tyz_85 : TyZ Tryz.prog 85 (⟨List.replicate 2 ([] : List Int), rfl⟩ : Arr 2 (List Int)) := ⟨ty_85, [Value.slice none 0 0, Value.slice none 0 0], Tryz.zeroValue85, fun m => zc_arr 2 (zc_list m)⟩
theorem ty_87 : Ty Tryz.prog 87 (Fn0) := ⟨Tryz.isAgg87, Tryz.sizeOf87⟩
theorem ty_88 : Ty Tryz.prog 88 (Fn0) := ⟨Tryz.isAgg88, Tryz.sizeOf88⟩
theorem ty_89 : Ty Tryz.prog 89 (Fn0) := ⟨Tryz.isAgg89, Tryz.sizeOf89⟩
theorem ty_90 : Ty Tryz.prog 90 (List Part) := ⟨Tryz.isAgg90, Tryz.sizeOf90⟩
theorem tyz_90 : TyZ Tryz.prog 90 ([] : List Part) := ⟨ty_90, [Value.slice none 0 0], Tryz.zeroValue90, fun m => zc_list m⟩
theorem ty_92 : Ty Tryz.prog 92 (Fn0) := ⟨Tryz.isAgg92, Tryz.sizeOf92⟩
theorem ty_93 : Ty Tryz.prog 93 (Fn0) := ⟨Tryz.isAgg93, Tryz.sizeOf93⟩
theorem ty_94 : Ty Tryz.prog 94 (Part) := ⟨Tryz.isAgg94, Tryz.sizeOf94⟩
theorem tyz_94 : TyZ Tryz.prog 94 Part.nil := ⟨ty_94, [Value.nilFunc], Tryz.zeroValue94, fun m => zc_part m⟩
theorem ty_97 : Ty Tryz.prog 97 (Fn0) := ⟨Tryz.isAgg97, Tryz.sizeOf97⟩
theorem ty_98 : Ty Tryz.prog 98 (Fn0) := ⟨Tryz.isAgg98, Tryz.sizeOf98⟩
theorem ty_100 : Ty Tryz.prog 100 (Seen) := ⟨Tryz.isAgg100, Tryz.sizeOf100⟩
theorem tyz_100 : TyZ Tryz.prog 100 ({} : Seen) := ⟨ty_100, [Value.int .i64 0, Value.int .i64 0, Value.int .i64 0], Tryz.zeroValue100, fun m => zc_pair (zc_int m) (zc_pair (zc_int m) (zc_int m))⟩
theorem ty_102 : Ty Tryz.prog 102 (CPlain) := ⟨Tryz.isAgg102, Tryz.sizeOf102⟩
theorem tyz_102 : TyZ Tryz.prog 102 ({} : CPlain) := ⟨ty_102, [Value.int .i64 0, Value.int .i64 0, Value.int .i64 0, Value.int .i64 0, Value.int .i64 0, Value.int .i64 0, Value.int .i64 0], Tryz.zeroValue102, fun m => zc_pair (zc_int m) (zc_pair (zc_int m) (zc_pair (zc_int m) (zc_pair (zc_int m) (zc_pair (zc_int m) (zc_pair (zc_int m) (zc_int m))))))⟩
theorem ty_103 : Ty Tryz.prog 103 (Fn0) := ⟨Tryz.isAgg103, Tryz.sizeOf103⟩
theorem ty_105 : Ty Tryz.prog 105 (RPlain) := ⟨Tryz.isAgg105, Tryz.sizeOf105⟩
theorem tyz_105 : TyZ Tryz.prog 105 ({} : RPlain) := ⟨ty_105, [Value.int .i64 0, Value.int .i64 0, Value.int .i64 0, Value.int .i64 0], Tryz.zeroValue105, fun m => zc_pair (zc_int m) (zc_pair (zc_int m) (zc_pair (zc_int m) (zc_int m)))⟩
theorem ty_106 : Ty Tryz.prog 106 (Fn0) := ⟨Tryz.isAgg106, Tryz.sizeOf106⟩
theorem ty_107 : Ty Tryz.prog 107 (List (Arr 2 (List Str))) := ⟨Tryz.isAgg107, Tryz.sizeOf107⟩
theorem tyz_107 : TyZ Tryz.prog 107 ([] : List (Arr 2 (List Str))) := ⟨ty_107, [Value.slice none 0 0], Tryz.zeroValue107, fun m => zc_list m⟩
theorem ty_108 : Ty Tryz.prog 108 (Fn0) := ⟨Tryz.isAgg108, Tryz.sizeOf108⟩
theorem ty_109 : Ty Tryz.prog 109 (Fn0) := ⟨Tryz.isAgg109, Tryz.sizeOf109⟩
theorem ty_110 : Ty Tryz.prog 110 (List (Arr 2 (List Key))) := ⟨Tryz.isAgg110, Tryz.sizeOf110⟩
theorem tyz_110 : TyZ Tryz.prog 110 ([] : List (Arr 2 (List Key))) := ⟨ty_110, [Value.slice none 0 0], Tryz.zeroValue110, fun m => zc_list m⟩
theorem ty_111 : Ty Tryz.prog 111 (Fn0) := ⟨Tryz.isAgg111, Tryz.sizeOf111⟩
theorem ty_112 : Ty Tryz.prog 112 (Fn0) := ⟨Tryz.isAgg112, Tryz.sizeOf112⟩
theorem ty_113 : Ty Tryz.prog 113 (Fn0) := ⟨Tryz.isAgg113, Tryz.sizeOf113⟩
theorem ty_114 : Ty Tryz.prog 114 (List (Arr 2 (List Write))) := ⟨Tryz.isAgg114, Tryz.sizeOf114⟩
theorem tyz_114 : TyZ Tryz.prog 114 ([] : List (Arr 2 (List Write))) := ⟨ty_114, [Value.slice none 0 0], Tryz.zeroValue114, fun m => zc_list m⟩
theorem ty_115 : Ty Tryz.prog 115 (Fn0) := ⟨Tryz.isAgg115, Tryz.sizeOf115⟩
theorem ty_116 : Ty Tryz.prog 116 (Fn0) := ⟨Tryz.isAgg116, Tryz.sizeOf116⟩
theorem ty_117 : Ty Tryz.prog 117 (Fn0) := ⟨Tryz.isAgg117, Tryz.sizeOf117⟩
theorem ty_118 : Ty Tryz.prog 118 (List (Arr 2 (List Spot))) := ⟨Tryz.isAgg118, Tryz.sizeOf118⟩
theorem tyz_118 : TyZ Tryz.prog 118 ([] : List (Arr 2 (List Spot))) := ⟨ty_118, [Value.slice none 0 0], Tryz.zeroValue118, fun m => zc_list m⟩
theorem ty_119 : Ty Tryz.prog 119 (Fn0) := ⟨Tryz.isAgg119, Tryz.sizeOf119⟩
theorem ty_120 : Ty Tryz.prog 120 (Fn0) := ⟨Tryz.isAgg120, Tryz.sizeOf120⟩
theorem ty_121 : Ty Tryz.prog 121 (Fn0) := ⟨Tryz.isAgg121, Tryz.sizeOf121⟩
theorem ty_122 : Ty Tryz.prog 122 (List (Arr 2 (List Int))) := ⟨Tryz.isAgg122, Tryz.sizeOf122⟩
theorem tyz_122 : TyZ Tryz.prog 122 ([] : List (Arr 2 (List Int))) := ⟨ty_122, [Value.slice none 0 0], Tryz.zeroValue122, fun m => zc_list m⟩
theorem ty_123 : Ty Tryz.prog 123 (Fn0) := ⟨Tryz.isAgg123, Tryz.sizeOf123⟩
theorem ty_124 : Ty Tryz.prog 124 (Fn0) := ⟨Tryz.isAgg124, Tryz.sizeOf124⟩
theorem ty_125 : Ty Tryz.prog 125 (Fn0) := ⟨Tryz.isAgg125, Tryz.sizeOf125⟩
theorem ty_126 : Ty Tryz.prog 126 (Fn0) := ⟨Tryz.isAgg126, Tryz.sizeOf126⟩
theorem ty_127 : Ty Tryz.prog 127 (Fn0) := ⟨Tryz.isAgg127, Tryz.sizeOf127⟩
theorem ty_128 : Ty Tryz.prog 128 (Fn0) := ⟨Tryz.isAgg128, Tryz.sizeOf128⟩
theorem ty_129 : Ty Tryz.prog 129 (Arr 4 Str) := ⟨Tryz.isAgg129, Tryz.sizeOf129⟩
theorem tyz_129 : TyZ Tryz.prog 129 (⟨List.replicate 4 ([] : Str), rfl⟩ : Arr 4 Str) := ⟨ty_129, [Value.string ⟨[].toArray⟩, Value.string ⟨[].toArray⟩, Value.string ⟨[].toArray⟩, Value.string ⟨[].toArray⟩], Tryz.zeroValue129, fun m => zc_arr 4 (zc_str m)⟩
theorem ty_130 : Ty Tryz.prog 130 (List (List Str)) := ⟨Tryz.isAgg130, Tryz.sizeOf130⟩
theorem tyz_130 : TyZ Tryz.prog 130 ([] : List (List Str)) := ⟨ty_130, [Value.slice none 0 0], Tryz.zeroValue130, fun m => zc_list m⟩
theorem ty_131 : Ty Tryz.prog 131 (Fn0) := ⟨Tryz.isAgg131, Tryz.sizeOf131⟩
theorem ty_132 : Ty Tryz.prog 132 (Fn0) := ⟨Tryz.isAgg132, Tryz.sizeOf132⟩
theorem ty_133 : Ty Tryz.prog 133 (Arr 11 Str) := ⟨Tryz.isAgg133, Tryz.sizeOf133⟩
theorem tyz_133 : TyZ Tryz.prog 133 (⟨List.replicate 11 ([] : Str), rfl⟩ : Arr 11 Str) := ⟨ty_133, [Value.string ⟨[].toArray⟩, Value.string ⟨[].toArray⟩, Value.string ⟨[].toArray⟩, Value.string ⟨[].toArray⟩, Value.string ⟨[].toArray⟩, Value.string ⟨[].toArray⟩, Value.string ⟨[].toArray⟩, Value.string ⟨[].toArray⟩, Value.string ⟨[].toArray⟩, Value.string ⟨[].toArray⟩, Value.string ⟨[].toArray⟩], Tryz.zeroValue133, fun m => zc_arr 11 (zc_str m)⟩
theorem ty_134 : Ty Tryz.prog 134 (Fn0) := ⟨Tryz.isAgg134, Tryz.sizeOf134⟩
theorem ty_136 : Ty Tryz.prog 136 (Fn0) := ⟨Tryz.isAgg136, Tryz.sizeOf136⟩
theorem ty_137 : Ty Tryz.prog 137 (Fn0) := ⟨Tryz.isAgg137, Tryz.sizeOf137⟩
theorem ty_138 : Ty Tryz.prog 138 (Fn0) := ⟨Tryz.isAgg138, Tryz.sizeOf138⟩
theorem ty_139 : Ty Tryz.prog 139 (Fn0) := ⟨Tryz.isAgg139, Tryz.sizeOf139⟩
theorem ty_140 : Ty Tryz.prog 140 (Fn0) := ⟨Tryz.isAgg140, Tryz.sizeOf140⟩
theorem ty_141 : Ty Tryz.prog 141 (Fn0) := ⟨Tryz.isAgg141, Tryz.sizeOf141⟩
theorem ty_142 : Ty Tryz.prog 142 (Fn0) := ⟨Tryz.isAgg142, Tryz.sizeOf142⟩
theorem ty_143 : Ty Tryz.prog 143 (Fn0) := ⟨Tryz.isAgg143, Tryz.sizeOf143⟩
theorem ty_144 : Ty Tryz.prog 144 (Fn0) := ⟨Tryz.isAgg144, Tryz.sizeOf144⟩
theorem ty_145 : Ty Tryz.prog 145 (Fn0) := ⟨Tryz.isAgg145, Tryz.sizeOf145⟩
theorem ty_146 : Ty Tryz.prog 146 (Fn0) := ⟨Tryz.isAgg146, Tryz.sizeOf146⟩
theorem ty_147 : Ty Tryz.prog 147 (Fn0) := ⟨Tryz.isAgg147, Tryz.sizeOf147⟩
theorem ty_148 : Ty Tryz.prog 148 (Fn0) := ⟨Tryz.isAgg148, Tryz.sizeOf148⟩
theorem ty_153 : Ty Tryz.prog 153 (Fn0) := ⟨Tryz.isAgg153, Tryz.sizeOf153⟩
theorem ty_157 : Ty Tryz.prog 157 (Fn0) := ⟨Tryz.isAgg157, Tryz.sizeOf157⟩
theorem ty_158 : Ty Tryz.prog 158 (Fn0) := ⟨Tryz.isAgg158, Tryz.sizeOf158⟩
theorem ty_159 : Ty Tryz.prog 159 (Fn0) := ⟨Tryz.isAgg159, Tryz.sizeOf159⟩
theorem ty_160 : Ty Tryz.prog 160 (Fn0) := ⟨Tryz.isAgg160, Tryz.sizeOf160⟩
theorem ty_163 : Ty Tryz.prog 163 (Fn0) := ⟨Tryz.isAgg163, Tryz.sizeOf163⟩
theorem ty_164 : Ty Tryz.prog 164 (Fn0) := ⟨Tryz.isAgg164, Tryz.sizeOf164⟩
theorem ty_167 : Ty Tryz.prog 167 (Fn0) := ⟨Tryz.isAgg167, Tryz.sizeOf167⟩
theorem ty_168 : Ty Tryz.prog 168 (Fn0) := ⟨Tryz.isAgg168, Tryz.sizeOf168⟩
theorem ty_169 : Ty Tryz.prog 169 (Arr 24 UInt8) := ⟨Tryz.isAgg169, Tryz.sizeOf169⟩
theorem ty_171 : Ty Tryz.prog 171 (Fn0) := ⟨Tryz.isAgg171, Tryz.sizeOf171⟩
theorem ty_172 : Ty Tryz.prog 172 (Fn0) := ⟨Tryz.isAgg172, Tryz.sizeOf172⟩
theorem ty_174 : Ty Tryz.prog 174 (Fn0) := ⟨Tryz.isAgg174, Tryz.sizeOf174⟩
theorem ty_176 : Ty Tryz.prog 176 (Fn0) := ⟨Tryz.isAgg176, Tryz.sizeOf176⟩
theorem ty_177 : Ty Tryz.prog 177 (Fn0) := ⟨Tryz.isAgg177, Tryz.sizeOf177⟩
theorem ty_178 : Ty Tryz.prog 178 (Fn0) := ⟨Tryz.isAgg178, Tryz.sizeOf178⟩
theorem ty_179 : Ty Tryz.prog 179 (Fn0) := ⟨Tryz.isAgg179, Tryz.sizeOf179⟩
theorem ty_180 : Ty Tryz.prog 180 (Fn0) := ⟨Tryz.isAgg180, Tryz.sizeOf180⟩
theorem ty_182 : Ty Tryz.prog 182 (UInt32) := ⟨Tryz.isAgg182, Tryz.sizeOf182⟩
theorem tyz_182 : TyZ Tryz.prog 182 (0 : UInt32) := ⟨ty_182, [Value.int .u32 0], Tryz.zeroValue182, fun m => zc_u32 m⟩
theorem ty_183 : Ty Tryz.prog 183 (Arr 65 UInt8) := ⟨Tryz.isAgg183, Tryz.sizeOf183⟩
theorem ty_185 : Ty Tryz.prog 185 (Fn0) := ⟨Tryz.isAgg185, Tryz.sizeOf185⟩
theorem ty_186 : Ty Tryz.prog 186 (Arr 256 UInt8) := ⟨Tryz.isAgg186, Tryz.sizeOf186⟩
theorem ty_190 : Ty Tryz.prog 190 (Fn0) := ⟨Tryz.isAgg190, Tryz.sizeOf190⟩
theorem ty_191 : Ty Tryz.prog 191 (Int) := ⟨Tryz.isAgg191, Tryz.sizeOf191⟩
theorem tyz_191 : TyZ Tryz.prog 191 (0 : Int) := ⟨ty_191, [Value.int .i64 0], Tryz.zeroValue191, fun m => zc_int m⟩
theorem ty_193 : Ty Tryz.prog 193 (Fn0) := ⟨Tryz.isAgg193, Tryz.sizeOf193⟩
theorem ty_195 : Ty Tryz.prog 195 (Fn0) := ⟨Tryz.isAgg195, Tryz.sizeOf195⟩
theorem ty_196 : Ty Tryz.prog 196 (Fn0) := ⟨Tryz.isAgg196, Tryz.sizeOf196⟩
theorem ty_197 : Ty Tryz.prog 197 (Fn0) := ⟨Tryz.isAgg197, Tryz.sizeOf197⟩
theorem ty_199 : Ty Tryz.prog 199 (Fn0) := ⟨Tryz.isAgg199, Tryz.sizeOf199⟩
theorem ty_201 : Ty Tryz.prog 201 (Fn0) := ⟨Tryz.isAgg201, Tryz.sizeOf201⟩
theorem ty_202 : Ty Tryz.prog 202 (Fn0) := ⟨Tryz.isAgg202, Tryz.sizeOf202⟩
theorem ty_205 : Ty Tryz.prog 205 (Fn0) := ⟨Tryz.isAgg205, Tryz.sizeOf205⟩
theorem ty_206 : Ty Tryz.prog 206 (Arr 32 UInt8) := ⟨Tryz.isAgg206, Tryz.sizeOf206⟩
theorem ty_207 : Ty Tryz.prog 207 (Arr 64 UInt8) := ⟨Tryz.isAgg207, Tryz.sizeOf207⟩
theorem ty_208 : Ty Tryz.prog 208 (Fn0) := ⟨Tryz.isAgg208, Tryz.sizeOf208⟩
theorem ty_217 : Ty Tryz.prog 217 (Fn0) := ⟨Tryz.isAgg217, Tryz.sizeOf217⟩
theorem ty_218 : Ty Tryz.prog 218 (UInt8) := ⟨Tryz.isAgg218, Tryz.sizeOf218⟩
theorem tyz_218 : TyZ Tryz.prog 218 (0 : UInt8) := ⟨ty_218, [Value.int .u8 0], Tryz.zeroValue218, fun m => zc_u8 m⟩
theorem ty_219 : Ty Tryz.prog 219 (UInt8) := ⟨Tryz.isAgg219, Tryz.sizeOf219⟩
theorem tyz_219 : TyZ Tryz.prog 219 (0 : UInt8) := ⟨ty_219, [Value.int .u8 0], Tryz.zeroValue219, fun m => zc_u8 m⟩
theorem ty_220 : Ty Tryz.prog 220 (Fn0) := ⟨Tryz.isAgg220, Tryz.sizeOf220⟩
theorem fld_24_0 : Fld Tryz.prog 24 0 0 (fun x : Script => x.player) Script.s_player := ⟨⟨_, _, Tryz.underlying24, rfl, rfl, ty_3⟩, by decide, Script.l_player⟩
theorem fld_24_1 : Fld Tryz.prog 24 1 1 (fun x : Script => x.lines) Script.s_lines := ⟨⟨_, _, Tryz.underlying24, rfl, rfl, ty_22⟩, by decide, Script.l_lines⟩
theorem tys_24 : TyS Tryz.prog 24 ({} : Script) [(0, 1), (1, 1)] := ⟨tyz_24, rfl, _, Tryz.underlying24, fun w => by simp [Tryz.sizeOf22, Tryz.sizeOf3]⟩
theorem fld_29_0 : Fld Tryz.prog 29 0 0 (fun x : Cmd => x.kind) Cmd.s_kind := ⟨⟨_, _, Tryz.underlying29, rfl, rfl, ty_3⟩, by decide, Cmd.l_kind⟩
theorem fld_29_1 : Fld Tryz.prog 29 1 1 (fun x : Cmd => x.dir) Cmd.s_dir := ⟨⟨_, _, Tryz.underlying29, rfl, rfl, ty_3⟩, by decide, Cmd.l_dir⟩
theorem fld_29_2 : Fld Tryz.prog 29 2 2 (fun x : Cmd => x.item) Cmd.s_item := ⟨⟨_, _, Tryz.underlying29, rfl, rfl, ty_3⟩, by decide, Cmd.l_item⟩
theorem fld_29_3 : Fld Tryz.prog 29 3 3 (fun x : Cmd => x.box) Cmd.s_box := ⟨⟨_, _, Tryz.underlying29, rfl, rfl, ty_3⟩, by decide, Cmd.l_box⟩
theorem fld_29_4 : Fld Tryz.prog 29 4 4 (fun x : Cmd => x.who) Cmd.s_who := ⟨⟨_, _, Tryz.underlying29, rfl, rfl, ty_3⟩, by decide, Cmd.l_who⟩
theorem fld_29_5 : Fld Tryz.prog 29 5 5 (fun x : Cmd => x.gives) Cmd.s_gives := ⟨⟨_, _, Tryz.underlying29, rfl, rfl, ty_27⟩, by decide, Cmd.l_gives⟩
theorem fld_29_6 : Fld Tryz.prog 29 6 6 (fun x : Cmd => x.pay) Cmd.s_pay := ⟨⟨_, _, Tryz.underlying29, rfl, rfl, ty_3⟩, by decide, Cmd.l_pay⟩
theorem fld_29_7 : Fld Tryz.prog 29 7 7 (fun x : Cmd => x.wants) Cmd.s_wants := ⟨⟨_, _, Tryz.underlying29, rfl, rfl, ty_27⟩, by decide, Cmd.l_wants⟩
theorem fld_29_8 : Fld Tryz.prog 29 8 8 (fun x : Cmd => x.fee) Cmd.s_fee := ⟨⟨_, _, Tryz.underlying29, rfl, rfl, ty_3⟩, by decide, Cmd.l_fee⟩
theorem tys_29 : TyS Tryz.prog 29 ({} : Cmd) [(0, 1), (1, 1), (2, 1), (3, 1), (4, 1), (5, 1), (6, 1), (7, 1), (8, 1)] := ⟨tyz_29, rfl, _, Tryz.underlying29, fun w => by simp [Tryz.sizeOf27, Tryz.sizeOf3]⟩
theorem fld_35_0 : Fld Tryz.prog 35 0 0 (fun x : Reply => x.err) Reply.s_err := ⟨⟨_, _, Tryz.underlying35, rfl, rfl, ty_32⟩, by decide, Reply.l_err⟩
theorem fld_35_1 : Fld Tryz.prog 35 1 1 (fun x : Reply => x.kind) Reply.s_kind := ⟨⟨_, _, Tryz.underlying35, rfl, rfl, ty_3⟩, by decide, Reply.l_kind⟩
theorem fld_35_2 : Fld Tryz.prog 35 2 2 (fun x : Reply => x.room) Reply.s_room := ⟨⟨_, _, Tryz.underlying35, rfl, rfl, ty_3⟩, by decide, Reply.l_room⟩
theorem fld_35_3 : Fld Tryz.prog 35 3 3 (fun x : Reply => x.players) Reply.s_players := ⟨⟨_, _, Tryz.underlying35, rfl, rfl, ty_27⟩, by decide, Reply.l_players⟩
theorem fld_35_4 : Fld Tryz.prog 35 4 4 (fun x : Reply => x.items) Reply.s_items := ⟨⟨_, _, Tryz.underlying35, rfl, rfl, ty_33⟩, by decide, Reply.l_items⟩
theorem fld_35_5 : Fld Tryz.prog 35 5 5 (fun x : Reply => x.coins) Reply.s_coins := ⟨⟨_, _, Tryz.underlying35, rfl, rfl, ty_3⟩, by decide, Reply.l_coins⟩
theorem tys_35 : TyS Tryz.prog 35 ({} : Reply) [(0, 1), (1, 1), (2, 1), (3, 1), (4, 1), (5, 1)] := ⟨tyz_35, rfl, _, Tryz.underlying35, fun w => by simp [Tryz.sizeOf27, Tryz.sizeOf3, Tryz.sizeOf32, Tryz.sizeOf33]⟩
theorem fld_38_0 : Fld Tryz.prog 38 0 0 (fun x : Sess => x.player) Sess.s_player := ⟨⟨_, _, Tryz.underlying38, rfl, rfl, ty_3⟩, by decide, Sess.l_player⟩
theorem fld_38_1 : Fld Tryz.prog 38 1 1 (fun x : Sess => x.lines) Sess.s_lines := ⟨⟨_, _, Tryz.underlying38, rfl, rfl, ty_22⟩, by decide, Sess.l_lines⟩
theorem fld_38_2 : Fld Tryz.prog 38 2 2 (fun x : Sess => x.next) Sess.s_next := ⟨⟨_, _, Tryz.underlying38, rfl, rfl, ty_3⟩, by decide, Sess.l_next⟩
theorem fld_38_3 : Fld Tryz.prog 38 3 3 (fun x : Sess => x.phase) Sess.s_phase := ⟨⟨_, _, Tryz.underlying38, rfl, rfl, ty_3⟩, by decide, Sess.l_phase⟩
theorem fld_38_4 : Fld Tryz.prog 38 4 4 (fun x : Sess => x.step) Sess.s_step := ⟨⟨_, _, Tryz.underlying38, rfl, rfl, ty_3⟩, by decide, Sess.l_step⟩
theorem fld_38_5 : Fld Tryz.prog 38 5 5 (fun x : Sess => x.cmd) Sess.s_cmd := ⟨⟨_, _, Tryz.underlying38, rfl, rfl, ty_29⟩, by decide, Sess.l_cmd⟩
theorem fld_38_6 : Fld Tryz.prog 38 6 14 (fun x : Sess => x.foot) Sess.s_foot := ⟨⟨_, _, Tryz.underlying38, rfl, rfl, ty_30⟩, by decide, Sess.l_foot⟩
theorem fld_38_7 : Fld Tryz.prog 38 7 15 (fun x : Sess => x.has) Sess.s_has := ⟨⟨_, _, Tryz.underlying38, rfl, rfl, ty_3⟩, by decide, Sess.l_has⟩
theorem fld_38_8 : Fld Tryz.prog 38 8 16 (fun x : Sess => x.plan) Sess.s_plan := ⟨⟨_, _, Tryz.underlying38, rfl, rfl, ty_31⟩, by decide, Sess.l_plan⟩
theorem fld_38_9 : Fld Tryz.prog 38 9 17 (fun x : Sess => x.reply) Sess.s_reply := ⟨⟨_, _, Tryz.underlying38, rfl, rfl, ty_35⟩, by decide, Sess.l_reply⟩
theorem fld_38_10 : Fld Tryz.prog 38 10 23 (fun x : Sess => x.stale) Sess.s_stale := ⟨⟨_, _, Tryz.underlying38, rfl, rfl, ty_4⟩, by decide, Sess.l_stale⟩
theorem fld_38_11 : Fld Tryz.prog 38 11 24 (fun x : Sess => x.tries) Sess.s_tries := ⟨⟨_, _, Tryz.underlying38, rfl, rfl, ty_3⟩, by decide, Sess.l_tries⟩
theorem fld_38_12 : Fld Tryz.prog 38 12 25 (fun x : Sess => x.ver) Sess.s_ver := ⟨⟨_, _, Tryz.underlying38, rfl, rfl, ty_3⟩, by decide, Sess.l_ver⟩
theorem fld_38_13 : Fld Tryz.prog 38 13 26 (fun x : Sess => x.room) Sess.s_room := ⟨⟨_, _, Tryz.underlying38, rfl, rfl, ty_3⟩, by decide, Sess.l_room⟩
theorem fld_38_14 : Fld Tryz.prog 38 14 27 (fun x : Sess => x.copies) Sess.s_copies := ⟨⟨_, _, Tryz.underlying38, rfl, rfl, ty_36⟩, by decide, Sess.l_copies⟩
theorem fld_38_15 : Fld Tryz.prog 38 15 28 (fun x : Sess => x.heads) Sess.s_heads := ⟨⟨_, _, Tryz.underlying38, rfl, rfl, ty_27⟩, by decide, Sess.l_heads⟩
theorem fld_38_16 : Fld Tryz.prog 38 16 29 (fun x : Sess => x.purse) Sess.s_purse := ⟨⟨_, _, Tryz.underlying38, rfl, rfl, ty_3⟩, by decide, Sess.l_purse⟩
theorem tys_38 : TyS Tryz.prog 38 ({} : Sess) [(0, 1), (1, 1), (2, 1), (3, 1), (4, 1), (5, 9), (14, 1), (15, 1), (16, 1), (17, 6), (23, 1), (24, 1), (25, 1), (26, 1), (27, 1), (28, 1), (29, 1)] := ⟨tyz_38, rfl, _, Tryz.underlying38, fun w => by simp [Tryz.sizeOf22, Tryz.sizeOf27, Tryz.sizeOf29, Tryz.sizeOf3, Tryz.sizeOf30, Tryz.sizeOf31, Tryz.sizeOf35, Tryz.sizeOf36, Tryz.sizeOf4]⟩
theorem fld_75_0 : Fld Tryz.prog 75 0 0 (fun x : Key => x.kind) Key.s_kind := ⟨⟨_, _, Tryz.underlying75, rfl, rfl, ty_3⟩, by decide, Key.l_kind⟩
theorem fld_75_1 : Fld Tryz.prog 75 1 1 (fun x : Key => x.id) Key.s_id := ⟨⟨_, _, Tryz.underlying75, rfl, rfl, ty_3⟩, by decide, Key.l_id⟩
theorem tys_75 : TyS Tryz.prog 75 ({} : Key) [(0, 1), (1, 1)] := ⟨tyz_75, rfl, _, Tryz.underlying75, fun w => by simp [Tryz.sizeOf3]⟩
theorem fld_78_0 : Fld Tryz.prog 78 0 0 (fun x : Spot => x.kind) Spot.s_kind := ⟨⟨_, _, Tryz.underlying78, rfl, rfl, ty_3⟩, by decide, Spot.l_kind⟩
theorem fld_78_1 : Fld Tryz.prog 78 1 1 (fun x : Spot => x.id) Spot.s_id := ⟨⟨_, _, Tryz.underlying78, rfl, rfl, ty_3⟩, by decide, Spot.l_id⟩
theorem tys_78 : TyS Tryz.prog 78 ({} : Spot) [(0, 1), (1, 1)] := ⟨tyz_78, rfl, _, Tryz.underlying78, fun w => by simp [Tryz.sizeOf3]⟩
theorem fld_80_0 : Fld Tryz.prog 80 0 0 (fun x : Write => x.kind) Write.s_kind := ⟨⟨_, _, Tryz.underlying80, rfl, rfl, ty_3⟩, by decide, Write.l_kind⟩
theorem fld_80_1 : Fld Tryz.prog 80 1 1 (fun x : Write => x.id) Write.s_id := ⟨⟨_, _, Tryz.underlying80, rfl, rfl, ty_3⟩, by decide, Write.l_id⟩
theorem fld_80_2 : Fld Tryz.prog 80 2 2 (fun x : Write => x.num) Write.s_num := ⟨⟨_, _, Tryz.underlying80, rfl, rfl, ty_3⟩, by decide, Write.l_num⟩
theorem fld_80_3 : Fld Tryz.prog 80 3 3 (fun x : Write => x.place) Write.s_place := ⟨⟨_, _, Tryz.underlying80, rfl, rfl, ty_78⟩, by decide, Write.l_place⟩
theorem tys_80 : TyS Tryz.prog 80 ({} : Write) [(0, 1), (1, 1), (2, 1), (3, 2)] := ⟨tyz_80, rfl, _, Tryz.underlying80, fun w => by simp [Tryz.sizeOf3, Tryz.sizeOf78]⟩
theorem fld_100_0 : Fld Tryz.prog 100 0 0 (fun x : Seen => x.item) Seen.s_item := ⟨⟨_, _, Tryz.underlying100, rfl, rfl, ty_3⟩, by decide, Seen.l_item⟩
theorem fld_100_1 : Fld Tryz.prog 100 1 1 (fun x : Seen => x.at_) Seen.s_at_ := ⟨⟨_, _, Tryz.underlying100, rfl, rfl, ty_78⟩, by decide, Seen.l_at_⟩
theorem tys_100 : TyS Tryz.prog 100 ({} : Seen) [(0, 1), (1, 2)] := ⟨tyz_100, rfl, _, Tryz.underlying100, fun w => by simp [Tryz.sizeOf3, Tryz.sizeOf78]⟩
theorem fld_102_0 : Fld Tryz.prog 102 0 0 (fun x : CPlain => x.kind) CPlain.s_kind := ⟨⟨_, _, Tryz.underlying102, rfl, rfl, ty_3⟩, by decide, CPlain.l_kind⟩
theorem fld_102_1 : Fld Tryz.prog 102 1 1 (fun x : CPlain => x.dir) CPlain.s_dir := ⟨⟨_, _, Tryz.underlying102, rfl, rfl, ty_3⟩, by decide, CPlain.l_dir⟩
theorem fld_102_2 : Fld Tryz.prog 102 2 2 (fun x : CPlain => x.item) CPlain.s_item := ⟨⟨_, _, Tryz.underlying102, rfl, rfl, ty_3⟩, by decide, CPlain.l_item⟩
theorem fld_102_3 : Fld Tryz.prog 102 3 3 (fun x : CPlain => x.box) CPlain.s_box := ⟨⟨_, _, Tryz.underlying102, rfl, rfl, ty_3⟩, by decide, CPlain.l_box⟩
theorem fld_102_4 : Fld Tryz.prog 102 4 4 (fun x : CPlain => x.who) CPlain.s_who := ⟨⟨_, _, Tryz.underlying102, rfl, rfl, ty_3⟩, by decide, CPlain.l_who⟩
theorem fld_102_5 : Fld Tryz.prog 102 5 5 (fun x : CPlain => x.pay) CPlain.s_pay := ⟨⟨_, _, Tryz.underlying102, rfl, rfl, ty_3⟩, by decide, CPlain.l_pay⟩
theorem fld_102_6 : Fld Tryz.prog 102 6 6 (fun x : CPlain => x.fee) CPlain.s_fee := ⟨⟨_, _, Tryz.underlying102, rfl, rfl, ty_3⟩, by decide, CPlain.l_fee⟩
theorem tys_102 : TyS Tryz.prog 102 ({} : CPlain) [(0, 1), (1, 1), (2, 1), (3, 1), (4, 1), (5, 1), (6, 1)] := ⟨tyz_102, rfl, _, Tryz.underlying102, fun w => by simp [Tryz.sizeOf3]⟩
theorem fld_105_0 : Fld Tryz.prog 105 0 0 (fun x : RPlain => x.err) RPlain.s_err := ⟨⟨_, _, Tryz.underlying105, rfl, rfl, ty_32⟩, by decide, RPlain.l_err⟩
theorem fld_105_1 : Fld Tryz.prog 105 1 1 (fun x : RPlain => x.kind) RPlain.s_kind := ⟨⟨_, _, Tryz.underlying105, rfl, rfl, ty_3⟩, by decide, RPlain.l_kind⟩
theorem fld_105_2 : Fld Tryz.prog 105 2 2 (fun x : RPlain => x.room) RPlain.s_room := ⟨⟨_, _, Tryz.underlying105, rfl, rfl, ty_3⟩, by decide, RPlain.l_room⟩
theorem fld_105_3 : Fld Tryz.prog 105 3 3 (fun x : RPlain => x.coins) RPlain.s_coins := ⟨⟨_, _, Tryz.underlying105, rfl, rfl, ty_3⟩, by decide, RPlain.l_coins⟩
theorem tys_105 : TyS Tryz.prog 105 ({} : RPlain) [(0, 1), (1, 1), (2, 1), (3, 1)] := ⟨tyz_105, rfl, _, Tryz.underlying105, fun w => by simp [Tryz.sizeOf3, Tryz.sizeOf32]⟩
theorem tyi_22 : ∃ bytes, bytes ≤ 400 ∧ TyI Tryz.prog 9 (Str) bytes := ⟨(Tryz.t9).bytes, by decide +kernel, ty_9, by kernel_rfl, by decide⟩
theorem lit_22_1 : SLit Tryz.prog 22 9 1 ([] : Str) := ⟨Tryz.underlying22, tyz_9, by decide, by decide⟩
theorem lit_22_2 : SLit Tryz.prog 22 9 2 ([] : Str) := ⟨Tryz.underlying22, tyz_9, by decide, by decide⟩
theorem lit_22_3 : SLit Tryz.prog 22 9 3 ([] : Str) := ⟨Tryz.underlying22, tyz_9, by decide, by decide⟩
theorem lit_22_4 : SLit Tryz.prog 22 9 4 ([] : Str) := ⟨Tryz.underlying22, tyz_9, by decide, by decide⟩
theorem lit_22_5 : SLit Tryz.prog 22 9 5 ([] : Str) := ⟨Tryz.underlying22, tyz_9, by decide, by decide⟩
theorem lit_22_9 : SLit Tryz.prog 22 9 9 ([] : Str) := ⟨Tryz.underlying22, tyz_9, by decide, by decide⟩
theorem lit_22_11 : SLit Tryz.prog 22 9 11 ([] : Str) := ⟨Tryz.underlying22, tyz_9, by decide, by decide⟩
theorem tyi_27 : ∃ bytes, bytes ≤ 400 ∧ TyI Tryz.prog 3 (Int) bytes := ⟨(Tryz.t3).bytes, by decide +kernel, ty_3, by kernel_rfl, by decide⟩
theorem lit_27_1 : SLit Tryz.prog 27 3 1 (0 : Int) := ⟨Tryz.underlying27, tyz_3, by decide, by decide⟩
theorem lit_27_2 : SLit Tryz.prog 27 3 2 (0 : Int) := ⟨Tryz.underlying27, tyz_3, by decide, by decide⟩
theorem lit_27_3 : SLit Tryz.prog 27 3 3 (0 : Int) := ⟨Tryz.underlying27, tyz_3, by decide, by decide⟩
theorem lit_27_4 : SLit Tryz.prog 27 3 4 (0 : Int) := ⟨Tryz.underlying27, tyz_3, by decide, by decide⟩
theorem lit_27_5 : SLit Tryz.prog 27 3 5 (0 : Int) := ⟨Tryz.underlying27, tyz_3, by decide, by decide⟩
theorem lit_27_9 : SLit Tryz.prog 27 3 9 (0 : Int) := ⟨Tryz.underlying27, tyz_3, by decide, by decide⟩
theorem lit_27_11 : SLit Tryz.prog 27 3 11 (0 : Int) := ⟨Tryz.underlying27, tyz_3, by decide, by decide⟩
theorem tyi_30 : ∃ bytes, bytes ≤ 400 ∧ TyI Tryz.prog 75 (Key) bytes := ⟨(Tryz.t75).bytes, by decide +kernel, ty_75, by kernel_rfl, by decide⟩
theorem lit_30_1 : SLit Tryz.prog 30 75 1 ({} : Key) := ⟨Tryz.underlying30, tyz_75, by decide, by decide⟩
theorem lit_30_2 : SLit Tryz.prog 30 75 2 ({} : Key) := ⟨Tryz.underlying30, tyz_75, by decide, by decide⟩
theorem lit_30_3 : SLit Tryz.prog 30 75 3 ({} : Key) := ⟨Tryz.underlying30, tyz_75, by decide, by decide⟩
theorem lit_30_4 : SLit Tryz.prog 30 75 4 ({} : Key) := ⟨Tryz.underlying30, tyz_75, by decide, by decide⟩
theorem lit_30_5 : SLit Tryz.prog 30 75 5 ({} : Key) := ⟨Tryz.underlying30, tyz_75, by decide, by decide⟩
theorem lit_30_9 : SLit Tryz.prog 30 75 9 ({} : Key) := ⟨Tryz.underlying30, tyz_75, by decide, by decide⟩
theorem lit_30_11 : SLit Tryz.prog 30 75 11 ({} : Key) := ⟨Tryz.underlying30, tyz_75, by decide, by decide⟩
theorem tyi_31 : ∃ bytes, bytes ≤ 400 ∧ TyI Tryz.prog 80 (Write) bytes := ⟨(Tryz.t80).bytes, by decide +kernel, ty_80, by kernel_rfl, by decide⟩
theorem lit_31_1 : SLit Tryz.prog 31 80 1 ({} : Write) := ⟨Tryz.underlying31, tyz_80, by decide, by decide⟩
theorem lit_31_2 : SLit Tryz.prog 31 80 2 ({} : Write) := ⟨Tryz.underlying31, tyz_80, by decide, by decide⟩
theorem lit_31_3 : SLit Tryz.prog 31 80 3 ({} : Write) := ⟨Tryz.underlying31, tyz_80, by decide, by decide⟩
theorem lit_31_4 : SLit Tryz.prog 31 80 4 ({} : Write) := ⟨Tryz.underlying31, tyz_80, by decide, by decide⟩
theorem lit_31_5 : SLit Tryz.prog 31 80 5 ({} : Write) := ⟨Tryz.underlying31, tyz_80, by decide, by decide⟩
theorem lit_31_9 : SLit Tryz.prog 31 80 9 ({} : Write) := ⟨Tryz.underlying31, tyz_80, by decide, by decide⟩
theorem lit_31_11 : SLit Tryz.prog 31 80 11 ({} : Write) := ⟨Tryz.underlying31, tyz_80, by decide, by decide⟩
theorem tyi_33 : ∃ bytes, bytes ≤ 400 ∧ TyI Tryz.prog 100 (Seen) bytes := ⟨(Tryz.t100).bytes, by decide +kernel, ty_100, by kernel_rfl, by decide⟩
theorem lit_33_1 : SLit Tryz.prog 33 100 1 ({} : Seen) := ⟨Tryz.underlying33, tyz_100, by decide, by decide⟩
theorem lit_33_2 : SLit Tryz.prog 33 100 2 ({} : Seen) := ⟨Tryz.underlying33, tyz_100, by decide, by decide⟩
theorem lit_33_3 : SLit Tryz.prog 33 100 3 ({} : Seen) := ⟨Tryz.underlying33, tyz_100, by decide, by decide⟩
theorem lit_33_4 : SLit Tryz.prog 33 100 4 ({} : Seen) := ⟨Tryz.underlying33, tyz_100, by decide, by decide⟩
theorem lit_33_5 : SLit Tryz.prog 33 100 5 ({} : Seen) := ⟨Tryz.underlying33, tyz_100, by decide, by decide⟩
theorem lit_33_9 : SLit Tryz.prog 33 100 9 ({} : Seen) := ⟨Tryz.underlying33, tyz_100, by decide, by decide⟩
theorem lit_33_11 : SLit Tryz.prog 33 100 11 ({} : Seen) := ⟨Tryz.underlying33, tyz_100, by decide, by decide⟩
theorem tyi_36 : ∃ bytes, bytes ≤ 400 ∧ TyI Tryz.prog 78 (Spot) bytes := ⟨(Tryz.t78).bytes, by decide +kernel, ty_78, by kernel_rfl, by decide⟩
theorem lit_36_1 : SLit Tryz.prog 36 78 1 ({} : Spot) := ⟨Tryz.underlying36, tyz_78, by decide, by decide⟩
theorem lit_36_2 : SLit Tryz.prog 36 78 2 ({} : Spot) := ⟨Tryz.underlying36, tyz_78, by decide, by decide⟩
theorem lit_36_3 : SLit Tryz.prog 36 78 3 ({} : Spot) := ⟨Tryz.underlying36, tyz_78, by decide, by decide⟩
theorem lit_36_4 : SLit Tryz.prog 36 78 4 ({} : Spot) := ⟨Tryz.underlying36, tyz_78, by decide, by decide⟩
theorem lit_36_5 : SLit Tryz.prog 36 78 5 ({} : Spot) := ⟨Tryz.underlying36, tyz_78, by decide, by decide⟩
theorem lit_36_9 : SLit Tryz.prog 36 78 9 ({} : Spot) := ⟨Tryz.underlying36, tyz_78, by decide, by decide⟩
theorem lit_36_11 : SLit Tryz.prog 36 78 11 ({} : Spot) := ⟨Tryz.underlying36, tyz_78, by decide, by decide⟩
theorem tyi_90 : ∃ bytes, bytes ≤ 400 ∧ TyI Tryz.prog 94 (Part) bytes := ⟨(Tryz.t94).bytes, by decide +kernel, ty_94, by kernel_rfl, by decide⟩
theorem lit_90_1 : SLit Tryz.prog 90 94 1 Part.nil := ⟨Tryz.underlying90, tyz_94, by decide, by decide⟩
theorem lit_90_2 : SLit Tryz.prog 90 94 2 Part.nil := ⟨Tryz.underlying90, tyz_94, by decide, by decide⟩
theorem lit_90_3 : SLit Tryz.prog 90 94 3 Part.nil := ⟨Tryz.underlying90, tyz_94, by decide, by decide⟩
theorem lit_90_4 : SLit Tryz.prog 90 94 4 Part.nil := ⟨Tryz.underlying90, tyz_94, by decide, by decide⟩
theorem lit_90_5 : SLit Tryz.prog 90 94 5 Part.nil := ⟨Tryz.underlying90, tyz_94, by decide, by decide⟩
theorem lit_90_9 : SLit Tryz.prog 90 94 9 Part.nil := ⟨Tryz.underlying90, tyz_94, by decide, by decide⟩
theorem lit_90_11 : SLit Tryz.prog 90 94 11 Part.nil := ⟨Tryz.underlying90, tyz_94, by decide, by decide⟩
theorem tyi_107 : ∃ bytes, bytes ≤ 400 ∧ TyI Tryz.prog 72 (Arr 2 (List Str)) bytes := ⟨(Tryz.t72).bytes, by decide +kernel, ty_72, by kernel_rfl, by decide⟩
theorem lit_107_1 : SLit Tryz.prog 107 72 1 (⟨List.replicate 2 ([] : List Str), rfl⟩ : Arr 2 (List Str)) := ⟨Tryz.underlying107, tyz_72, by decide, by decide⟩
theorem lit_107_2 : SLit Tryz.prog 107 72 2 (⟨List.replicate 2 ([] : List Str), rfl⟩ : Arr 2 (List Str)) := ⟨Tryz.underlying107, tyz_72, by decide, by decide⟩
theorem lit_107_3 : SLit Tryz.prog 107 72 3 (⟨List.replicate 2 ([] : List Str), rfl⟩ : Arr 2 (List Str)) := ⟨Tryz.underlying107, tyz_72, by decide, by decide⟩
theorem lit_107_4 : SLit Tryz.prog 107 72 4 (⟨List.replicate 2 ([] : List Str), rfl⟩ : Arr 2 (List Str)) := ⟨Tryz.underlying107, tyz_72, by decide, by decide⟩
theorem lit_107_5 : SLit Tryz.prog 107 72 5 (⟨List.replicate 2 ([] : List Str), rfl⟩ : Arr 2 (List Str)) := ⟨Tryz.underlying107, tyz_72, by decide, by decide⟩
theorem lit_107_9 : SLit Tryz.prog 107 72 9 (⟨List.replicate 2 ([] : List Str), rfl⟩ : Arr 2 (List Str)) := ⟨Tryz.underlying107, tyz_72, by decide, by decide⟩
theorem lit_107_11 : SLit Tryz.prog 107 72 11 (⟨List.replicate 2 ([] : List Str), rfl⟩ : Arr 2 (List Str)) := ⟨Tryz.underlying107, tyz_72, by decide, by decide⟩
theorem tyi_110 : ∃ bytes, bytes ≤ 400 ∧ TyI Tryz.prog 76 (Arr 2 (List Key)) bytes := ⟨(Tryz.t76).bytes, by decide +kernel, ty_76, by kernel_rfl, by decide⟩
theorem lit_110_1 : SLit Tryz.prog 110 76 1 (⟨List.replicate 2 ([] : List Key), rfl⟩ : Arr 2 (List Key)) := ⟨Tryz.underlying110, tyz_76, by decide, by decide⟩
theorem lit_110_2 : SLit Tryz.prog 110 76 2 (⟨List.replicate 2 ([] : List Key), rfl⟩ : Arr 2 (List Key)) := ⟨Tryz.underlying110, tyz_76, by decide, by decide⟩
theorem lit_110_3 : SLit Tryz.prog 110 76 3 (⟨List.replicate 2 ([] : List Key), rfl⟩ : Arr 2 (List Key)) := ⟨Tryz.underlying110, tyz_76, by decide, by decide⟩
theorem lit_110_4 : SLit Tryz.prog 110 76 4 (⟨List.replicate 2 ([] : List Key), rfl⟩ : Arr 2 (List Key)) := ⟨Tryz.underlying110, tyz_76, by decide, by decide⟩
theorem lit_110_5 : SLit Tryz.prog 110 76 5 (⟨List.replicate 2 ([] : List Key), rfl⟩ : Arr 2 (List Key)) := ⟨Tryz.underlying110, tyz_76, by decide, by decide⟩
theorem lit_110_9 : SLit Tryz.prog 110 76 9 (⟨List.replicate 2 ([] : List Key), rfl⟩ : Arr 2 (List Key)) := ⟨Tryz.underlying110, tyz_76, by decide, by decide⟩
theorem lit_110_11 : SLit Tryz.prog 110 76 11 (⟨List.replicate 2 ([] : List Key), rfl⟩ : Arr 2 (List Key)) := ⟨Tryz.underlying110, tyz_76, by decide, by decide⟩
theorem tyi_114 : ∃ bytes, bytes ≤ 400 ∧ TyI Tryz.prog 81 (Arr 2 (List Write)) bytes := ⟨(Tryz.t81).bytes, by decide +kernel, ty_81, by kernel_rfl, by decide⟩
theorem lit_114_1 : SLit Tryz.prog 114 81 1 (⟨List.replicate 2 ([] : List Write), rfl⟩ : Arr 2 (List Write)) := ⟨Tryz.underlying114, tyz_81, by decide, by decide⟩
theorem lit_114_2 : SLit Tryz.prog 114 81 2 (⟨List.replicate 2 ([] : List Write), rfl⟩ : Arr 2 (List Write)) := ⟨Tryz.underlying114, tyz_81, by decide, by decide⟩
theorem lit_114_3 : SLit Tryz.prog 114 81 3 (⟨List.replicate 2 ([] : List Write), rfl⟩ : Arr 2 (List Write)) := ⟨Tryz.underlying114, tyz_81, by decide, by decide⟩
theorem lit_114_4 : SLit Tryz.prog 114 81 4 (⟨List.replicate 2 ([] : List Write), rfl⟩ : Arr 2 (List Write)) := ⟨Tryz.underlying114, tyz_81, by decide, by decide⟩
theorem lit_114_5 : SLit Tryz.prog 114 81 5 (⟨List.replicate 2 ([] : List Write), rfl⟩ : Arr 2 (List Write)) := ⟨Tryz.underlying114, tyz_81, by decide, by decide⟩
theorem lit_114_9 : SLit Tryz.prog 114 81 9 (⟨List.replicate 2 ([] : List Write), rfl⟩ : Arr 2 (List Write)) := ⟨Tryz.underlying114, tyz_81, by decide, by decide⟩
theorem lit_114_11 : SLit Tryz.prog 114 81 11 (⟨List.replicate 2 ([] : List Write), rfl⟩ : Arr 2 (List Write)) := ⟨Tryz.underlying114, tyz_81, by decide, by decide⟩
theorem tyi_118 : ∃ bytes, bytes ≤ 400 ∧ TyI Tryz.prog 83 (Arr 2 (List Spot)) bytes := ⟨(Tryz.t83).bytes, by decide +kernel, ty_83, by kernel_rfl, by decide⟩
theorem lit_118_1 : SLit Tryz.prog 118 83 1 (⟨List.replicate 2 ([] : List Spot), rfl⟩ : Arr 2 (List Spot)) := ⟨Tryz.underlying118, tyz_83, by decide, by decide⟩
theorem lit_118_2 : SLit Tryz.prog 118 83 2 (⟨List.replicate 2 ([] : List Spot), rfl⟩ : Arr 2 (List Spot)) := ⟨Tryz.underlying118, tyz_83, by decide, by decide⟩
theorem lit_118_3 : SLit Tryz.prog 118 83 3 (⟨List.replicate 2 ([] : List Spot), rfl⟩ : Arr 2 (List Spot)) := ⟨Tryz.underlying118, tyz_83, by decide, by decide⟩
theorem lit_118_4 : SLit Tryz.prog 118 83 4 (⟨List.replicate 2 ([] : List Spot), rfl⟩ : Arr 2 (List Spot)) := ⟨Tryz.underlying118, tyz_83, by decide, by decide⟩
theorem lit_118_5 : SLit Tryz.prog 118 83 5 (⟨List.replicate 2 ([] : List Spot), rfl⟩ : Arr 2 (List Spot)) := ⟨Tryz.underlying118, tyz_83, by decide, by decide⟩
theorem lit_118_9 : SLit Tryz.prog 118 83 9 (⟨List.replicate 2 ([] : List Spot), rfl⟩ : Arr 2 (List Spot)) := ⟨Tryz.underlying118, tyz_83, by decide, by decide⟩
theorem lit_118_11 : SLit Tryz.prog 118 83 11 (⟨List.replicate 2 ([] : List Spot), rfl⟩ : Arr 2 (List Spot)) := ⟨Tryz.underlying118, tyz_83, by decide, by decide⟩
theorem tyi_122 : ∃ bytes, bytes ≤ 400 ∧ TyI Tryz.prog 85 (Arr 2 (List Int)) bytes := ⟨(Tryz.t85).bytes, by decide +kernel, ty_85, by kernel_rfl, by decide⟩
theorem lit_122_1 : SLit Tryz.prog 122 85 1 (⟨List.replicate 2 ([] : List Int), rfl⟩ : Arr 2 (List Int)) := ⟨Tryz.underlying122, tyz_85, by decide, by decide⟩
theorem lit_122_2 : SLit Tryz.prog 122 85 2 (⟨List.replicate 2 ([] : List Int), rfl⟩ : Arr 2 (List Int)) := ⟨Tryz.underlying122, tyz_85, by decide, by decide⟩
theorem lit_122_3 : SLit Tryz.prog 122 85 3 (⟨List.replicate 2 ([] : List Int), rfl⟩ : Arr 2 (List Int)) := ⟨Tryz.underlying122, tyz_85, by decide, by decide⟩
theorem lit_122_4 : SLit Tryz.prog 122 85 4 (⟨List.replicate 2 ([] : List Int), rfl⟩ : Arr 2 (List Int)) := ⟨Tryz.underlying122, tyz_85, by decide, by decide⟩
theorem lit_122_5 : SLit Tryz.prog 122 85 5 (⟨List.replicate 2 ([] : List Int), rfl⟩ : Arr 2 (List Int)) := ⟨Tryz.underlying122, tyz_85, by decide, by decide⟩
theorem lit_122_9 : SLit Tryz.prog 122 85 9 (⟨List.replicate 2 ([] : List Int), rfl⟩ : Arr 2 (List Int)) := ⟨Tryz.underlying122, tyz_85, by decide, by decide⟩
theorem lit_122_11 : SLit Tryz.prog 122 85 11 (⟨List.replicate 2 ([] : List Int), rfl⟩ : Arr 2 (List Int)) := ⟨Tryz.underlying122, tyz_85, by decide, by decide⟩
theorem tyi_130 : ∃ bytes, bytes ≤ 400 ∧ TyI Tryz.prog 22 (List Str) bytes := ⟨(Tryz.t22).bytes, by decide +kernel, ty_22, by kernel_rfl, by decide⟩
theorem lit_130_1 : SLit Tryz.prog 130 22 1 ([] : List Str) := ⟨Tryz.underlying130, tyz_22, by decide, by decide⟩
theorem lit_130_2 : SLit Tryz.prog 130 22 2 ([] : List Str) := ⟨Tryz.underlying130, tyz_22, by decide, by decide⟩
theorem lit_130_3 : SLit Tryz.prog 130 22 3 ([] : List Str) := ⟨Tryz.underlying130, tyz_22, by decide, by decide⟩
theorem lit_130_4 : SLit Tryz.prog 130 22 4 ([] : List Str) := ⟨Tryz.underlying130, tyz_22, by decide, by decide⟩
theorem lit_130_5 : SLit Tryz.prog 130 22 5 ([] : List Str) := ⟨Tryz.underlying130, tyz_22, by decide, by decide⟩
theorem lit_130_9 : SLit Tryz.prog 130 22 9 ([] : List Str) := ⟨Tryz.underlying130, tyz_22, by decide, by decide⟩
theorem lit_130_11 : SLit Tryz.prog 130 22 11 ([] : List Str) := ⟨Tryz.underlying130, tyz_22, by decide, by decide⟩
theorem lit_150_1 : SLit Tryz.prog 150 5 1 (0 : UInt8) := ⟨Tryz.underlying150, tyz_5, by decide, by decide⟩
theorem lit_150_2 : SLit Tryz.prog 150 5 2 (0 : UInt8) := ⟨Tryz.underlying150, tyz_5, by decide, by decide⟩
theorem lit_150_3 : SLit Tryz.prog 150 5 3 (0 : UInt8) := ⟨Tryz.underlying150, tyz_5, by decide, by decide⟩
theorem tyr : Ty Tryz.prog 27 RawSl := ⟨Tryz.isAgg27, Tryz.sizeOf27⟩
theorem tyR : Ty Tryz.prog 29 CmdR := ⟨Tryz.isAgg29, Tryz.sizeOf29⟩
theorem tyzR : TyZ Tryz.prog 29 ({} : CmdR) := ⟨tyR, [Value.int .i64 0, Value.int .i64 0, Value.int .i64 0, Value.int .i64 0, Value.int .i64 0, Value.slice none 0 0, Value.int .i64 0, Value.slice none 0 0, Value.int .i64 0], Tryz.zeroValue29, fun m => zc_pair (zc_int m) (zc_pair (zc_int m) (zc_pair (zc_int m) (zc_pair (zc_int m) (zc_pair (zc_int m) (zc_pair (zc_raw m) (zc_pair (zc_int m) (zc_pair (zc_raw m) (zc_int m))))))))⟩
theorem tysR : TyS Tryz.prog 29 ({} : CmdR) [(0, 1), (1, 1), (2, 1), (3, 1), (4, 1), (5, 1), (6, 1), (7, 1), (8, 1)] := ⟨tyzR, rfl, _, Tryz.underlying29, fun w => by simp [Tryz.sizeOf27, Tryz.sizeOf3]⟩
theorem fldR_29_0 : Fld Tryz.prog 29 0 0 (fun x : CmdR => x.kind) CmdR.s_kind := ⟨⟨_, _, Tryz.underlying29, rfl, rfl, ty_3⟩, by decide, CmdR.l_kind⟩
theorem fldR_29_1 : Fld Tryz.prog 29 1 1 (fun x : CmdR => x.dir) CmdR.s_dir := ⟨⟨_, _, Tryz.underlying29, rfl, rfl, ty_3⟩, by decide, CmdR.l_dir⟩
theorem fldR_29_2 : Fld Tryz.prog 29 2 2 (fun x : CmdR => x.item) CmdR.s_item := ⟨⟨_, _, Tryz.underlying29, rfl, rfl, ty_3⟩, by decide, CmdR.l_item⟩
theorem fldR_29_3 : Fld Tryz.prog 29 3 3 (fun x : CmdR => x.box) CmdR.s_box := ⟨⟨_, _, Tryz.underlying29, rfl, rfl, ty_3⟩, by decide, CmdR.l_box⟩
theorem fldR_29_4 : Fld Tryz.prog 29 4 4 (fun x : CmdR => x.who) CmdR.s_who := ⟨⟨_, _, Tryz.underlying29, rfl, rfl, ty_3⟩, by decide, CmdR.l_who⟩
theorem fldR_29_5 : Fld Tryz.prog 29 5 5 (fun x : CmdR => x.gives) CmdR.s_gives := ⟨⟨_, _, Tryz.underlying29, rfl, rfl, tyr⟩, by decide, CmdR.l_gives⟩
theorem fldR_29_6 : Fld Tryz.prog 29 6 6 (fun x : CmdR => x.pay) CmdR.s_pay := ⟨⟨_, _, Tryz.underlying29, rfl, rfl, ty_3⟩, by decide, CmdR.l_pay⟩
theorem fldR_29_7 : Fld Tryz.prog 29 7 7 (fun x : CmdR => x.wants) CmdR.s_wants := ⟨⟨_, _, Tryz.underlying29, rfl, rfl, tyr⟩, by decide, CmdR.l_wants⟩
theorem fldR_29_8 : Fld Tryz.prog 29 8 8 (fun x : CmdR => x.fee) CmdR.s_fee := ⟨⟨_, _, Tryz.underlying29, rfl, rfl, ty_3⟩, by decide, CmdR.l_fee⟩
theorem eqt_75 : TyQ Tryz.prog 75 2 (fun a b : Key => decide (a = b)) := by
  refine TyQ.struct (n := 1) rfl Tryz.underlying75 Tryz.stoodInHeld75 (FQ.cons Key.l_kind rfl ty_3 (TyQ.le (TyQ.int Tryz.underlying3) (by decide)) (by decide) (FQ.cons Key.l_id rfl ty_3 (TyQ.le (TyQ.int Tryz.underlying3) (by decide)) (by decide) FQ.nil)) (fun x y => ?_)
  obtain ⟨a0, a1⟩ := x; obtain ⟨b0, b1⟩ := y; rw [Bool.eq_iff_iff]; simp [Key.mk.injEq]
theorem eqt_78 : TyQ Tryz.prog 78 2 (fun a b : Spot => decide (a = b)) := by
  refine TyQ.struct (n := 1) rfl Tryz.underlying78 Tryz.stoodInHeld78 (FQ.cons Spot.l_kind rfl ty_3 (TyQ.le (TyQ.int Tryz.underlying3) (by decide)) (by decide) (FQ.cons Spot.l_id rfl ty_3 (TyQ.le (TyQ.int Tryz.underlying3) (by decide)) (by decide) FQ.nil)) (fun x y => ?_)
  obtain ⟨a0, a1⟩ := x; obtain ⟨b0, b1⟩ := y; rw [Bool.eq_iff_iff]; simp [Spot.mk.injEq]
theorem eqt_80 : TyQ Tryz.prog 80 3 (fun a b : Write => decide (a = b)) := by
  refine TyQ.struct (n := 2) rfl Tryz.underlying80 Tryz.stoodInHeld80 (FQ.cons Write.l_kind rfl ty_3 (TyQ.le (TyQ.int Tryz.underlying3) (by decide)) (by decide) (FQ.cons Write.l_id rfl ty_3 (TyQ.le (TyQ.int Tryz.underlying3) (by decide)) (by decide) (FQ.cons Write.l_num rfl ty_3 (TyQ.le (TyQ.int Tryz.underlying3) (by decide)) (by decide) (FQ.cons Write.l_place rfl ty_78 (TyQ.le eqt_78 (by decide)) (by decide) FQ.nil)))) (fun x y => ?_)
  obtain ⟨a0, a1, a2, a3⟩ := x; obtain ⟨b0, b1, b2, b3⟩ := y; rw [Bool.eq_iff_iff]; simp [Write.mk.injEq]
theorem eqt_100 : TyQ Tryz.prog 100 3 (fun a b : Seen => decide (a = b)) := by
  refine TyQ.struct (n := 2) rfl Tryz.underlying100 Tryz.stoodInHeld100 (FQ.cons Seen.l_item rfl ty_3 (TyQ.le (TyQ.int Tryz.underlying3) (by decide)) (by decide) (FQ.cons Seen.l_at_ rfl ty_78 (TyQ.le eqt_78 (by decide)) (by decide) FQ.nil)) (fun x y => ?_)
  obtain ⟨a0, a1⟩ := x; obtain ⟨b0, b1⟩ := y; rw [Bool.eq_iff_iff]; simp [Seen.mk.injEq]
theorem eqt_102 : TyQ Tryz.prog 102 2 (fun a b : CPlain => decide (a = b)) := by
  refine TyQ.struct (n := 1) rfl Tryz.underlying102 Tryz.stoodInHeld102 (FQ.cons CPlain.l_kind rfl ty_3 (TyQ.le (TyQ.int Tryz.underlying3) (by decide)) (by decide) (FQ.cons CPlain.l_dir rfl ty_3 (TyQ.le (TyQ.int Tryz.underlying3) (by decide)) (by decide) (FQ.cons CPlain.l_item rfl ty_3 (TyQ.le (TyQ.int Tryz.underlying3) (by decide)) (by decide) (FQ.cons CPlain.l_box rfl ty_3 (TyQ.le (TyQ.int Tryz.underlying3) (by decide)) (by decide) (FQ.cons CPlain.l_who rfl ty_3 (TyQ.le (TyQ.int Tryz.underlying3) (by decide)) (by decide) (FQ.cons CPlain.l_pay rfl ty_3 (TyQ.le (TyQ.int Tryz.underlying3) (by decide)) (by decide) (FQ.cons CPlain.l_fee rfl ty_3 (TyQ.le (TyQ.int Tryz.underlying3) (by decide)) (by decide) FQ.nil))))))) (fun x y => ?_)
  obtain ⟨a0, a1, a2, a3, a4, a5, a6⟩ := x; obtain ⟨b0, b1, b2, b3, b4, b5, b6⟩ := y; rw [Bool.eq_iff_iff]; simp [CPlain.mk.injEq]
theorem eqt_105 : TyQ Tryz.prog 105 2 (fun a b : RPlain => decide (a = b)) := by
  refine TyQ.struct (n := 1) rfl Tryz.underlying105 Tryz.stoodInHeld105 (FQ.cons RPlain.l_err rfl ty_32 (TyQ.le (TyQ.int Tryz.underlying32) (by decide)) (by decide) (FQ.cons RPlain.l_kind rfl ty_3 (TyQ.le (TyQ.int Tryz.underlying3) (by decide)) (by decide) (FQ.cons RPlain.l_room rfl ty_3 (TyQ.le (TyQ.int Tryz.underlying3) (by decide)) (by decide) (FQ.cons RPlain.l_coins rfl ty_3 (TyQ.le (TyQ.int Tryz.underlying3) (by decide)) (by decide) FQ.nil)))) (fun x y => ?_)
  obtain ⟨a0, a1, a2, a3⟩ := x; obtain ⟨b0, b1, b2, b3⟩ := y; rw [Bool.eq_iff_iff]; simp [RPlain.mk.injEq]
theorem eqt_69 : TyQ Tryz.prog 69 2 (fun a b : Arr 9 Int => decide (a.list = b.list)) := TyQ.array Tryz.underlying69 ty_3 (TyQ.int Tryz.underlying3)
theorem eqt_129 : TyQ Tryz.prog 129 2 (fun a b : Arr 4 Str => decide (a.list = b.list)) := TyQ.array Tryz.underlying129 ty_9 (TyQ.str Tryz.underlying9)
theorem eqt_133 : TyQ Tryz.prog 133 2 (fun a b : Arr 11 Str => decide (a.list = b.list)) := TyQ.array Tryz.underlying133 ty_9 (TyQ.str Tryz.underlying9)
end Go.Proofs.YtgnblhmejecgfaaGreatDoor
