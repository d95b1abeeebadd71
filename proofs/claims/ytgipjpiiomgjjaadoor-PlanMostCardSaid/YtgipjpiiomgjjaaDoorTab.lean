/-
  What the types of this seat are, as the walks ask it.
-/
import Derived.Test.YtgipjpiiomgjjaaDoorProg
import Derived.KernelRfl
import Derived.Test.YtgipjpiiomgjjaaDoorSr
namespace Go.Proofs.YtgipjpiiomgjjaaDoor
open Go Go.Sl
set_option maxRecDepth 20000
theorem fo_25_0 : FieldAt Tryd.prog (25, 0, 0) := by intro b o w; simp [Instr.fieldAt, Instr.sureAddr, fieldPlace, Go.Sl.Addr.add_none']
theorem fo_25_1 : FieldAt Tryd.prog (25, 1, 1) := by intro b o w; simp [Instr.fieldAt, Instr.sureAddr, fieldPlace, Go.Sl.Addr.add_none']
theorem fo_25_2 : FieldAt Tryd.prog (25, 2, 2) := by intro b o w; simp [Instr.fieldAt, Instr.sureAddr, fieldPlace, Go.Sl.Addr.add_none']
theorem fo_27_0 : FieldAt Tryd.prog (27, 0, 0) := by intro b o w; simp [Instr.fieldAt, Instr.sureAddr, fieldPlace, Go.Sl.Addr.add_none']
theorem fo_27_1 : FieldAt Tryd.prog (27, 1, 1) := by intro b o w; simp [Instr.fieldAt, Instr.sureAddr, fieldPlace, Go.Sl.Addr.add_none']
theorem fo_27_2 : FieldAt Tryd.prog (27, 2, 2) := by intro b o w; simp [Instr.fieldAt, Instr.sureAddr, fieldPlace, Go.Sl.Addr.add_none']
theorem ty_1 : IsAgg Tryd.prog 1 false ∧ SizeOf Tryd.prog 1 1 := ⟨Tryd.isAgg1, Tryd.sizeOf1⟩
theorem ty_2 : IsAgg Tryd.prog 2 false ∧ SizeOf Tryd.prog 2 1 := ⟨Tryd.isAgg2, Tryd.sizeOf2⟩
theorem ty_3 : IsAgg Tryd.prog 3 false ∧ SizeOf Tryd.prog 3 1 := ⟨Tryd.isAgg3, Tryd.sizeOf3⟩
theorem ty_4 : IsAgg Tryd.prog 4 false ∧ SizeOf Tryd.prog 4 1 := ⟨Tryd.isAgg4, Tryd.sizeOf4⟩
theorem ty_5 : IsAgg Tryd.prog 5 false ∧ SizeOf Tryd.prog 5 1 := ⟨Tryd.isAgg5, Tryd.sizeOf5⟩
theorem ty_9 : IsAgg Tryd.prog 9 false ∧ SizeOf Tryd.prog 9 1 := ⟨Tryd.isAgg9, Tryd.sizeOf9⟩
theorem ty_12 : IsAgg Tryd.prog 12 false ∧ SizeOf Tryd.prog 12 1 := ⟨Tryd.isAgg12, Tryd.sizeOf12⟩
theorem ty_13 : IsAgg Tryd.prog 13 true ∧ SizeOf Tryd.prog 13 2 := ⟨Tryd.isAgg13, Tryd.sizeOf13⟩
theorem ty_20 : IsAgg Tryd.prog 20 false ∧ SizeOf Tryd.prog 20 1 := ⟨Tryd.isAgg20, Tryd.sizeOf20⟩
theorem ty_21 : IsAgg Tryd.prog 21 false ∧ SizeOf Tryd.prog 21 1 := ⟨Tryd.isAgg21, Tryd.sizeOf21⟩
theorem ty_22 : IsAgg Tryd.prog 22 false ∧ SizeOf Tryd.prog 22 1 := ⟨Tryd.isAgg22, Tryd.sizeOf22⟩
theorem ty_23 : IsAgg Tryd.prog 23 false ∧ SizeOf Tryd.prog 23 1 := ⟨Tryd.isAgg23, Tryd.sizeOf23⟩
theorem ty_24 : IsAgg Tryd.prog 24 true ∧ SizeOf Tryd.prog 24 3 := ⟨Tryd.isAgg24, Tryd.sizeOf24⟩
theorem ty_25 : IsAgg Tryd.prog 25 true ∧ SizeOf Tryd.prog 25 3 := ⟨Tryd.isAgg25, Tryd.sizeOf25⟩
theorem ty_26 : IsAgg Tryd.prog 26 false ∧ SizeOf Tryd.prog 26 1 := ⟨Tryd.isAgg26, Tryd.sizeOf26⟩
theorem ty_27 : IsAgg Tryd.prog 27 true ∧ SizeOf Tryd.prog 27 3 := ⟨Tryd.isAgg27, Tryd.sizeOf27⟩
theorem ty_28 : IsAgg Tryd.prog 28 false ∧ SizeOf Tryd.prog 28 1 := ⟨Tryd.isAgg28, Tryd.sizeOf28⟩
theorem ty_29 : IsAgg Tryd.prog 29 false ∧ SizeOf Tryd.prog 29 1 := ⟨Tryd.isAgg29, Tryd.sizeOf29⟩
theorem ty_30 : IsAgg Tryd.prog 30 false ∧ SizeOf Tryd.prog 30 1 := ⟨Tryd.isAgg30, Tryd.sizeOf30⟩
theorem ty_31 : IsAgg Tryd.prog 31 false ∧ SizeOf Tryd.prog 31 1 := ⟨Tryd.isAgg31, Tryd.sizeOf31⟩
theorem ty_32 : IsAgg Tryd.prog 32 false ∧ SizeOf Tryd.prog 32 1 := ⟨Tryd.isAgg32, Tryd.sizeOf32⟩
theorem ty_33 : IsAgg Tryd.prog 33 false ∧ SizeOf Tryd.prog 33 1 := ⟨Tryd.isAgg33, Tryd.sizeOf33⟩
theorem ty_34 : IsAgg Tryd.prog 34 false ∧ SizeOf Tryd.prog 34 1 := ⟨Tryd.isAgg34, Tryd.sizeOf34⟩
theorem ty_35 : IsAgg Tryd.prog 35 false ∧ SizeOf Tryd.prog 35 1 := ⟨Tryd.isAgg35, Tryd.sizeOf35⟩
theorem ty_36 : IsAgg Tryd.prog 36 false ∧ SizeOf Tryd.prog 36 1 := ⟨Tryd.isAgg36, Tryd.sizeOf36⟩
theorem ty_37 : IsAgg Tryd.prog 37 false ∧ SizeOf Tryd.prog 37 1 := ⟨Tryd.isAgg37, Tryd.sizeOf37⟩
theorem ty_38 : IsAgg Tryd.prog 38 false ∧ SizeOf Tryd.prog 38 1 := ⟨Tryd.isAgg38, Tryd.sizeOf38⟩
theorem ty_39 : IsAgg Tryd.prog 39 false ∧ SizeOf Tryd.prog 39 1 := ⟨Tryd.isAgg39, Tryd.sizeOf39⟩
theorem ty_40 : IsAgg Tryd.prog 40 false ∧ SizeOf Tryd.prog 40 1 := ⟨Tryd.isAgg40, Tryd.sizeOf40⟩
theorem ty_41 : IsAgg Tryd.prog 41 false ∧ SizeOf Tryd.prog 41 1 := ⟨Tryd.isAgg41, Tryd.sizeOf41⟩
theorem ty_42 : IsAgg Tryd.prog 42 false ∧ SizeOf Tryd.prog 42 1 := ⟨Tryd.isAgg42, Tryd.sizeOf42⟩
theorem ty_43 : IsAgg Tryd.prog 43 false ∧ SizeOf Tryd.prog 43 1 := ⟨Tryd.isAgg43, Tryd.sizeOf43⟩
theorem ty_44 : IsAgg Tryd.prog 44 false ∧ SizeOf Tryd.prog 44 1 := ⟨Tryd.isAgg44, Tryd.sizeOf44⟩
theorem ty_45 : IsAgg Tryd.prog 45 false ∧ SizeOf Tryd.prog 45 1 := ⟨Tryd.isAgg45, Tryd.sizeOf45⟩
theorem ty_46 : IsAgg Tryd.prog 46 false ∧ SizeOf Tryd.prog 46 1 := ⟨Tryd.isAgg46, Tryd.sizeOf46⟩
theorem ty_47 : IsAgg Tryd.prog 47 false ∧ SizeOf Tryd.prog 47 1 := ⟨Tryd.isAgg47, Tryd.sizeOf47⟩
theorem ty_48 : IsAgg Tryd.prog 48 false ∧ SizeOf Tryd.prog 48 1 := ⟨Tryd.isAgg48, Tryd.sizeOf48⟩
theorem ty_49 : IsAgg Tryd.prog 49 false ∧ SizeOf Tryd.prog 49 1 := ⟨Tryd.isAgg49, Tryd.sizeOf49⟩
theorem ty_50 : IsAgg Tryd.prog 50 false ∧ SizeOf Tryd.prog 50 1 := ⟨Tryd.isAgg50, Tryd.sizeOf50⟩
theorem ty_51 : IsAgg Tryd.prog 51 true ∧ SizeOf Tryd.prog 51 24 := ⟨Tryd.isAgg51, Tryd.sizeOf51⟩
theorem ty_52 : IsAgg Tryd.prog 52 false ∧ SizeOf Tryd.prog 52 1 := ⟨Tryd.isAgg52, Tryd.sizeOf52⟩
theorem ty_53 : IsAgg Tryd.prog 53 false ∧ SizeOf Tryd.prog 53 1 := ⟨Tryd.isAgg53, Tryd.sizeOf53⟩
theorem ty_54 : IsAgg Tryd.prog 54 false ∧ SizeOf Tryd.prog 54 1 := ⟨Tryd.isAgg54, Tryd.sizeOf54⟩
theorem ty_56 : IsAgg Tryd.prog 56 false ∧ SizeOf Tryd.prog 56 1 := ⟨Tryd.isAgg56, Tryd.sizeOf56⟩
theorem ty_57 : IsAgg Tryd.prog 57 false ∧ SizeOf Tryd.prog 57 1 := ⟨Tryd.isAgg57, Tryd.sizeOf57⟩
theorem ty_58 : IsAgg Tryd.prog 58 true ∧ SizeOf Tryd.prog 58 20 := ⟨Tryd.isAgg58, Tryd.sizeOf58⟩
theorem ty_59 : IsAgg Tryd.prog 59 false ∧ SizeOf Tryd.prog 59 1 := ⟨Tryd.isAgg59, Tryd.sizeOf59⟩
theorem ty_60 : IsAgg Tryd.prog 60 true ∧ SizeOf Tryd.prog 60 65 := ⟨Tryd.isAgg60, Tryd.sizeOf60⟩
theorem ty_61 : IsAgg Tryd.prog 61 false ∧ SizeOf Tryd.prog 61 1 := ⟨Tryd.isAgg61, Tryd.sizeOf61⟩
theorem ty_62 : IsAgg Tryd.prog 62 false ∧ SizeOf Tryd.prog 62 1 := ⟨Tryd.isAgg62, Tryd.sizeOf62⟩
theorem ty_63 : IsAgg Tryd.prog 63 false ∧ SizeOf Tryd.prog 63 1 := ⟨Tryd.isAgg63, Tryd.sizeOf63⟩
theorem ty_64 : IsAgg Tryd.prog 64 false ∧ SizeOf Tryd.prog 64 1 := ⟨Tryd.isAgg64, Tryd.sizeOf64⟩
theorem ty_65 : IsAgg Tryd.prog 65 true ∧ SizeOf Tryd.prog 65 32 := ⟨Tryd.isAgg65, Tryd.sizeOf65⟩
theorem ty_66 : IsAgg Tryd.prog 66 true ∧ SizeOf Tryd.prog 66 64 := ⟨Tryd.isAgg66, Tryd.sizeOf66⟩
theorem ty_67 : IsAgg Tryd.prog 67 false ∧ SizeOf Tryd.prog 67 1 := ⟨Tryd.isAgg67, Tryd.sizeOf67⟩
theorem ty_73 : IsAgg Tryd.prog 73 false ∧ SizeOf Tryd.prog 73 1 := ⟨Tryd.isAgg73, Tryd.sizeOf73⟩
theorem ty_76 : IsAgg Tryd.prog 76 false ∧ SizeOf Tryd.prog 76 1 := ⟨Tryd.isAgg76, Tryd.sizeOf76⟩
theorem ty_77 : IsAgg Tryd.prog 77 false ∧ SizeOf Tryd.prog 77 1 := ⟨Tryd.isAgg77, Tryd.sizeOf77⟩
theorem ty_82 : IsAgg Tryd.prog 82 false ∧ SizeOf Tryd.prog 82 1 := ⟨Tryd.isAgg82, Tryd.sizeOf82⟩
theorem ze_1 : ZeroOf Tryd.prog 1 (.nilFunc) := Tryd.zeroValue1
theorem ze_2 : ZeroOf Tryd.prog 2 (.int .i64 0) := Tryd.zeroValue2
theorem ze_3 : ZeroOf Tryd.prog 3 (.int .i64 0) := Tryd.zeroValue3
theorem ze_4 : ZeroOf Tryd.prog 4 (.bool false) := Tryd.zeroValue4
theorem ze_5 : ZeroOf Tryd.prog 5 (.int .u8 0) := Tryd.zeroValue5
theorem ze_9 : ZeroOf Tryd.prog 9 (.string ⟨#[]⟩) := Tryd.zeroValue9
theorem ze_12 : ZeroOf Tryd.prog 12 (.int .u64 0) := Tryd.zeroValue12
theorem ze_13 : ZeroOf Tryd.prog 13 (.agg #[.string ⟨#[]⟩, .int .u64 0]) := Tryd.zeroValue13
theorem ze_20 : ZeroOf Tryd.prog 20 (.nilIface) := Tryd.zeroValue20
theorem ze_21 : ZeroOf Tryd.prog 21 (.int .i32 0) := Tryd.zeroValue21
theorem ze_22 : ZeroOf Tryd.prog 22 (.nilFunc) := Tryd.zeroValue22
theorem ze_23 : ZeroOf Tryd.prog 23 (.nilFunc) := Tryd.zeroValue23
theorem ze_24 : ZeroOf Tryd.prog 24 (.agg #[.int .i64 0, .int .i64 0, .int .i64 0]) := Tryd.zeroValue24
theorem ze_25 : ZeroOf Tryd.prog 25 (.agg #[.int .i64 0, .int .i64 0, .int .i64 0]) := Tryd.zeroValue25
theorem ze_26 : ZeroOf Tryd.prog 26 (.nilFunc) := Tryd.zeroValue26
theorem ze_27 : ZeroOf Tryd.prog 27 (.agg #[.int .i64 0, .int .i64 0, .int .i64 0]) := Tryd.zeroValue27
theorem ze_28 : ZeroOf Tryd.prog 28 (.nilFunc) := Tryd.zeroValue28
theorem ze_29 : ZeroOf Tryd.prog 29 (.nilFunc) := Tryd.zeroValue29
theorem ze_30 : ZeroOf Tryd.prog 30 (.slice none 0 0) := Tryd.zeroValue30
theorem ze_31 : ZeroOf Tryd.prog 31 (.slice none 0 0) := Tryd.zeroValue31
theorem ze_32 : ZeroOf Tryd.prog 32 (.nilFunc) := Tryd.zeroValue32
theorem ze_33 : ZeroOf Tryd.prog 33 (.nilFunc) := Tryd.zeroValue33
theorem ze_34 : ZeroOf Tryd.prog 34 (.nilFunc) := Tryd.zeroValue34
theorem ze_35 : ZeroOf Tryd.prog 35 (.nilFunc) := Tryd.zeroValue35
theorem ze_36 : ZeroOf Tryd.prog 36 (.slice none 0 0) := Tryd.zeroValue36
theorem ze_37 : ZeroOf Tryd.prog 37 (.nilFunc) := Tryd.zeroValue37
theorem ze_38 : ZeroOf Tryd.prog 38 (.nilFunc) := Tryd.zeroValue38
theorem ze_39 : ZeroOf Tryd.prog 39 (.nilFunc) := Tryd.zeroValue39
theorem ze_40 : ZeroOf Tryd.prog 40 (.nilFunc) := Tryd.zeroValue40
theorem ze_41 : ZeroOf Tryd.prog 41 (.nilFunc) := Tryd.zeroValue41
theorem ze_42 : ZeroOf Tryd.prog 42 (.slice none 0 0) := Tryd.zeroValue42
theorem ze_43 : ZeroOf Tryd.prog 43 (.nilFunc) := Tryd.zeroValue43
theorem ze_44 : ZeroOf Tryd.prog 44 (.nilFunc) := Tryd.zeroValue44
theorem ze_45 : ZeroOf Tryd.prog 45 (.nilFunc) := Tryd.zeroValue45
theorem ze_46 : ZeroOf Tryd.prog 46 (.nilFunc) := Tryd.zeroValue46
theorem ze_47 : ZeroOf Tryd.prog 47 (.slice none 0 0) := Tryd.zeroValue47
theorem ze_48 : ZeroOf Tryd.prog 48 (.nilFunc) := Tryd.zeroValue48
theorem ze_49 : ZeroOf Tryd.prog 49 (.slice none 0 0) := Tryd.zeroValue49
theorem ze_50 : ZeroOf Tryd.prog 50 (.nilFunc) := Tryd.zeroValue50
theorem ze_51 : ZeroOf Tryd.prog 51 (.agg #[.int .u8 0, .int .u8 0, .int .u8 0, .int .u8 0, .int .u8 0, .int .u8 0, .int .u8 0, .int .u8 0, .int .u8 0, .int .u8 0, .int .u8 0, .int .u8 0, .int .u8 0, .int .u8 0, .int .u8 0, .int .u8 0, .int .u8 0, .int .u8 0, .int .u8 0, .int .u8 0, .int .u8 0, .int .u8 0, .int .u8 0, .int .u8 0]) := Tryd.zeroValue51
theorem ze_52 : ZeroOf Tryd.prog 52 (.int .u64 0) := Tryd.zeroValue52
theorem ze_53 : ZeroOf Tryd.prog 53 (.nilFunc) := Tryd.zeroValue53
theorem ze_54 : ZeroOf Tryd.prog 54 (.nilFunc) := Tryd.zeroValue54
theorem ze_56 : ZeroOf Tryd.prog 56 (.nilFunc) := Tryd.zeroValue56
theorem ze_57 : ZeroOf Tryd.prog 57 (.nilFunc) := Tryd.zeroValue57
theorem ze_58 : ZeroOf Tryd.prog 58 (.agg #[.int .u64 0, .int .u64 0, .int .u64 0, .int .u64 0, .int .u64 0, .int .u64 0, .int .u64 0, .int .u64 0, .int .u64 0, .int .u64 0, .int .u64 0, .int .u64 0, .int .u64 0, .int .u64 0, .int .u64 0, .int .u64 0, .int .u64 0, .int .u64 0, .int .u64 0, .int .u64 0]) := Tryd.zeroValue58
theorem ze_59 : ZeroOf Tryd.prog 59 (.int .u32 0) := Tryd.zeroValue59
theorem ze_61 : ZeroOf Tryd.prog 61 (.nilFunc) := Tryd.zeroValue61
theorem ze_62 : ZeroOf Tryd.prog 62 (.int .u64 0) := Tryd.zeroValue62
theorem ze_63 : ZeroOf Tryd.prog 63 (.nilFunc) := Tryd.zeroValue63
theorem ze_64 : ZeroOf Tryd.prog 64 (.nilFunc) := Tryd.zeroValue64
theorem ze_65 : ZeroOf Tryd.prog 65 (.agg #[.int .u8 0, .int .u8 0, .int .u8 0, .int .u8 0, .int .u8 0, .int .u8 0, .int .u8 0, .int .u8 0, .int .u8 0, .int .u8 0, .int .u8 0, .int .u8 0, .int .u8 0, .int .u8 0, .int .u8 0, .int .u8 0, .int .u8 0, .int .u8 0, .int .u8 0, .int .u8 0, .int .u8 0, .int .u8 0, .int .u8 0, .int .u8 0, .int .u8 0, .int .u8 0, .int .u8 0, .int .u8 0, .int .u8 0, .int .u8 0, .int .u8 0, .int .u8 0]) := Tryd.zeroValue65
theorem ze_66 : ZeroOf Tryd.prog 66 (.agg #[.int .u8 0, .int .u8 0, .int .u8 0, .int .u8 0, .int .u8 0, .int .u8 0, .int .u8 0, .int .u8 0, .int .u8 0, .int .u8 0, .int .u8 0, .int .u8 0, .int .u8 0, .int .u8 0, .int .u8 0, .int .u8 0, .int .u8 0, .int .u8 0, .int .u8 0, .int .u8 0, .int .u8 0, .int .u8 0, .int .u8 0, .int .u8 0, .int .u8 0, .int .u8 0, .int .u8 0, .int .u8 0, .int .u8 0, .int .u8 0, .int .u8 0, .int .u8 0, .int .u8 0, .int .u8 0, .int .u8 0, .int .u8 0, .int .u8 0, .int .u8 0, .int .u8 0, .int .u8 0, .int .u8 0, .int .u8 0, .int .u8 0, .int .u8 0, .int .u8 0, .int .u8 0, .int .u8 0, .int .u8 0, .int .u8 0, .int .u8 0, .int .u8 0, .int .u8 0, .int .u8 0, .int .u8 0, .int .u8 0, .int .u8 0, .int .u8 0, .int .u8 0, .int .u8 0, .int .u8 0, .int .u8 0, .int .u8 0, .int .u8 0, .int .u8 0]) := Tryd.zeroValue66
theorem ze_67 : ZeroOf Tryd.prog 67 (.nilFunc) := Tryd.zeroValue67
theorem ze_73 : ZeroOf Tryd.prog 73 (.nilFunc) := Tryd.zeroValue73
theorem ze_76 : ZeroOf Tryd.prog 76 (.nilFunc) := Tryd.zeroValue76
theorem ze_77 : ZeroOf Tryd.prog 77 (.pointer none) := Tryd.zeroValue77
theorem ze_82 : ZeroOf Tryd.prog 82 (.pointer none) := Tryd.zeroValue82
theorem fl_13 : PlacesOk Tryd.prog (13, [(0, 1), (1, 1)]) := .inl ⟨_, Tryd.underlying13, fun w => by simp⟩
theorem fl_24 : PlacesOk Tryd.prog (24, [(0, 1), (1, 1), (2, 1)]) := .inl ⟨_, Tryd.underlying24, fun w => by simp⟩
theorem fl_25 : PlacesOk Tryd.prog (25, [(0, 1), (1, 1), (2, 1)]) := .inl ⟨_, Tryd.underlying25, fun w => by simp⟩
theorem fl_27 : PlacesOk Tryd.prog (27, [(0, 1), (1, 1), (2, 1)]) := .inl ⟨_, Tryd.underlying27, fun w => by simp⟩
theorem fl_51 : PlacesOk Tryd.prog (51, [(0, 1), (1, 1), (2, 1), (3, 1), (4, 1), (5, 1), (6, 1), (7, 1), (8, 1), (9, 1), (10, 1), (11, 1), (12, 1), (13, 1), (14, 1), (15, 1), (16, 1), (17, 1), (18, 1), (19, 1), (20, 1), (21, 1), (22, 1), (23, 1)]) := .inr ⟨_, _, _, Tryd.underlying51, Tryd.sizeOf5, rfl⟩
theorem fl_58 : PlacesOk Tryd.prog (58, [(0, 1), (1, 1), (2, 1), (3, 1), (4, 1), (5, 1), (6, 1), (7, 1), (8, 1), (9, 1), (10, 1), (11, 1), (12, 1), (13, 1), (14, 1), (15, 1), (16, 1), (17, 1), (18, 1), (19, 1)]) := .inr ⟨_, _, _, Tryd.underlying58, Tryd.sizeOf52, rfl⟩
theorem fl_65 : PlacesOk Tryd.prog (65, [(0, 1), (1, 1), (2, 1), (3, 1), (4, 1), (5, 1), (6, 1), (7, 1), (8, 1), (9, 1), (10, 1), (11, 1), (12, 1), (13, 1), (14, 1), (15, 1), (16, 1), (17, 1), (18, 1), (19, 1), (20, 1), (21, 1), (22, 1), (23, 1), (24, 1), (25, 1), (26, 1), (27, 1), (28, 1), (29, 1), (30, 1), (31, 1)]) := .inr ⟨_, _, _, Tryd.underlying65, Tryd.sizeOf5, rfl⟩
theorem fl_66 : PlacesOk Tryd.prog (66, [(0, 1), (1, 1), (2, 1), (3, 1), (4, 1), (5, 1), (6, 1), (7, 1), (8, 1), (9, 1), (10, 1), (11, 1), (12, 1), (13, 1), (14, 1), (15, 1), (16, 1), (17, 1), (18, 1), (19, 1), (20, 1), (21, 1), (22, 1), (23, 1), (24, 1), (25, 1), (26, 1), (27, 1), (28, 1), (29, 1), (30, 1), (31, 1), (32, 1), (33, 1), (34, 1), (35, 1), (36, 1), (37, 1), (38, 1), (39, 1), (40, 1), (41, 1), (42, 1), (43, 1), (44, 1), (45, 1), (46, 1), (47, 1), (48, 1), (49, 1), (50, 1), (51, 1), (52, 1), (53, 1), (54, 1), (55, 1), (56, 1), (57, 1), (58, 1), (59, 1), (60, 1), (61, 1), (62, 1), (63, 1)]) := .inr ⟨_, _, _, Tryd.underlying66, Tryd.sizeOf5, rfl⟩
theorem in_3 : InfOk Tryd.prog 3 1 8 := ⟨Tryd.t3, _, rfl, rfl, rfl, rfl, rfl, by decide⟩
theorem in_5 : InfOk Tryd.prog 5 1 1 := ⟨Tryd.t5, _, rfl, rfl, rfl, rfl, rfl, by decide⟩
theorem in_9 : InfOk Tryd.prog 9 1 16 := ⟨Tryd.t9, _, rfl, rfl, rfl, rfl, rfl, by decide⟩
theorem in_25 : InfOk Tryd.prog 25 3 24 := ⟨Tryd.t25, _, rfl, rfl, rfl, rfl, rfl, by decide⟩
theorem in_27 : InfOk Tryd.prog 27 3 24 := ⟨Tryd.t27, _, rfl, rfl, rfl, rfl, rfl, by decide⟩
theorem in_31 : InfOk Tryd.prog 31 1 24 := ⟨Tryd.t31, _, rfl, rfl, rfl, rfl, rfl, by decide⟩
def tab : Tab where
  offs := [(25, 0, 0), (25, 1, 1), (25, 2, 2), (27, 0, 0), (27, 1, 1), (27, 2, 2)]
  tys := [(1, false, 1), (2, false, 1), (3, false, 1), (4, false, 1), (5, false, 1), (9, false, 1), (12, false, 1), (13, true, 2), (20, false, 1), (21, false, 1), (22, false, 1), (23, false, 1), (24, true, 3), (25, true, 3), (26, false, 1), (27, true, 3), (28, false, 1), (29, false, 1), (30, false, 1), (31, false, 1), (32, false, 1), (33, false, 1), (34, false, 1), (35, false, 1), (36, false, 1), (37, false, 1), (38, false, 1), (39, false, 1), (40, false, 1), (41, false, 1), (42, false, 1), (43, false, 1), (44, false, 1), (45, false, 1), (46, false, 1), (47, false, 1), (48, false, 1), (49, false, 1), (50, false, 1), (51, true, 24), (52, false, 1), (53, false, 1), (54, false, 1), (56, false, 1), (57, false, 1), (58, true, 20), (59, false, 1), (60, true, 65), (61, false, 1), (62, false, 1), (63, false, 1), (64, false, 1), (65, true, 32), (66, true, 64), (67, false, 1), (73, false, 1), (76, false, 1), (77, false, 1), (82, false, 1)]
  zeros := [(1, .nilFunc), (2, .int .i64 0), (3, .int .i64 0), (4, .bool false), (5, .int .u8 0), (9, .string ⟨#[]⟩), (12, .int .u64 0), (13, .agg #[.string ⟨#[]⟩, .int .u64 0]), (20, .nilIface), (21, .int .i32 0), (22, .nilFunc), (23, .nilFunc), (24, .agg #[.int .i64 0, .int .i64 0, .int .i64 0]), (25, .agg #[.int .i64 0, .int .i64 0, .int .i64 0]), (26, .nilFunc), (27, .agg #[.int .i64 0, .int .i64 0, .int .i64 0]), (28, .nilFunc), (29, .nilFunc), (30, .slice none 0 0), (31, .slice none 0 0), (32, .nilFunc), (33, .nilFunc), (34, .nilFunc), (35, .nilFunc), (36, .slice none 0 0), (37, .nilFunc), (38, .nilFunc), (39, .nilFunc), (40, .nilFunc), (41, .nilFunc), (42, .slice none 0 0), (43, .nilFunc), (44, .nilFunc), (45, .nilFunc), (46, .nilFunc), (47, .slice none 0 0), (48, .nilFunc), (49, .slice none 0 0), (50, .nilFunc), (51, .agg #[.int .u8 0, .int .u8 0, .int .u8 0, .int .u8 0, .int .u8 0, .int .u8 0, .int .u8 0, .int .u8 0, .int .u8 0, .int .u8 0, .int .u8 0, .int .u8 0, .int .u8 0, .int .u8 0, .int .u8 0, .int .u8 0, .int .u8 0, .int .u8 0, .int .u8 0, .int .u8 0, .int .u8 0, .int .u8 0, .int .u8 0, .int .u8 0]), (52, .int .u64 0), (53, .nilFunc), (54, .nilFunc), (56, .nilFunc), (57, .nilFunc), (58, .agg #[.int .u64 0, .int .u64 0, .int .u64 0, .int .u64 0, .int .u64 0, .int .u64 0, .int .u64 0, .int .u64 0, .int .u64 0, .int .u64 0, .int .u64 0, .int .u64 0, .int .u64 0, .int .u64 0, .int .u64 0, .int .u64 0, .int .u64 0, .int .u64 0, .int .u64 0, .int .u64 0]), (59, .int .u32 0), (61, .nilFunc), (62, .int .u64 0), (63, .nilFunc), (64, .nilFunc), (65, .agg #[.int .u8 0, .int .u8 0, .int .u8 0, .int .u8 0, .int .u8 0, .int .u8 0, .int .u8 0, .int .u8 0, .int .u8 0, .int .u8 0, .int .u8 0, .int .u8 0, .int .u8 0, .int .u8 0, .int .u8 0, .int .u8 0, .int .u8 0, .int .u8 0, .int .u8 0, .int .u8 0, .int .u8 0, .int .u8 0, .int .u8 0, .int .u8 0, .int .u8 0, .int .u8 0, .int .u8 0, .int .u8 0, .int .u8 0, .int .u8 0, .int .u8 0, .int .u8 0]), (66, .agg #[.int .u8 0, .int .u8 0, .int .u8 0, .int .u8 0, .int .u8 0, .int .u8 0, .int .u8 0, .int .u8 0, .int .u8 0, .int .u8 0, .int .u8 0, .int .u8 0, .int .u8 0, .int .u8 0, .int .u8 0, .int .u8 0, .int .u8 0, .int .u8 0, .int .u8 0, .int .u8 0, .int .u8 0, .int .u8 0, .int .u8 0, .int .u8 0, .int .u8 0, .int .u8 0, .int .u8 0, .int .u8 0, .int .u8 0, .int .u8 0, .int .u8 0, .int .u8 0, .int .u8 0, .int .u8 0, .int .u8 0, .int .u8 0, .int .u8 0, .int .u8 0, .int .u8 0, .int .u8 0, .int .u8 0, .int .u8 0, .int .u8 0, .int .u8 0, .int .u8 0, .int .u8 0, .int .u8 0, .int .u8 0, .int .u8 0, .int .u8 0, .int .u8 0, .int .u8 0, .int .u8 0, .int .u8 0, .int .u8 0, .int .u8 0, .int .u8 0, .int .u8 0, .int .u8 0, .int .u8 0, .int .u8 0, .int .u8 0, .int .u8 0, .int .u8 0]), (67, .nilFunc), (73, .nilFunc), (76, .nilFunc), (77, .pointer none), (82, .pointer none)]
  sls := [(30, 3), (31, 25), (36, 27), (42, 31), (47, 9), (49, 5)]
  ars := [(51, 24, 5), (58, 20, 52), (60, 65, 5), (65, 32, 5), (66, 64, 5)]
  ints := [(2, .i64), (3, .i64), (5, .u8), (12, .u64), (21, .i32), (52, .u64), (59, .u32), (62, .u64)]
  strs := [9]
  bools := [4]
  ptrs := [(77, 5)]
  flds := [(13, [(0, 1), (1, 1)]), (24, [(0, 1), (1, 1), (2, 1)]), (25, [(0, 1), (1, 1), (2, 1)]), (27, [(0, 1), (1, 1), (2, 1)]), (51, [(0, 1), (1, 1), (2, 1), (3, 1), (4, 1), (5, 1), (6, 1), (7, 1), (8, 1), (9, 1), (10, 1), (11, 1), (12, 1), (13, 1), (14, 1), (15, 1), (16, 1), (17, 1), (18, 1), (19, 1), (20, 1), (21, 1), (22, 1), (23, 1)]), (58, [(0, 1), (1, 1), (2, 1), (3, 1), (4, 1), (5, 1), (6, 1), (7, 1), (8, 1), (9, 1), (10, 1), (11, 1), (12, 1), (13, 1), (14, 1), (15, 1), (16, 1), (17, 1), (18, 1), (19, 1)]), (65, [(0, 1), (1, 1), (2, 1), (3, 1), (4, 1), (5, 1), (6, 1), (7, 1), (8, 1), (9, 1), (10, 1), (11, 1), (12, 1), (13, 1), (14, 1), (15, 1), (16, 1), (17, 1), (18, 1), (19, 1), (20, 1), (21, 1), (22, 1), (23, 1), (24, 1), (25, 1), (26, 1), (27, 1), (28, 1), (29, 1), (30, 1), (31, 1)]), (66, [(0, 1), (1, 1), (2, 1), (3, 1), (4, 1), (5, 1), (6, 1), (7, 1), (8, 1), (9, 1), (10, 1), (11, 1), (12, 1), (13, 1), (14, 1), (15, 1), (16, 1), (17, 1), (18, 1), (19, 1), (20, 1), (21, 1), (22, 1), (23, 1), (24, 1), (25, 1), (26, 1), (27, 1), (28, 1), (29, 1), (30, 1), (31, 1), (32, 1), (33, 1), (34, 1), (35, 1), (36, 1), (37, 1), (38, 1), (39, 1), (40, 1), (41, 1), (42, 1), (43, 1), (44, 1), (45, 1), (46, 1), (47, 1), (48, 1), (49, 1), (50, 1), (51, 1), (52, 1), (53, 1), (54, 1), (55, 1), (56, 1), (57, 1), (58, 1), (59, 1), (60, 1), (61, 1), (62, 1), (63, 1)])]
  infs := [(3, 1, 8), (5, 1, 1), (9, 1, 16), (25, 3, 24), (27, 3, 24), (31, 1, 24)]
theorem tab_ok : TabOk Tryd.prog tab where
  offs := List.forall_mem_cons.2 ⟨fo_25_0, List.forall_mem_cons.2 ⟨fo_25_1, List.forall_mem_cons.2 ⟨fo_25_2, List.forall_mem_cons.2 ⟨fo_27_0, List.forall_mem_cons.2 ⟨fo_27_1, List.forall_mem_cons.2 ⟨fo_27_2, fun _ h => nomatch h⟩⟩⟩⟩⟩⟩
  tys := List.forall_mem_cons.2 ⟨ty_1, List.forall_mem_cons.2 ⟨ty_2, List.forall_mem_cons.2 ⟨ty_3, List.forall_mem_cons.2 ⟨ty_4, List.forall_mem_cons.2 ⟨ty_5, List.forall_mem_cons.2 ⟨ty_9, List.forall_mem_cons.2 ⟨ty_12, List.forall_mem_cons.2 ⟨ty_13, List.forall_mem_cons.2 ⟨ty_20, List.forall_mem_cons.2 ⟨ty_21, List.forall_mem_cons.2 ⟨ty_22, List.forall_mem_cons.2 ⟨ty_23, List.forall_mem_cons.2 ⟨ty_24, List.forall_mem_cons.2 ⟨ty_25, List.forall_mem_cons.2 ⟨ty_26, List.forall_mem_cons.2 ⟨ty_27, List.forall_mem_cons.2 ⟨ty_28, List.forall_mem_cons.2 ⟨ty_29, List.forall_mem_cons.2 ⟨ty_30, List.forall_mem_cons.2 ⟨ty_31, List.forall_mem_cons.2 ⟨ty_32, List.forall_mem_cons.2 ⟨ty_33, List.forall_mem_cons.2 ⟨ty_34, List.forall_mem_cons.2 ⟨ty_35, List.forall_mem_cons.2 ⟨ty_36, List.forall_mem_cons.2 ⟨ty_37, List.forall_mem_cons.2 ⟨ty_38, List.forall_mem_cons.2 ⟨ty_39, List.forall_mem_cons.2 ⟨ty_40, List.forall_mem_cons.2 ⟨ty_41, List.forall_mem_cons.2 ⟨ty_42, List.forall_mem_cons.2 ⟨ty_43, List.forall_mem_cons.2 ⟨ty_44, List.forall_mem_cons.2 ⟨ty_45, List.forall_mem_cons.2 ⟨ty_46, List.forall_mem_cons.2 ⟨ty_47, List.forall_mem_cons.2 ⟨ty_48, List.forall_mem_cons.2 ⟨ty_49, List.forall_mem_cons.2 ⟨ty_50, List.forall_mem_cons.2 ⟨ty_51, List.forall_mem_cons.2 ⟨ty_52, List.forall_mem_cons.2 ⟨ty_53, List.forall_mem_cons.2 ⟨ty_54, List.forall_mem_cons.2 ⟨ty_56, List.forall_mem_cons.2 ⟨ty_57, List.forall_mem_cons.2 ⟨ty_58, List.forall_mem_cons.2 ⟨ty_59, List.forall_mem_cons.2 ⟨ty_60, List.forall_mem_cons.2 ⟨ty_61, List.forall_mem_cons.2 ⟨ty_62, List.forall_mem_cons.2 ⟨ty_63, List.forall_mem_cons.2 ⟨ty_64, List.forall_mem_cons.2 ⟨ty_65, List.forall_mem_cons.2 ⟨ty_66, List.forall_mem_cons.2 ⟨ty_67, List.forall_mem_cons.2 ⟨ty_73, List.forall_mem_cons.2 ⟨ty_76, List.forall_mem_cons.2 ⟨ty_77, List.forall_mem_cons.2 ⟨ty_82, fun _ h => nomatch h⟩⟩⟩⟩⟩⟩⟩⟩⟩⟩⟩⟩⟩⟩⟩⟩⟩⟩⟩⟩⟩⟩⟩⟩⟩⟩⟩⟩⟩⟩⟩⟩⟩⟩⟩⟩⟩⟩⟩⟩⟩⟩⟩⟩⟩⟩⟩⟩⟩⟩⟩⟩⟩⟩⟩⟩⟩⟩⟩
  zeros := List.forall_mem_cons.2 ⟨ze_1, List.forall_mem_cons.2 ⟨ze_2, List.forall_mem_cons.2 ⟨ze_3, List.forall_mem_cons.2 ⟨ze_4, List.forall_mem_cons.2 ⟨ze_5, List.forall_mem_cons.2 ⟨ze_9, List.forall_mem_cons.2 ⟨ze_12, List.forall_mem_cons.2 ⟨ze_13, List.forall_mem_cons.2 ⟨ze_20, List.forall_mem_cons.2 ⟨ze_21, List.forall_mem_cons.2 ⟨ze_22, List.forall_mem_cons.2 ⟨ze_23, List.forall_mem_cons.2 ⟨ze_24, List.forall_mem_cons.2 ⟨ze_25, List.forall_mem_cons.2 ⟨ze_26, List.forall_mem_cons.2 ⟨ze_27, List.forall_mem_cons.2 ⟨ze_28, List.forall_mem_cons.2 ⟨ze_29, List.forall_mem_cons.2 ⟨ze_30, List.forall_mem_cons.2 ⟨ze_31, List.forall_mem_cons.2 ⟨ze_32, List.forall_mem_cons.2 ⟨ze_33, List.forall_mem_cons.2 ⟨ze_34, List.forall_mem_cons.2 ⟨ze_35, List.forall_mem_cons.2 ⟨ze_36, List.forall_mem_cons.2 ⟨ze_37, List.forall_mem_cons.2 ⟨ze_38, List.forall_mem_cons.2 ⟨ze_39, List.forall_mem_cons.2 ⟨ze_40, List.forall_mem_cons.2 ⟨ze_41, List.forall_mem_cons.2 ⟨ze_42, List.forall_mem_cons.2 ⟨ze_43, List.forall_mem_cons.2 ⟨ze_44, List.forall_mem_cons.2 ⟨ze_45, List.forall_mem_cons.2 ⟨ze_46, List.forall_mem_cons.2 ⟨ze_47, List.forall_mem_cons.2 ⟨ze_48, List.forall_mem_cons.2 ⟨ze_49, List.forall_mem_cons.2 ⟨ze_50, List.forall_mem_cons.2 ⟨ze_51, List.forall_mem_cons.2 ⟨ze_52, List.forall_mem_cons.2 ⟨ze_53, List.forall_mem_cons.2 ⟨ze_54, List.forall_mem_cons.2 ⟨ze_56, List.forall_mem_cons.2 ⟨ze_57, List.forall_mem_cons.2 ⟨ze_58, List.forall_mem_cons.2 ⟨ze_59, List.forall_mem_cons.2 ⟨ze_61, List.forall_mem_cons.2 ⟨ze_62, List.forall_mem_cons.2 ⟨ze_63, List.forall_mem_cons.2 ⟨ze_64, List.forall_mem_cons.2 ⟨ze_65, List.forall_mem_cons.2 ⟨ze_66, List.forall_mem_cons.2 ⟨ze_67, List.forall_mem_cons.2 ⟨ze_73, List.forall_mem_cons.2 ⟨ze_76, List.forall_mem_cons.2 ⟨ze_77, List.forall_mem_cons.2 ⟨ze_82, fun _ h => nomatch h⟩⟩⟩⟩⟩⟩⟩⟩⟩⟩⟩⟩⟩⟩⟩⟩⟩⟩⟩⟩⟩⟩⟩⟩⟩⟩⟩⟩⟩⟩⟩⟩⟩⟩⟩⟩⟩⟩⟩⟩⟩⟩⟩⟩⟩⟩⟩⟩⟩⟩⟩⟩⟩⟩⟩⟩⟩⟩
  sls := List.forall_mem_cons.2 ⟨Tryd.underlying30, List.forall_mem_cons.2 ⟨Tryd.underlying31, List.forall_mem_cons.2 ⟨Tryd.underlying36, List.forall_mem_cons.2 ⟨Tryd.underlying42, List.forall_mem_cons.2 ⟨Tryd.underlying47, List.forall_mem_cons.2 ⟨Tryd.underlying49, fun _ h => nomatch h⟩⟩⟩⟩⟩⟩
  ars := List.forall_mem_cons.2 ⟨Tryd.underlying51, List.forall_mem_cons.2 ⟨Tryd.underlying58, List.forall_mem_cons.2 ⟨Tryd.underlying60, List.forall_mem_cons.2 ⟨Tryd.underlying65, List.forall_mem_cons.2 ⟨Tryd.underlying66, fun _ h => nomatch h⟩⟩⟩⟩⟩
  ints := List.forall_mem_cons.2 ⟨Tryd.underlying2, List.forall_mem_cons.2 ⟨Tryd.underlying3, List.forall_mem_cons.2 ⟨Tryd.underlying5, List.forall_mem_cons.2 ⟨Tryd.underlying12, List.forall_mem_cons.2 ⟨Tryd.underlying21, List.forall_mem_cons.2 ⟨Tryd.underlying52, List.forall_mem_cons.2 ⟨Tryd.underlying59, List.forall_mem_cons.2 ⟨Tryd.underlying62, fun _ h => nomatch h⟩⟩⟩⟩⟩⟩⟩⟩
  strs := List.forall_mem_cons.2 ⟨Tryd.underlying9, fun _ h => nomatch h⟩
  bools := List.forall_mem_cons.2 ⟨Tryd.underlying4, fun _ h => nomatch h⟩
  ptrs := List.forall_mem_cons.2 ⟨Tryd.underlying77, fun _ h => nomatch h⟩
  flds := List.forall_mem_cons.2 ⟨fl_13, List.forall_mem_cons.2 ⟨fl_24, List.forall_mem_cons.2 ⟨fl_25, List.forall_mem_cons.2 ⟨fl_27, List.forall_mem_cons.2 ⟨fl_51, List.forall_mem_cons.2 ⟨fl_58, List.forall_mem_cons.2 ⟨fl_65, List.forall_mem_cons.2 ⟨fl_66, fun _ h => nomatch h⟩⟩⟩⟩⟩⟩⟩⟩
  infs := List.forall_mem_cons.2 ⟨in_3, List.forall_mem_cons.2 ⟨in_5, List.forall_mem_cons.2 ⟨in_9, List.forall_mem_cons.2 ⟨in_25, List.forall_mem_cons.2 ⟨in_27, List.forall_mem_cons.2 ⟨in_31, fun _ h => nomatch h⟩⟩⟩⟩⟩⟩
theorem follows : Tryd.prog.follows .mixedOrders = true := by kernel_rfl
end Go.Proofs.YtgipjpiiomgjjaaDoor
