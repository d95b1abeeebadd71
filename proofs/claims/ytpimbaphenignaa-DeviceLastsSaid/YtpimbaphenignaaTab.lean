/-
  What the types of this seat are, as the walks ask it.
-/
import Derived.Test.YtpimbaphenignaaProg
import Derived.KernelRfl
import Derived.Test.YtpimbaphenignaaSr
namespace Go.Proofs.Ytpimbaphenignaa
open Go Go.Sl
set_option maxRecDepth 20000
theorem fo_32_0 : FieldAt Try.prog (32, 0, 0) := by intro b o w; simp [Instr.fieldAt, Instr.sureAddr, fieldPlace, Go.Sl.Addr.add_none']
theorem fo_32_1 : FieldAt Try.prog (32, 1, 1) := by intro b o w; simp [Instr.fieldAt, Instr.sureAddr, fieldPlace, Go.Sl.Addr.add_none']
theorem fo_32_2 : FieldAt Try.prog (32, 2, 2) := by intro b o w; simp [Instr.fieldAt, Instr.sureAddr, fieldPlace, Go.Sl.Addr.add_none']
theorem fo_32_3 : FieldAt Try.prog (32, 3, 3) := by intro b o w; simp [Instr.fieldAt, Instr.sureAddr, fieldPlace, Go.Sl.Addr.add_none']
theorem fo_32_4 : FieldAt Try.prog (32, 4, 4) := by intro b o w; simp [Instr.fieldAt, Instr.sureAddr, fieldPlace, Go.Sl.Addr.add_none']
theorem fo_53_0 : FieldAt Try.prog (53, 0, 0) := by intro b o w; simp [Instr.fieldAt, Instr.sureAddr, fieldPlace, Go.Sl.Addr.add_none']
theorem fo_53_1 : FieldAt Try.prog (53, 1, 1) := by intro b o w; simp [Instr.fieldAt, Instr.sureAddr, fieldPlace, Go.Sl.Addr.add_none']
theorem fo_53_2 : FieldAt Try.prog (53, 2, 2) := by intro b o w; simp [Instr.fieldAt, Instr.sureAddr, fieldPlace, Go.Sl.Addr.add_none']
theorem fo_63_0 : FieldAt Try.prog (63, 0, 0) := by intro b o w; simp [Instr.fieldAt, Instr.sureAddr, fieldPlace, Go.Sl.Addr.add_none']
theorem fo_63_1 : FieldAt Try.prog (63, 1, 1) := by intro b o w; simp [Instr.fieldAt, Instr.sureAddr, fieldPlace, Go.Sl.Addr.add_none']
theorem fo_63_2 : FieldAt Try.prog (63, 2, 2) := by intro b o w; simp [Instr.fieldAt, Instr.sureAddr, fieldPlace, Go.Sl.Addr.add_none']
theorem fo_63_3 : FieldAt Try.prog (63, 3, 3) := by intro b o w; simp [Instr.fieldAt, Instr.sureAddr, fieldPlace, Go.Sl.Addr.add_none']
theorem fo_68_0 : FieldAt Try.prog (68, 0, 0) := by intro b o w; simp [Instr.fieldAt, Instr.sureAddr, fieldPlace, Go.Sl.Addr.add_none']
theorem fo_68_1 : FieldAt Try.prog (68, 1, 1) := by intro b o w; simp [Instr.fieldAt, Instr.sureAddr, fieldPlace, Go.Sl.Addr.add_none']
theorem fo_75_0 : FieldAt Try.prog (75, 0, 0) := by intro b o w; simp [Instr.fieldAt, Instr.sureAddr, fieldPlace, Go.Sl.Addr.add_none']
theorem fo_75_1 : FieldAt Try.prog (75, 1, 1) := by intro b o w; simp [Instr.fieldAt, Instr.sureAddr, fieldPlace, Go.Sl.Addr.add_none']
theorem ty_1 : IsAgg Try.prog 1 false ∧ SizeOf Try.prog 1 1 := ⟨Try.isAgg1, Try.sizeOf1⟩
theorem ty_2 : IsAgg Try.prog 2 false ∧ SizeOf Try.prog 2 1 := ⟨Try.isAgg2, Try.sizeOf2⟩
theorem ty_3 : IsAgg Try.prog 3 false ∧ SizeOf Try.prog 3 1 := ⟨Try.isAgg3, Try.sizeOf3⟩
theorem ty_4 : IsAgg Try.prog 4 false ∧ SizeOf Try.prog 4 1 := ⟨Try.isAgg4, Try.sizeOf4⟩
theorem ty_5 : IsAgg Try.prog 5 false ∧ SizeOf Try.prog 5 1 := ⟨Try.isAgg5, Try.sizeOf5⟩
theorem ty_9 : IsAgg Try.prog 9 false ∧ SizeOf Try.prog 9 1 := ⟨Try.isAgg9, Try.sizeOf9⟩
theorem ty_12 : IsAgg Try.prog 12 false ∧ SizeOf Try.prog 12 1 := ⟨Try.isAgg12, Try.sizeOf12⟩
theorem ty_13 : IsAgg Try.prog 13 true ∧ SizeOf Try.prog 13 2 := ⟨Try.isAgg13, Try.sizeOf13⟩
theorem ty_20 : IsAgg Try.prog 20 false ∧ SizeOf Try.prog 20 1 := ⟨Try.isAgg20, Try.sizeOf20⟩
theorem ty_21 : IsAgg Try.prog 21 false ∧ SizeOf Try.prog 21 1 := ⟨Try.isAgg21, Try.sizeOf21⟩
theorem ty_22 : IsAgg Try.prog 22 false ∧ SizeOf Try.prog 22 1 := ⟨Try.isAgg22, Try.sizeOf22⟩
theorem ty_23 : IsAgg Try.prog 23 false ∧ SizeOf Try.prog 23 1 := ⟨Try.isAgg23, Try.sizeOf23⟩
theorem ty_24 : IsAgg Try.prog 24 false ∧ SizeOf Try.prog 24 1 := ⟨Try.isAgg24, Try.sizeOf24⟩
theorem ty_25 : IsAgg Try.prog 25 false ∧ SizeOf Try.prog 25 1 := ⟨Try.isAgg25, Try.sizeOf25⟩
theorem ty_27 : IsAgg Try.prog 27 false ∧ SizeOf Try.prog 27 1 := ⟨Try.isAgg27, Try.sizeOf27⟩
theorem ty_28 : IsAgg Try.prog 28 false ∧ SizeOf Try.prog 28 1 := ⟨Try.isAgg28, Try.sizeOf28⟩
theorem ty_29 : IsAgg Try.prog 29 false ∧ SizeOf Try.prog 29 1 := ⟨Try.isAgg29, Try.sizeOf29⟩
theorem ty_30 : IsAgg Try.prog 30 false ∧ SizeOf Try.prog 30 1 := ⟨Try.isAgg30, Try.sizeOf30⟩
theorem ty_31 : IsAgg Try.prog 31 true ∧ SizeOf Try.prog 31 5 := ⟨Try.isAgg31, Try.sizeOf31⟩
theorem ty_32 : IsAgg Try.prog 32 true ∧ SizeOf Try.prog 32 5 := ⟨Try.isAgg32, Try.sizeOf32⟩
theorem ty_33 : IsAgg Try.prog 33 false ∧ SizeOf Try.prog 33 1 := ⟨Try.isAgg33, Try.sizeOf33⟩
theorem ty_34 : IsAgg Try.prog 34 false ∧ SizeOf Try.prog 34 1 := ⟨Try.isAgg34, Try.sizeOf34⟩
theorem ty_36 : IsAgg Try.prog 36 false ∧ SizeOf Try.prog 36 1 := ⟨Try.isAgg36, Try.sizeOf36⟩
theorem ty_37 : IsAgg Try.prog 37 false ∧ SizeOf Try.prog 37 1 := ⟨Try.isAgg37, Try.sizeOf37⟩
theorem ty_38 : IsAgg Try.prog 38 false ∧ SizeOf Try.prog 38 1 := ⟨Try.isAgg38, Try.sizeOf38⟩
theorem ty_39 : IsAgg Try.prog 39 false ∧ SizeOf Try.prog 39 1 := ⟨Try.isAgg39, Try.sizeOf39⟩
theorem ty_40 : IsAgg Try.prog 40 false ∧ SizeOf Try.prog 40 1 := ⟨Try.isAgg40, Try.sizeOf40⟩
theorem ty_41 : IsAgg Try.prog 41 false ∧ SizeOf Try.prog 41 1 := ⟨Try.isAgg41, Try.sizeOf41⟩
theorem ty_42 : IsAgg Try.prog 42 false ∧ SizeOf Try.prog 42 1 := ⟨Try.isAgg42, Try.sizeOf42⟩
theorem ty_43 : IsAgg Try.prog 43 false ∧ SizeOf Try.prog 43 1 := ⟨Try.isAgg43, Try.sizeOf43⟩
theorem ty_44 : IsAgg Try.prog 44 false ∧ SizeOf Try.prog 44 1 := ⟨Try.isAgg44, Try.sizeOf44⟩
theorem ty_45 : IsAgg Try.prog 45 false ∧ SizeOf Try.prog 45 1 := ⟨Try.isAgg45, Try.sizeOf45⟩
theorem ty_46 : IsAgg Try.prog 46 false ∧ SizeOf Try.prog 46 1 := ⟨Try.isAgg46, Try.sizeOf46⟩
theorem ty_47 : IsAgg Try.prog 47 false ∧ SizeOf Try.prog 47 1 := ⟨Try.isAgg47, Try.sizeOf47⟩
theorem ty_48 : IsAgg Try.prog 48 false ∧ SizeOf Try.prog 48 1 := ⟨Try.isAgg48, Try.sizeOf48⟩
theorem ty_49 : IsAgg Try.prog 49 false ∧ SizeOf Try.prog 49 1 := ⟨Try.isAgg49, Try.sizeOf49⟩
theorem ty_50 : IsAgg Try.prog 50 false ∧ SizeOf Try.prog 50 1 := ⟨Try.isAgg50, Try.sizeOf50⟩
theorem ty_51 : IsAgg Try.prog 51 false ∧ SizeOf Try.prog 51 1 := ⟨Try.isAgg51, Try.sizeOf51⟩
theorem ty_52 : IsAgg Try.prog 52 true ∧ SizeOf Try.prog 52 3 := ⟨Try.isAgg52, Try.sizeOf52⟩
theorem ty_53 : IsAgg Try.prog 53 true ∧ SizeOf Try.prog 53 3 := ⟨Try.isAgg53, Try.sizeOf53⟩
theorem ty_54 : IsAgg Try.prog 54 false ∧ SizeOf Try.prog 54 1 := ⟨Try.isAgg54, Try.sizeOf54⟩
theorem ty_56 : IsAgg Try.prog 56 false ∧ SizeOf Try.prog 56 1 := ⟨Try.isAgg56, Try.sizeOf56⟩
theorem ty_57 : IsAgg Try.prog 57 false ∧ SizeOf Try.prog 57 1 := ⟨Try.isAgg57, Try.sizeOf57⟩
theorem ty_58 : IsAgg Try.prog 58 false ∧ SizeOf Try.prog 58 1 := ⟨Try.isAgg58, Try.sizeOf58⟩
theorem ty_59 : IsAgg Try.prog 59 false ∧ SizeOf Try.prog 59 1 := ⟨Try.isAgg59, Try.sizeOf59⟩
theorem ty_60 : IsAgg Try.prog 60 false ∧ SizeOf Try.prog 60 1 := ⟨Try.isAgg60, Try.sizeOf60⟩
theorem ty_61 : IsAgg Try.prog 61 false ∧ SizeOf Try.prog 61 1 := ⟨Try.isAgg61, Try.sizeOf61⟩
theorem ty_62 : IsAgg Try.prog 62 true ∧ SizeOf Try.prog 62 4 := ⟨Try.isAgg62, Try.sizeOf62⟩
theorem ty_63 : IsAgg Try.prog 63 true ∧ SizeOf Try.prog 63 4 := ⟨Try.isAgg63, Try.sizeOf63⟩
theorem ty_64 : IsAgg Try.prog 64 false ∧ SizeOf Try.prog 64 1 := ⟨Try.isAgg64, Try.sizeOf64⟩
theorem ty_66 : IsAgg Try.prog 66 false ∧ SizeOf Try.prog 66 1 := ⟨Try.isAgg66, Try.sizeOf66⟩
theorem ty_67 : IsAgg Try.prog 67 true ∧ SizeOf Try.prog 67 2 := ⟨Try.isAgg67, Try.sizeOf67⟩
theorem ty_68 : IsAgg Try.prog 68 true ∧ SizeOf Try.prog 68 2 := ⟨Try.isAgg68, Try.sizeOf68⟩
theorem ty_69 : IsAgg Try.prog 69 false ∧ SizeOf Try.prog 69 1 := ⟨Try.isAgg69, Try.sizeOf69⟩
theorem ty_70 : IsAgg Try.prog 70 false ∧ SizeOf Try.prog 70 1 := ⟨Try.isAgg70, Try.sizeOf70⟩
theorem ty_71 : IsAgg Try.prog 71 false ∧ SizeOf Try.prog 71 1 := ⟨Try.isAgg71, Try.sizeOf71⟩
theorem ty_72 : IsAgg Try.prog 72 false ∧ SizeOf Try.prog 72 1 := ⟨Try.isAgg72, Try.sizeOf72⟩
theorem ty_73 : IsAgg Try.prog 73 false ∧ SizeOf Try.prog 73 1 := ⟨Try.isAgg73, Try.sizeOf73⟩
theorem ty_74 : IsAgg Try.prog 74 true ∧ SizeOf Try.prog 74 2 := ⟨Try.isAgg74, Try.sizeOf74⟩
theorem ty_75 : IsAgg Try.prog 75 true ∧ SizeOf Try.prog 75 2 := ⟨Try.isAgg75, Try.sizeOf75⟩
theorem ty_77 : IsAgg Try.prog 77 false ∧ SizeOf Try.prog 77 1 := ⟨Try.isAgg77, Try.sizeOf77⟩
theorem ty_78 : IsAgg Try.prog 78 false ∧ SizeOf Try.prog 78 1 := ⟨Try.isAgg78, Try.sizeOf78⟩
theorem ty_79 : IsAgg Try.prog 79 false ∧ SizeOf Try.prog 79 1 := ⟨Try.isAgg79, Try.sizeOf79⟩
theorem ty_81 : IsAgg Try.prog 81 false ∧ SizeOf Try.prog 81 1 := ⟨Try.isAgg81, Try.sizeOf81⟩
theorem ty_82 : IsAgg Try.prog 82 false ∧ SizeOf Try.prog 82 1 := ⟨Try.isAgg82, Try.sizeOf82⟩
theorem ty_83 : IsAgg Try.prog 83 false ∧ SizeOf Try.prog 83 1 := ⟨Try.isAgg83, Try.sizeOf83⟩
theorem ty_84 : IsAgg Try.prog 84 false ∧ SizeOf Try.prog 84 1 := ⟨Try.isAgg84, Try.sizeOf84⟩
theorem ty_85 : IsAgg Try.prog 85 false ∧ SizeOf Try.prog 85 1 := ⟨Try.isAgg85, Try.sizeOf85⟩
theorem ty_86 : IsAgg Try.prog 86 false ∧ SizeOf Try.prog 86 1 := ⟨Try.isAgg86, Try.sizeOf86⟩
theorem ty_87 : IsAgg Try.prog 87 false ∧ SizeOf Try.prog 87 1 := ⟨Try.isAgg87, Try.sizeOf87⟩
theorem ty_88 : IsAgg Try.prog 88 false ∧ SizeOf Try.prog 88 1 := ⟨Try.isAgg88, Try.sizeOf88⟩
theorem ty_89 : IsAgg Try.prog 89 false ∧ SizeOf Try.prog 89 1 := ⟨Try.isAgg89, Try.sizeOf89⟩
theorem ty_90 : IsAgg Try.prog 90 false ∧ SizeOf Try.prog 90 1 := ⟨Try.isAgg90, Try.sizeOf90⟩
theorem ty_92 : IsAgg Try.prog 92 false ∧ SizeOf Try.prog 92 1 := ⟨Try.isAgg92, Try.sizeOf92⟩
theorem ty_93 : IsAgg Try.prog 93 false ∧ SizeOf Try.prog 93 1 := ⟨Try.isAgg93, Try.sizeOf93⟩
theorem ty_94 : IsAgg Try.prog 94 false ∧ SizeOf Try.prog 94 1 := ⟨Try.isAgg94, Try.sizeOf94⟩
theorem ty_95 : IsAgg Try.prog 95 false ∧ SizeOf Try.prog 95 1 := ⟨Try.isAgg95, Try.sizeOf95⟩
theorem ty_96 : IsAgg Try.prog 96 false ∧ SizeOf Try.prog 96 1 := ⟨Try.isAgg96, Try.sizeOf96⟩
theorem ty_97 : IsAgg Try.prog 97 false ∧ SizeOf Try.prog 97 1 := ⟨Try.isAgg97, Try.sizeOf97⟩
theorem ty_99 : IsAgg Try.prog 99 false ∧ SizeOf Try.prog 99 1 := ⟨Try.isAgg99, Try.sizeOf99⟩
theorem ty_100 : IsAgg Try.prog 100 false ∧ SizeOf Try.prog 100 1 := ⟨Try.isAgg100, Try.sizeOf100⟩
theorem ty_101 : IsAgg Try.prog 101 false ∧ SizeOf Try.prog 101 1 := ⟨Try.isAgg101, Try.sizeOf101⟩
theorem ty_102 : IsAgg Try.prog 102 false ∧ SizeOf Try.prog 102 1 := ⟨Try.isAgg102, Try.sizeOf102⟩
theorem ty_104 : IsAgg Try.prog 104 false ∧ SizeOf Try.prog 104 1 := ⟨Try.isAgg104, Try.sizeOf104⟩
theorem ty_105 : IsAgg Try.prog 105 false ∧ SizeOf Try.prog 105 1 := ⟨Try.isAgg105, Try.sizeOf105⟩
theorem ty_106 : IsAgg Try.prog 106 false ∧ SizeOf Try.prog 106 1 := ⟨Try.isAgg106, Try.sizeOf106⟩
theorem ty_107 : IsAgg Try.prog 107 false ∧ SizeOf Try.prog 107 1 := ⟨Try.isAgg107, Try.sizeOf107⟩
theorem ty_108 : IsAgg Try.prog 108 false ∧ SizeOf Try.prog 108 1 := ⟨Try.isAgg108, Try.sizeOf108⟩
theorem ty_109 : IsAgg Try.prog 109 false ∧ SizeOf Try.prog 109 1 := ⟨Try.isAgg109, Try.sizeOf109⟩
theorem ty_110 : IsAgg Try.prog 110 false ∧ SizeOf Try.prog 110 1 := ⟨Try.isAgg110, Try.sizeOf110⟩
theorem ty_111 : IsAgg Try.prog 111 false ∧ SizeOf Try.prog 111 1 := ⟨Try.isAgg111, Try.sizeOf111⟩
theorem ty_112 : IsAgg Try.prog 112 false ∧ SizeOf Try.prog 112 1 := ⟨Try.isAgg112, Try.sizeOf112⟩
theorem ty_113 : IsAgg Try.prog 113 false ∧ SizeOf Try.prog 113 1 := ⟨Try.isAgg113, Try.sizeOf113⟩
theorem ty_114 : IsAgg Try.prog 114 true ∧ SizeOf Try.prog 114 256 := ⟨Try.isAgg114, Try.sizeOf114⟩
theorem ty_115 : IsAgg Try.prog 115 false ∧ SizeOf Try.prog 115 1 := ⟨Try.isAgg115, Try.sizeOf115⟩
theorem ty_116 : IsAgg Try.prog 116 false ∧ SizeOf Try.prog 116 1 := ⟨Try.isAgg116, Try.sizeOf116⟩
theorem ty_118 : IsAgg Try.prog 118 false ∧ SizeOf Try.prog 118 1 := ⟨Try.isAgg118, Try.sizeOf118⟩
theorem ty_119 : IsAgg Try.prog 119 false ∧ SizeOf Try.prog 119 1 := ⟨Try.isAgg119, Try.sizeOf119⟩
theorem ty_127 : IsAgg Try.prog 127 false ∧ SizeOf Try.prog 127 1 := ⟨Try.isAgg127, Try.sizeOf127⟩
theorem ty_128 : IsAgg Try.prog 128 false ∧ SizeOf Try.prog 128 1 := ⟨Try.isAgg128, Try.sizeOf128⟩
theorem ty_133 : IsAgg Try.prog 133 false ∧ SizeOf Try.prog 133 1 := ⟨Try.isAgg133, Try.sizeOf133⟩
theorem ze_1 : ZeroOf Try.prog 1 (.nilFunc) := Try.zeroValue1
theorem ze_2 : ZeroOf Try.prog 2 (.int .i64 0) := Try.zeroValue2
theorem ze_3 : ZeroOf Try.prog 3 (.int .i64 0) := Try.zeroValue3
theorem ze_4 : ZeroOf Try.prog 4 (.bool false) := Try.zeroValue4
theorem ze_5 : ZeroOf Try.prog 5 (.int .u8 0) := Try.zeroValue5
theorem ze_9 : ZeroOf Try.prog 9 (.string ⟨#[]⟩) := Try.zeroValue9
theorem ze_12 : ZeroOf Try.prog 12 (.int .u64 0) := Try.zeroValue12
theorem ze_13 : ZeroOf Try.prog 13 (.agg #[.string ⟨#[]⟩, .int .u64 0]) := Try.zeroValue13
theorem ze_20 : ZeroOf Try.prog 20 (.nilIface) := Try.zeroValue20
theorem ze_21 : ZeroOf Try.prog 21 (.int .i32 0) := Try.zeroValue21
theorem ze_22 : ZeroOf Try.prog 22 (.slice none 0 0) := Try.zeroValue22
theorem ze_23 : ZeroOf Try.prog 23 (.slice none 0 0) := Try.zeroValue23
theorem ze_24 : ZeroOf Try.prog 24 (.pointer none) := Try.zeroValue24
theorem ze_25 : ZeroOf Try.prog 25 (.int .i64 0) := Try.zeroValue25
theorem ze_27 : ZeroOf Try.prog 27 (.nilFunc) := Try.zeroValue27
theorem ze_28 : ZeroOf Try.prog 28 (.slice none 0 0) := Try.zeroValue28
theorem ze_29 : ZeroOf Try.prog 29 (.nilFunc) := Try.zeroValue29
theorem ze_30 : ZeroOf Try.prog 30 (.slice none 0 0) := Try.zeroValue30
theorem ze_31 : ZeroOf Try.prog 31 (.agg #[.int .i64 0, .int .i64 0, .int .i64 0, .slice none 0 0, .slice none 0 0]) := Try.zeroValue31
theorem ze_32 : ZeroOf Try.prog 32 (.agg #[.int .i64 0, .int .i64 0, .int .i64 0, .slice none 0 0, .slice none 0 0]) := Try.zeroValue32
theorem ze_33 : ZeroOf Try.prog 33 (.nilFunc) := Try.zeroValue33
theorem ze_34 : ZeroOf Try.prog 34 (.nilFunc) := Try.zeroValue34
theorem ze_36 : ZeroOf Try.prog 36 (.nilFunc) := Try.zeroValue36
theorem ze_37 : ZeroOf Try.prog 37 (.nilFunc) := Try.zeroValue37
theorem ze_38 : ZeroOf Try.prog 38 (.pointer none) := Try.zeroValue38
theorem ze_39 : ZeroOf Try.prog 39 (.nilFunc) := Try.zeroValue39
theorem ze_40 : ZeroOf Try.prog 40 (.nilFunc) := Try.zeroValue40
theorem ze_41 : ZeroOf Try.prog 41 (.slice none 0 0) := Try.zeroValue41
theorem ze_42 : ZeroOf Try.prog 42 (.nilFunc) := Try.zeroValue42
theorem ze_43 : ZeroOf Try.prog 43 (.nilFunc) := Try.zeroValue43
theorem ze_44 : ZeroOf Try.prog 44 (.nilFunc) := Try.zeroValue44
theorem ze_45 : ZeroOf Try.prog 45 (.nilFunc) := Try.zeroValue45
theorem ze_46 : ZeroOf Try.prog 46 (.nilFunc) := Try.zeroValue46
theorem ze_47 : ZeroOf Try.prog 47 (.nilFunc) := Try.zeroValue47
theorem ze_48 : ZeroOf Try.prog 48 (.nilFunc) := Try.zeroValue48
theorem ze_49 : ZeroOf Try.prog 49 (.nilFunc) := Try.zeroValue49
theorem ze_50 : ZeroOf Try.prog 50 (.nilFunc) := Try.zeroValue50
theorem ze_51 : ZeroOf Try.prog 51 (.nilFunc) := Try.zeroValue51
theorem ze_52 : ZeroOf Try.prog 52 (.agg #[.slice none 0 0, .slice none 0 0, .slice none 0 0]) := Try.zeroValue52
theorem ze_53 : ZeroOf Try.prog 53 (.agg #[.slice none 0 0, .slice none 0 0, .slice none 0 0]) := Try.zeroValue53
theorem ze_54 : ZeroOf Try.prog 54 (.nilFunc) := Try.zeroValue54
theorem ze_56 : ZeroOf Try.prog 56 (.nilFunc) := Try.zeroValue56
theorem ze_57 : ZeroOf Try.prog 57 (.nilFunc) := Try.zeroValue57
theorem ze_58 : ZeroOf Try.prog 58 (.nilFunc) := Try.zeroValue58
theorem ze_59 : ZeroOf Try.prog 59 (.nilFunc) := Try.zeroValue59
theorem ze_60 : ZeroOf Try.prog 60 (.nilFunc) := Try.zeroValue60
theorem ze_61 : ZeroOf Try.prog 61 (.map none) := Try.zeroValue61
theorem ze_62 : ZeroOf Try.prog 62 (.agg #[.int .i64 0, .map none, .map none, .slice none 0 0]) := Try.zeroValue62
theorem ze_63 : ZeroOf Try.prog 63 (.agg #[.int .i64 0, .map none, .map none, .slice none 0 0]) := Try.zeroValue63
theorem ze_64 : ZeroOf Try.prog 64 (.nilFunc) := Try.zeroValue64
theorem ze_66 : ZeroOf Try.prog 66 (.nilFunc) := Try.zeroValue66
theorem ze_67 : ZeroOf Try.prog 67 (.agg #[.slice none 0 0, .int .i64 0]) := Try.zeroValue67
theorem ze_68 : ZeroOf Try.prog 68 (.agg #[.slice none 0 0, .int .i64 0]) := Try.zeroValue68
theorem ze_69 : ZeroOf Try.prog 69 (.nilFunc) := Try.zeroValue69
theorem ze_70 : ZeroOf Try.prog 70 (.nilFunc) := Try.zeroValue70
theorem ze_71 : ZeroOf Try.prog 71 (.nilFunc) := Try.zeroValue71
theorem ze_72 : ZeroOf Try.prog 72 (.nilFunc) := Try.zeroValue72
theorem ze_73 : ZeroOf Try.prog 73 (.nilFunc) := Try.zeroValue73
theorem ze_74 : ZeroOf Try.prog 74 (.agg #[.slice none 0 0, .int .i64 0]) := Try.zeroValue74
theorem ze_75 : ZeroOf Try.prog 75 (.agg #[.slice none 0 0, .int .i64 0]) := Try.zeroValue75
theorem ze_77 : ZeroOf Try.prog 77 (.nilFunc) := Try.zeroValue77
theorem ze_78 : ZeroOf Try.prog 78 (.nilFunc) := Try.zeroValue78
theorem ze_79 : ZeroOf Try.prog 79 (.nilFunc) := Try.zeroValue79
theorem ze_81 : ZeroOf Try.prog 81 (.nilFunc) := Try.zeroValue81
theorem ze_82 : ZeroOf Try.prog 82 (.nilFunc) := Try.zeroValue82
theorem ze_83 : ZeroOf Try.prog 83 (.nilFunc) := Try.zeroValue83
theorem ze_84 : ZeroOf Try.prog 84 (.nilFunc) := Try.zeroValue84
theorem ze_85 : ZeroOf Try.prog 85 (.nilFunc) := Try.zeroValue85
theorem ze_86 : ZeroOf Try.prog 86 (.nilFunc) := Try.zeroValue86
theorem ze_87 : ZeroOf Try.prog 87 (.int .u64 0) := Try.zeroValue87
theorem ze_88 : ZeroOf Try.prog 88 (.int .u32 0) := Try.zeroValue88
theorem ze_89 : ZeroOf Try.prog 89 (.nilFunc) := Try.zeroValue89
theorem ze_90 : ZeroOf Try.prog 90 (.nilFunc) := Try.zeroValue90
theorem ze_92 : ZeroOf Try.prog 92 (.nilFunc) := Try.zeroValue92
theorem ze_93 : ZeroOf Try.prog 93 (.nilFunc) := Try.zeroValue93
theorem ze_94 : ZeroOf Try.prog 94 (.nilFunc) := Try.zeroValue94
theorem ze_95 : ZeroOf Try.prog 95 (.nilFunc) := Try.zeroValue95
theorem ze_96 : ZeroOf Try.prog 96 (.nilFunc) := Try.zeroValue96
theorem ze_97 : ZeroOf Try.prog 97 (.int .i64 0) := Try.zeroValue97
theorem ze_99 : ZeroOf Try.prog 99 (.nilFunc) := Try.zeroValue99
theorem ze_100 : ZeroOf Try.prog 100 (.nilFunc) := Try.zeroValue100
theorem ze_101 : ZeroOf Try.prog 101 (.nilFunc) := Try.zeroValue101
theorem ze_102 : ZeroOf Try.prog 102 (.nilFunc) := Try.zeroValue102
theorem ze_104 : ZeroOf Try.prog 104 (.nilFunc) := Try.zeroValue104
theorem ze_105 : ZeroOf Try.prog 105 (.nilFunc) := Try.zeroValue105
theorem ze_106 : ZeroOf Try.prog 106 (.nilFunc) := Try.zeroValue106
theorem ze_107 : ZeroOf Try.prog 107 (.int .u64 0) := Try.zeroValue107
theorem ze_108 : ZeroOf Try.prog 108 (.int .u64 0) := Try.zeroValue108
theorem ze_109 : ZeroOf Try.prog 109 (.nilFunc) := Try.zeroValue109
theorem ze_110 : ZeroOf Try.prog 110 (.nilFunc) := Try.zeroValue110
theorem ze_111 : ZeroOf Try.prog 111 (.nilFunc) := Try.zeroValue111
theorem ze_112 : ZeroOf Try.prog 112 (.pointer none) := Try.zeroValue112
theorem ze_113 : ZeroOf Try.prog 113 (.nilFunc) := Try.zeroValue113
theorem ze_115 : ZeroOf Try.prog 115 (.nilFunc) := Try.zeroValue115
theorem ze_116 : ZeroOf Try.prog 116 (.pointer none) := Try.zeroValue116
theorem ze_118 : ZeroOf Try.prog 118 (.nilFunc) := Try.zeroValue118
theorem ze_119 : ZeroOf Try.prog 119 (.nilFunc) := Try.zeroValue119
theorem ze_127 : ZeroOf Try.prog 127 (.nilFunc) := Try.zeroValue127
theorem ze_128 : ZeroOf Try.prog 128 (.pointer none) := Try.zeroValue128
theorem ze_133 : ZeroOf Try.prog 133 (.pointer none) := Try.zeroValue133
theorem fl_13 : PlacesOk Try.prog (13, [(0, 1), (1, 1)]) := .inl ⟨_, Try.underlying13, fun w => by simp⟩
theorem fl_31 : PlacesOk Try.prog (31, [(0, 1), (1, 1), (2, 1), (3, 1), (4, 1)]) := .inl ⟨_, Try.underlying31, fun w => by simp⟩
theorem fl_32 : PlacesOk Try.prog (32, [(0, 1), (1, 1), (2, 1), (3, 1), (4, 1)]) := .inl ⟨_, Try.underlying32, fun w => by simp⟩
theorem fl_52 : PlacesOk Try.prog (52, [(0, 1), (1, 1), (2, 1)]) := .inl ⟨_, Try.underlying52, fun w => by simp⟩
theorem fl_53 : PlacesOk Try.prog (53, [(0, 1), (1, 1), (2, 1)]) := .inl ⟨_, Try.underlying53, fun w => by simp⟩
theorem fl_62 : PlacesOk Try.prog (62, [(0, 1), (1, 1), (2, 1), (3, 1)]) := .inl ⟨_, Try.underlying62, fun w => by simp⟩
theorem fl_63 : PlacesOk Try.prog (63, [(0, 1), (1, 1), (2, 1), (3, 1)]) := .inl ⟨_, Try.underlying63, fun w => by simp⟩
theorem fl_67 : PlacesOk Try.prog (67, [(0, 1), (1, 1)]) := .inl ⟨_, Try.underlying67, fun w => by simp⟩
theorem fl_68 : PlacesOk Try.prog (68, [(0, 1), (1, 1)]) := .inl ⟨_, Try.underlying68, fun w => by simp⟩
theorem fl_74 : PlacesOk Try.prog (74, [(0, 1), (1, 1)]) := .inl ⟨_, Try.underlying74, fun w => by simp⟩
theorem fl_75 : PlacesOk Try.prog (75, [(0, 1), (1, 1)]) := .inl ⟨_, Try.underlying75, fun w => by simp⟩
theorem in_3 : InfOk Try.prog 3 1 8 := ⟨Try.t3, _, rfl, rfl, rfl, rfl, rfl, by decide⟩
theorem in_4 : InfOk Try.prog 4 1 1 := ⟨Try.t4, _, rfl, rfl, rfl, rfl, rfl, by decide⟩
theorem in_5 : InfOk Try.prog 5 1 1 := ⟨Try.t5, _, rfl, rfl, rfl, rfl, rfl, by decide⟩
theorem in_30 : InfOk Try.prog 30 1 24 := ⟨Try.t30, _, rfl, rfl, rfl, rfl, rfl, by decide⟩
theorem in_32 : InfOk Try.prog 32 5 72 := ⟨Try.t32, _, rfl, rfl, rfl, rfl, rfl, by decide⟩
def tab : Tab where
  offs := [(32, 0, 0), (32, 1, 1), (32, 2, 2), (32, 3, 3), (32, 4, 4), (53, 0, 0), (53, 1, 1), (53, 2, 2), (63, 0, 0), (63, 1, 1), (63, 2, 2), (63, 3, 3), (68, 0, 0), (68, 1, 1), (75, 0, 0), (75, 1, 1)]
  tys := [(1, false, 1), (2, false, 1), (3, false, 1), (4, false, 1), (5, false, 1), (9, false, 1), (12, false, 1), (13, true, 2), (20, false, 1), (21, false, 1), (22, false, 1), (23, false, 1), (24, false, 1), (25, false, 1), (27, false, 1), (28, false, 1), (29, false, 1), (30, false, 1), (31, true, 5), (32, true, 5), (33, false, 1), (34, false, 1), (36, false, 1), (37, false, 1), (38, false, 1), (39, false, 1), (40, false, 1), (41, false, 1), (42, false, 1), (43, false, 1), (44, false, 1), (45, false, 1), (46, false, 1), (47, false, 1), (48, false, 1), (49, false, 1), (50, false, 1), (51, false, 1), (52, true, 3), (53, true, 3), (54, false, 1), (56, false, 1), (57, false, 1), (58, false, 1), (59, false, 1), (60, false, 1), (61, false, 1), (62, true, 4), (63, true, 4), (64, false, 1), (66, false, 1), (67, true, 2), (68, true, 2), (69, false, 1), (70, false, 1), (71, false, 1), (72, false, 1), (73, false, 1), (74, true, 2), (75, true, 2), (77, false, 1), (78, false, 1), (79, false, 1), (81, false, 1), (82, false, 1), (83, false, 1), (84, false, 1), (85, false, 1), (86, false, 1), (87, false, 1), (88, false, 1), (89, false, 1), (90, false, 1), (92, false, 1), (93, false, 1), (94, false, 1), (95, false, 1), (96, false, 1), (97, false, 1), (99, false, 1), (100, false, 1), (101, false, 1), (102, false, 1), (104, false, 1), (105, false, 1), (106, false, 1), (107, false, 1), (108, false, 1), (109, false, 1), (110, false, 1), (111, false, 1), (112, false, 1), (113, false, 1), (114, true, 256), (115, false, 1), (116, false, 1), (118, false, 1), (119, false, 1), (127, false, 1), (128, false, 1), (133, false, 1)]
  zeros := [(1, .nilFunc), (2, .int .i64 0), (3, .int .i64 0), (4, .bool false), (5, .int .u8 0), (9, .string ⟨#[]⟩), (12, .int .u64 0), (13, .agg #[.string ⟨#[]⟩, .int .u64 0]), (20, .nilIface), (21, .int .i32 0), (22, .slice none 0 0), (23, .slice none 0 0), (24, .pointer none), (25, .int .i64 0), (27, .nilFunc), (28, .slice none 0 0), (29, .nilFunc), (30, .slice none 0 0), (31, .agg #[.int .i64 0, .int .i64 0, .int .i64 0, .slice none 0 0, .slice none 0 0]), (32, .agg #[.int .i64 0, .int .i64 0, .int .i64 0, .slice none 0 0, .slice none 0 0]), (33, .nilFunc), (34, .nilFunc), (36, .nilFunc), (37, .nilFunc), (38, .pointer none), (39, .nilFunc), (40, .nilFunc), (41, .slice none 0 0), (42, .nilFunc), (43, .nilFunc), (44, .nilFunc), (45, .nilFunc), (46, .nilFunc), (47, .nilFunc), (48, .nilFunc), (49, .nilFunc), (50, .nilFunc), (51, .nilFunc), (52, .agg #[.slice none 0 0, .slice none 0 0, .slice none 0 0]), (53, .agg #[.slice none 0 0, .slice none 0 0, .slice none 0 0]), (54, .nilFunc), (56, .nilFunc), (57, .nilFunc), (58, .nilFunc), (59, .nilFunc), (60, .nilFunc), (61, .map none), (62, .agg #[.int .i64 0, .map none, .map none, .slice none 0 0]), (63, .agg #[.int .i64 0, .map none, .map none, .slice none 0 0]), (64, .nilFunc), (66, .nilFunc), (67, .agg #[.slice none 0 0, .int .i64 0]), (68, .agg #[.slice none 0 0, .int .i64 0]), (69, .nilFunc), (70, .nilFunc), (71, .nilFunc), (72, .nilFunc), (73, .nilFunc), (74, .agg #[.slice none 0 0, .int .i64 0]), (75, .agg #[.slice none 0 0, .int .i64 0]), (77, .nilFunc), (78, .nilFunc), (79, .nilFunc), (81, .nilFunc), (82, .nilFunc), (83, .nilFunc), (84, .nilFunc), (85, .nilFunc), (86, .nilFunc), (87, .int .u64 0), (88, .int .u32 0), (89, .nilFunc), (90, .nilFunc), (92, .nilFunc), (93, .nilFunc), (94, .nilFunc), (95, .nilFunc), (96, .nilFunc), (97, .int .i64 0), (99, .nilFunc), (100, .nilFunc), (101, .nilFunc), (102, .nilFunc), (104, .nilFunc), (105, .nilFunc), (106, .nilFunc), (107, .int .u64 0), (108, .int .u64 0), (109, .nilFunc), (110, .nilFunc), (111, .nilFunc), (112, .pointer none), (113, .nilFunc), (115, .nilFunc), (116, .pointer none), (118, .nilFunc), (119, .nilFunc), (127, .nilFunc), (128, .pointer none), (133, .pointer none)]
  sls := [(22, 32), (23, 4), (28, 30), (30, 5), (41, 3)]
  ars := [(114, 256, 88)]
  ints := [(2, .i64), (3, .i64), (5, .u8), (12, .u64), (21, .i32), (25, .i64), (87, .u64), (88, .u32), (97, .i64), (107, .u64), (108, .u64)]
  strs := [9]
  bools := [4]
  ptrs := [(24, 63), (38, 68), (112, 3), (116, 108), (128, 5)]
  flds := [(13, [(0, 1), (1, 1)]), (31, [(0, 1), (1, 1), (2, 1), (3, 1), (4, 1)]), (32, [(0, 1), (1, 1), (2, 1), (3, 1), (4, 1)]), (52, [(0, 1), (1, 1), (2, 1)]), (53, [(0, 1), (1, 1), (2, 1)]), (62, [(0, 1), (1, 1), (2, 1), (3, 1)]), (63, [(0, 1), (1, 1), (2, 1), (3, 1)]), (67, [(0, 1), (1, 1)]), (68, [(0, 1), (1, 1)]), (74, [(0, 1), (1, 1)]), (75, [(0, 1), (1, 1)])]
  infs := [(3, 1, 8), (4, 1, 1), (5, 1, 1), (30, 1, 24), (32, 5, 72)]
theorem tab_ok : TabOk Try.prog tab where
  offs := List.forall_mem_cons.2 ⟨fo_32_0, List.forall_mem_cons.2 ⟨fo_32_1, List.forall_mem_cons.2 ⟨fo_32_2, List.forall_mem_cons.2 ⟨fo_32_3, List.forall_mem_cons.2 ⟨fo_32_4, List.forall_mem_cons.2 ⟨fo_53_0, List.forall_mem_cons.2 ⟨fo_53_1, List.forall_mem_cons.2 ⟨fo_53_2, List.forall_mem_cons.2 ⟨fo_63_0, List.forall_mem_cons.2 ⟨fo_63_1, List.forall_mem_cons.2 ⟨fo_63_2, List.forall_mem_cons.2 ⟨fo_63_3, List.forall_mem_cons.2 ⟨fo_68_0, List.forall_mem_cons.2 ⟨fo_68_1, List.forall_mem_cons.2 ⟨fo_75_0, List.forall_mem_cons.2 ⟨fo_75_1, fun _ h => nomatch h⟩⟩⟩⟩⟩⟩⟩⟩⟩⟩⟩⟩⟩⟩⟩⟩
  tys := List.forall_mem_cons.2 ⟨ty_1, List.forall_mem_cons.2 ⟨ty_2, List.forall_mem_cons.2 ⟨ty_3, List.forall_mem_cons.2 ⟨ty_4, List.forall_mem_cons.2 ⟨ty_5, List.forall_mem_cons.2 ⟨ty_9, List.forall_mem_cons.2 ⟨ty_12, List.forall_mem_cons.2 ⟨ty_13, List.forall_mem_cons.2 ⟨ty_20, List.forall_mem_cons.2 ⟨ty_21, List.forall_mem_cons.2 ⟨ty_22, List.forall_mem_cons.2 ⟨ty_23, List.forall_mem_cons.2 ⟨ty_24, List.forall_mem_cons.2 ⟨ty_25, List.forall_mem_cons.2 ⟨ty_27, List.forall_mem_cons.2 ⟨ty_28, List.forall_mem_cons.2 ⟨ty_29, List.forall_mem_cons.2 ⟨ty_30, List.forall_mem_cons.2 ⟨ty_31, List.forall_mem_cons.2 ⟨ty_32, List.forall_mem_cons.2 ⟨ty_33, List.forall_mem_cons.2 ⟨ty_34, List.forall_mem_cons.2 ⟨ty_36, List.forall_mem_cons.2 ⟨ty_37, List.forall_mem_cons.2 ⟨ty_38, List.forall_mem_cons.2 ⟨ty_39, List.forall_mem_cons.2 ⟨ty_40, List.forall_mem_cons.2 ⟨ty_41, List.forall_mem_cons.2 ⟨ty_42, List.forall_mem_cons.2 ⟨ty_43, List.forall_mem_cons.2 ⟨ty_44, List.forall_mem_cons.2 ⟨ty_45, List.forall_mem_cons.2 ⟨ty_46, List.forall_mem_cons.2 ⟨ty_47, List.forall_mem_cons.2 ⟨ty_48, List.forall_mem_cons.2 ⟨ty_49, List.forall_mem_cons.2 ⟨ty_50, List.forall_mem_cons.2 ⟨ty_51, List.forall_mem_cons.2 ⟨ty_52, List.forall_mem_cons.2 ⟨ty_53, List.forall_mem_cons.2 ⟨ty_54, List.forall_mem_cons.2 ⟨ty_56, List.forall_mem_cons.2 ⟨ty_57, List.forall_mem_cons.2 ⟨ty_58, List.forall_mem_cons.2 ⟨ty_59, List.forall_mem_cons.2 ⟨ty_60, List.forall_mem_cons.2 ⟨ty_61, List.forall_mem_cons.2 ⟨ty_62, List.forall_mem_cons.2 ⟨ty_63, List.forall_mem_cons.2 ⟨ty_64, List.forall_mem_cons.2 ⟨ty_66, List.forall_mem_cons.2 ⟨ty_67, List.forall_mem_cons.2 ⟨ty_68, List.forall_mem_cons.2 ⟨ty_69, List.forall_mem_cons.2 ⟨ty_70, List.forall_mem_cons.2 ⟨ty_71, List.forall_mem_cons.2 ⟨ty_72, List.forall_mem_cons.2 ⟨ty_73, List.forall_mem_cons.2 ⟨ty_74, List.forall_mem_cons.2 ⟨ty_75, List.forall_mem_cons.2 ⟨ty_77, List.forall_mem_cons.2 ⟨ty_78, List.forall_mem_cons.2 ⟨ty_79, List.forall_mem_cons.2 ⟨ty_81, List.forall_mem_cons.2 ⟨ty_82, List.forall_mem_cons.2 ⟨ty_83, List.forall_mem_cons.2 ⟨ty_84, List.forall_mem_cons.2 ⟨ty_85, List.forall_mem_cons.2 ⟨ty_86, List.forall_mem_cons.2 ⟨ty_87, List.forall_mem_cons.2 ⟨ty_88, List.forall_mem_cons.2 ⟨ty_89, List.forall_mem_cons.2 ⟨ty_90, List.forall_mem_cons.2 ⟨ty_92, List.forall_mem_cons.2 ⟨ty_93, List.forall_mem_cons.2 ⟨ty_94, List.forall_mem_cons.2 ⟨ty_95, List.forall_mem_cons.2 ⟨ty_96, List.forall_mem_cons.2 ⟨ty_97, List.forall_mem_cons.2 ⟨ty_99, List.forall_mem_cons.2 ⟨ty_100, List.forall_mem_cons.2 ⟨ty_101, List.forall_mem_cons.2 ⟨ty_102, List.forall_mem_cons.2 ⟨ty_104, List.forall_mem_cons.2 ⟨ty_105, List.forall_mem_cons.2 ⟨ty_106, List.forall_mem_cons.2 ⟨ty_107, List.forall_mem_cons.2 ⟨ty_108, List.forall_mem_cons.2 ⟨ty_109, List.forall_mem_cons.2 ⟨ty_110, List.forall_mem_cons.2 ⟨ty_111, List.forall_mem_cons.2 ⟨ty_112, List.forall_mem_cons.2 ⟨ty_113, List.forall_mem_cons.2 ⟨ty_114, List.forall_mem_cons.2 ⟨ty_115, List.forall_mem_cons.2 ⟨ty_116, List.forall_mem_cons.2 ⟨ty_118, List.forall_mem_cons.2 ⟨ty_119, List.forall_mem_cons.2 ⟨ty_127, List.forall_mem_cons.2 ⟨ty_128, List.forall_mem_cons.2 ⟨ty_133, fun _ h => nomatch h⟩⟩⟩⟩⟩⟩⟩⟩⟩⟩⟩⟩⟩⟩⟩⟩⟩⟩⟩⟩⟩⟩⟩⟩⟩⟩⟩⟩⟩⟩⟩⟩⟩⟩⟩⟩⟩⟩⟩⟩⟩⟩⟩⟩⟩⟩⟩⟩⟩⟩⟩⟩⟩⟩⟩⟩⟩⟩⟩⟩⟩⟩⟩⟩⟩⟩⟩⟩⟩⟩⟩⟩⟩⟩⟩⟩⟩⟩⟩⟩⟩⟩⟩⟩⟩⟩⟩⟩⟩⟩⟩⟩⟩⟩⟩⟩⟩⟩⟩⟩⟩
  zeros := List.forall_mem_cons.2 ⟨ze_1, List.forall_mem_cons.2 ⟨ze_2, List.forall_mem_cons.2 ⟨ze_3, List.forall_mem_cons.2 ⟨ze_4, List.forall_mem_cons.2 ⟨ze_5, List.forall_mem_cons.2 ⟨ze_9, List.forall_mem_cons.2 ⟨ze_12, List.forall_mem_cons.2 ⟨ze_13, List.forall_mem_cons.2 ⟨ze_20, List.forall_mem_cons.2 ⟨ze_21, List.forall_mem_cons.2 ⟨ze_22, List.forall_mem_cons.2 ⟨ze_23, List.forall_mem_cons.2 ⟨ze_24, List.forall_mem_cons.2 ⟨ze_25, List.forall_mem_cons.2 ⟨ze_27, List.forall_mem_cons.2 ⟨ze_28, List.forall_mem_cons.2 ⟨ze_29, List.forall_mem_cons.2 ⟨ze_30, List.forall_mem_cons.2 ⟨ze_31, List.forall_mem_cons.2 ⟨ze_32, List.forall_mem_cons.2 ⟨ze_33, List.forall_mem_cons.2 ⟨ze_34, List.forall_mem_cons.2 ⟨ze_36, List.forall_mem_cons.2 ⟨ze_37, List.forall_mem_cons.2 ⟨ze_38, List.forall_mem_cons.2 ⟨ze_39, List.forall_mem_cons.2 ⟨ze_40, List.forall_mem_cons.2 ⟨ze_41, List.forall_mem_cons.2 ⟨ze_42, List.forall_mem_cons.2 ⟨ze_43, List.forall_mem_cons.2 ⟨ze_44, List.forall_mem_cons.2 ⟨ze_45, List.forall_mem_cons.2 ⟨ze_46, List.forall_mem_cons.2 ⟨ze_47, List.forall_mem_cons.2 ⟨ze_48, List.forall_mem_cons.2 ⟨ze_49, List.forall_mem_cons.2 ⟨ze_50, List.forall_mem_cons.2 ⟨ze_51, List.forall_mem_cons.2 ⟨ze_52, List.forall_mem_cons.2 ⟨ze_53, List.forall_mem_cons.2 ⟨ze_54, List.forall_mem_cons.2 ⟨ze_56, List.forall_mem_cons.2 ⟨ze_57, List.forall_mem_cons.2 ⟨ze_58, List.forall_mem_cons.2 ⟨ze_59, List.forall_mem_cons.2 ⟨ze_60, List.forall_mem_cons.2 ⟨ze_61, List.forall_mem_cons.2 ⟨ze_62, List.forall_mem_cons.2 ⟨ze_63, List.forall_mem_cons.2 ⟨ze_64, List.forall_mem_cons.2 ⟨ze_66, List.forall_mem_cons.2 ⟨ze_67, List.forall_mem_cons.2 ⟨ze_68, List.forall_mem_cons.2 ⟨ze_69, List.forall_mem_cons.2 ⟨ze_70, List.forall_mem_cons.2 ⟨ze_71, List.forall_mem_cons.2 ⟨ze_72, List.forall_mem_cons.2 ⟨ze_73, List.forall_mem_cons.2 ⟨ze_74, List.forall_mem_cons.2 ⟨ze_75, List.forall_mem_cons.2 ⟨ze_77, List.forall_mem_cons.2 ⟨ze_78, List.forall_mem_cons.2 ⟨ze_79, List.forall_mem_cons.2 ⟨ze_81, List.forall_mem_cons.2 ⟨ze_82, List.forall_mem_cons.2 ⟨ze_83, List.forall_mem_cons.2 ⟨ze_84, List.forall_mem_cons.2 ⟨ze_85, List.forall_mem_cons.2 ⟨ze_86, List.forall_mem_cons.2 ⟨ze_87, List.forall_mem_cons.2 ⟨ze_88, List.forall_mem_cons.2 ⟨ze_89, List.forall_mem_cons.2 ⟨ze_90, List.forall_mem_cons.2 ⟨ze_92, List.forall_mem_cons.2 ⟨ze_93, List.forall_mem_cons.2 ⟨ze_94, List.forall_mem_cons.2 ⟨ze_95, List.forall_mem_cons.2 ⟨ze_96, List.forall_mem_cons.2 ⟨ze_97, List.forall_mem_cons.2 ⟨ze_99, List.forall_mem_cons.2 ⟨ze_100, List.forall_mem_cons.2 ⟨ze_101, List.forall_mem_cons.2 ⟨ze_102, List.forall_mem_cons.2 ⟨ze_104, List.forall_mem_cons.2 ⟨ze_105, List.forall_mem_cons.2 ⟨ze_106, List.forall_mem_cons.2 ⟨ze_107, List.forall_mem_cons.2 ⟨ze_108, List.forall_mem_cons.2 ⟨ze_109, List.forall_mem_cons.2 ⟨ze_110, List.forall_mem_cons.2 ⟨ze_111, List.forall_mem_cons.2 ⟨ze_112, List.forall_mem_cons.2 ⟨ze_113, List.forall_mem_cons.2 ⟨ze_115, List.forall_mem_cons.2 ⟨ze_116, List.forall_mem_cons.2 ⟨ze_118, List.forall_mem_cons.2 ⟨ze_119, List.forall_mem_cons.2 ⟨ze_127, List.forall_mem_cons.2 ⟨ze_128, List.forall_mem_cons.2 ⟨ze_133, fun _ h => nomatch h⟩⟩⟩⟩⟩⟩⟩⟩⟩⟩⟩⟩⟩⟩⟩⟩⟩⟩⟩⟩⟩⟩⟩⟩⟩⟩⟩⟩⟩⟩⟩⟩⟩⟩⟩⟩⟩⟩⟩⟩⟩⟩⟩⟩⟩⟩⟩⟩⟩⟩⟩⟩⟩⟩⟩⟩⟩⟩⟩⟩⟩⟩⟩⟩⟩⟩⟩⟩⟩⟩⟩⟩⟩⟩⟩⟩⟩⟩⟩⟩⟩⟩⟩⟩⟩⟩⟩⟩⟩⟩⟩⟩⟩⟩⟩⟩⟩⟩⟩⟩
  sls := List.forall_mem_cons.2 ⟨Try.underlying22, List.forall_mem_cons.2 ⟨Try.underlying23, List.forall_mem_cons.2 ⟨Try.underlying28, List.forall_mem_cons.2 ⟨Try.underlying30, List.forall_mem_cons.2 ⟨Try.underlying41, fun _ h => nomatch h⟩⟩⟩⟩⟩
  ars := List.forall_mem_cons.2 ⟨Try.underlying114, fun _ h => nomatch h⟩
  ints := List.forall_mem_cons.2 ⟨Try.underlying2, List.forall_mem_cons.2 ⟨Try.underlying3, List.forall_mem_cons.2 ⟨Try.underlying5, List.forall_mem_cons.2 ⟨Try.underlying12, List.forall_mem_cons.2 ⟨Try.underlying21, List.forall_mem_cons.2 ⟨Try.underlying25, List.forall_mem_cons.2 ⟨Try.underlying87, List.forall_mem_cons.2 ⟨Try.underlying88, List.forall_mem_cons.2 ⟨Try.underlying97, List.forall_mem_cons.2 ⟨Try.underlying107, List.forall_mem_cons.2 ⟨Try.underlying108, fun _ h => nomatch h⟩⟩⟩⟩⟩⟩⟩⟩⟩⟩⟩
  strs := List.forall_mem_cons.2 ⟨Try.underlying9, fun _ h => nomatch h⟩
  bools := List.forall_mem_cons.2 ⟨Try.underlying4, fun _ h => nomatch h⟩
  ptrs := List.forall_mem_cons.2 ⟨Try.underlying24, List.forall_mem_cons.2 ⟨Try.underlying38, List.forall_mem_cons.2 ⟨Try.underlying112, List.forall_mem_cons.2 ⟨Try.underlying116, List.forall_mem_cons.2 ⟨Try.underlying128, fun _ h => nomatch h⟩⟩⟩⟩⟩
  flds := List.forall_mem_cons.2 ⟨fl_13, List.forall_mem_cons.2 ⟨fl_31, List.forall_mem_cons.2 ⟨fl_32, List.forall_mem_cons.2 ⟨fl_52, List.forall_mem_cons.2 ⟨fl_53, List.forall_mem_cons.2 ⟨fl_62, List.forall_mem_cons.2 ⟨fl_63, List.forall_mem_cons.2 ⟨fl_67, List.forall_mem_cons.2 ⟨fl_68, List.forall_mem_cons.2 ⟨fl_74, List.forall_mem_cons.2 ⟨fl_75, fun _ h => nomatch h⟩⟩⟩⟩⟩⟩⟩⟩⟩⟩⟩
  infs := List.forall_mem_cons.2 ⟨in_3, List.forall_mem_cons.2 ⟨in_4, List.forall_mem_cons.2 ⟨in_5, List.forall_mem_cons.2 ⟨in_30, List.forall_mem_cons.2 ⟨in_32, fun _ h => nomatch h⟩⟩⟩⟩⟩
theorem follows : Try.prog.follows .mixedOrders = true := by kernel_rfl
end Go.Proofs.Ytpimbaphenignaa
