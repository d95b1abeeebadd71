/-
  What the types of this seat are, as the walks ask it.
-/
import Derived.Test.YtgipjpiiomgjjaaProg
import Derived.KernelRfl
import Derived.Test.YtgipjpiiomgjjaaSr
namespace Go.Proofs.Ytgipjpiiomgjjaa
open Go Go.Sl
set_option maxRecDepth 20000
theorem fo_25_0 : FieldAt Try.prog (25, 0, 0) := by intro b o w; simp [Instr.fieldAt, Instr.sureAddr, fieldPlace, Go.Sl.Addr.add_none']
theorem fo_25_1 : FieldAt Try.prog (25, 1, 1) := by intro b o w; simp [Instr.fieldAt, Instr.sureAddr, fieldPlace, Go.Sl.Addr.add_none']
theorem fo_25_2 : FieldAt Try.prog (25, 2, 2) := by intro b o w; simp [Instr.fieldAt, Instr.sureAddr, fieldPlace, Go.Sl.Addr.add_none']
theorem fo_25_3 : FieldAt Try.prog (25, 3, 3) := by intro b o w; simp [Instr.fieldAt, Instr.sureAddr, fieldPlace, Go.Sl.Addr.add_none']
theorem fo_25_4 : FieldAt Try.prog (25, 4, 4) := by intro b o w; simp [Instr.fieldAt, Instr.sureAddr, fieldPlace, Go.Sl.Addr.add_none']
theorem fo_33_0 : FieldAt Try.prog (33, 0, 0) := by intro b o w; simp [Instr.fieldAt, Instr.sureAddr, fieldPlace, Go.Sl.Addr.add_none']
theorem fo_33_1 : FieldAt Try.prog (33, 1, 1) := by intro b o w; simp [Instr.fieldAt, Instr.sureAddr, fieldPlace, Go.Sl.Addr.add_none']
theorem fo_36_0 : FieldAt Try.prog (36, 0, 0) := by intro b o w; simp [Instr.fieldAt, Instr.sureAddr, fieldPlace, Go.Sl.Addr.add_none']
theorem fo_36_1 : FieldAt Try.prog (36, 1, 2) := by intro b o w; simp [Instr.fieldAt, Instr.sureAddr, fieldPlace, Go.Sl.Addr.add_none']
theorem fo_36_2 : FieldAt Try.prog (36, 2, 3) := by intro b o w; simp [Instr.fieldAt, Instr.sureAddr, fieldPlace, Go.Sl.Addr.add_none']
theorem fo_36_3 : FieldAt Try.prog (36, 3, 4) := by intro b o w; simp [Instr.fieldAt, Instr.sureAddr, fieldPlace, Go.Sl.Addr.add_none']
theorem fo_36_4 : FieldAt Try.prog (36, 4, 5) := by intro b o w; simp [Instr.fieldAt, Instr.sureAddr, fieldPlace, Go.Sl.Addr.add_none']
theorem fo_36_5 : FieldAt Try.prog (36, 5, 6) := by intro b o w; simp [Instr.fieldAt, Instr.sureAddr, fieldPlace, Go.Sl.Addr.add_none']
theorem fo_40_0 : FieldAt Try.prog (40, 0, 0) := by intro b o w; simp [Instr.fieldAt, Instr.sureAddr, fieldPlace, Go.Sl.Addr.add_none']
theorem fo_40_1 : FieldAt Try.prog (40, 1, 1) := by intro b o w; simp [Instr.fieldAt, Instr.sureAddr, fieldPlace, Go.Sl.Addr.add_none']
theorem fo_40_2 : FieldAt Try.prog (40, 2, 2) := by intro b o w; simp [Instr.fieldAt, Instr.sureAddr, fieldPlace, Go.Sl.Addr.add_none']
theorem fo_43_0 : FieldAt Try.prog (43, 0, 0) := by intro b o w; simp [Instr.fieldAt, Instr.sureAddr, fieldPlace, Go.Sl.Addr.add_none']
theorem fo_43_1 : FieldAt Try.prog (43, 1, 1) := by intro b o w; simp [Instr.fieldAt, Instr.sureAddr, fieldPlace, Go.Sl.Addr.add_none']
theorem fo_43_2 : FieldAt Try.prog (43, 2, 2) := by intro b o w; simp [Instr.fieldAt, Instr.sureAddr, fieldPlace, Go.Sl.Addr.add_none']
theorem fo_43_3 : FieldAt Try.prog (43, 3, 3) := by intro b o w; simp [Instr.fieldAt, Instr.sureAddr, fieldPlace, Go.Sl.Addr.add_none']
theorem fo_43_4 : FieldAt Try.prog (43, 4, 4) := by intro b o w; simp [Instr.fieldAt, Instr.sureAddr, fieldPlace, Go.Sl.Addr.add_none']
theorem fo_43_5 : FieldAt Try.prog (43, 5, 5) := by intro b o w; simp [Instr.fieldAt, Instr.sureAddr, fieldPlace, Go.Sl.Addr.add_none']
theorem fo_48_2 : FieldAt Try.prog (48, 2, 2) := by intro b o w; simp [Instr.fieldAt, Instr.sureAddr, fieldPlace, Go.Sl.Addr.add_none']
theorem fo_48_5 : FieldAt Try.prog (48, 5, 5) := by intro b o w; simp [Instr.fieldAt, Instr.sureAddr, fieldPlace, Go.Sl.Addr.add_none']
theorem fo_50_0 : FieldAt Try.prog (50, 0, 0) := by intro b o w; simp [Instr.fieldAt, Instr.sureAddr, fieldPlace, Go.Sl.Addr.add_none']
theorem fo_50_1 : FieldAt Try.prog (50, 1, 1) := by intro b o w; simp [Instr.fieldAt, Instr.sureAddr, fieldPlace, Go.Sl.Addr.add_none']
theorem fo_50_2 : FieldAt Try.prog (50, 2, 2) := by intro b o w; simp [Instr.fieldAt, Instr.sureAddr, fieldPlace, Go.Sl.Addr.add_none']
theorem fo_50_3 : FieldAt Try.prog (50, 3, 3) := by intro b o w; simp [Instr.fieldAt, Instr.sureAddr, fieldPlace, Go.Sl.Addr.add_none']
theorem fo_50_4 : FieldAt Try.prog (50, 4, 4) := by intro b o w; simp [Instr.fieldAt, Instr.sureAddr, fieldPlace, Go.Sl.Addr.add_none']
theorem fo_50_5 : FieldAt Try.prog (50, 5, 5) := by intro b o w; simp [Instr.fieldAt, Instr.sureAddr, fieldPlace, Go.Sl.Addr.add_none']
theorem fo_52_0 : FieldAt Try.prog (52, 0, 0) := by intro b o w; simp [Instr.fieldAt, Instr.sureAddr, fieldPlace, Go.Sl.Addr.add_none']
theorem fo_52_1 : FieldAt Try.prog (52, 1, 1) := by intro b o w; simp [Instr.fieldAt, Instr.sureAddr, fieldPlace, Go.Sl.Addr.add_none']
theorem fo_52_2 : FieldAt Try.prog (52, 2, 12) := by intro b o w; simp [Instr.fieldAt, Instr.sureAddr, fieldPlace, Go.Sl.Addr.add_none']
theorem fo_55_0 : FieldAt Try.prog (55, 0, 0) := by intro b o w; simp [Instr.fieldAt, Instr.sureAddr, fieldPlace, Go.Sl.Addr.add_none']
theorem fo_55_1 : FieldAt Try.prog (55, 1, 1) := by intro b o w; simp [Instr.fieldAt, Instr.sureAddr, fieldPlace, Go.Sl.Addr.add_none']
theorem fo_55_2 : FieldAt Try.prog (55, 2, 2) := by intro b o w; simp [Instr.fieldAt, Instr.sureAddr, fieldPlace, Go.Sl.Addr.add_none']
theorem fo_55_3 : FieldAt Try.prog (55, 3, 3) := by intro b o w; simp [Instr.fieldAt, Instr.sureAddr, fieldPlace, Go.Sl.Addr.add_none']
theorem fo_58_0 : FieldAt Try.prog (58, 0, 0) := by intro b o w; simp [Instr.fieldAt, Instr.sureAddr, fieldPlace, Go.Sl.Addr.add_none']
theorem fo_58_1 : FieldAt Try.prog (58, 1, 4) := by intro b o w; simp [Instr.fieldAt, Instr.sureAddr, fieldPlace, Go.Sl.Addr.add_none']
theorem fo_58_2 : FieldAt Try.prog (58, 2, 5) := by intro b o w; simp [Instr.fieldAt, Instr.sureAddr, fieldPlace, Go.Sl.Addr.add_none']
theorem fo_77_0 : FieldAt Try.prog (77, 0, 0) := by intro b o w; simp [Instr.fieldAt, Instr.sureAddr, fieldPlace, Go.Sl.Addr.add_none']
theorem fo_77_1 : FieldAt Try.prog (77, 1, 1) := by intro b o w; simp [Instr.fieldAt, Instr.sureAddr, fieldPlace, Go.Sl.Addr.add_none']
theorem fo_77_2 : FieldAt Try.prog (77, 2, 2) := by intro b o w; simp [Instr.fieldAt, Instr.sureAddr, fieldPlace, Go.Sl.Addr.add_none']
theorem fo_77_3 : FieldAt Try.prog (77, 3, 3) := by intro b o w; simp [Instr.fieldAt, Instr.sureAddr, fieldPlace, Go.Sl.Addr.add_none']
theorem fo_77_4 : FieldAt Try.prog (77, 4, 4) := by intro b o w; simp [Instr.fieldAt, Instr.sureAddr, fieldPlace, Go.Sl.Addr.add_none']
theorem fo_83_0 : FieldAt Try.prog (83, 0, 0) := by intro b o w; simp [Instr.fieldAt, Instr.sureAddr, fieldPlace, Go.Sl.Addr.add_none']
theorem fo_83_1 : FieldAt Try.prog (83, 1, 1) := by intro b o w; simp [Instr.fieldAt, Instr.sureAddr, fieldPlace, Go.Sl.Addr.add_none']
theorem fo_83_2 : FieldAt Try.prog (83, 2, 2) := by intro b o w; simp [Instr.fieldAt, Instr.sureAddr, fieldPlace, Go.Sl.Addr.add_none']
theorem fo_88_0 : FieldAt Try.prog (88, 0, 0) := by intro b o w; simp [Instr.fieldAt, Instr.sureAddr, fieldPlace, Go.Sl.Addr.add_none']
theorem fo_88_1 : FieldAt Try.prog (88, 1, 1) := by intro b o w; simp [Instr.fieldAt, Instr.sureAddr, fieldPlace, Go.Sl.Addr.add_none']
theorem fo_88_2 : FieldAt Try.prog (88, 2, 2) := by intro b o w; simp [Instr.fieldAt, Instr.sureAddr, fieldPlace, Go.Sl.Addr.add_none']
theorem fo_88_3 : FieldAt Try.prog (88, 3, 3) := by intro b o w; simp [Instr.fieldAt, Instr.sureAddr, fieldPlace, Go.Sl.Addr.add_none']
theorem fo_88_4 : FieldAt Try.prog (88, 4, 4) := by intro b o w; simp [Instr.fieldAt, Instr.sureAddr, fieldPlace, Go.Sl.Addr.add_none']
theorem fo_88_5 : FieldAt Try.prog (88, 5, 5) := by intro b o w; simp [Instr.fieldAt, Instr.sureAddr, fieldPlace, Go.Sl.Addr.add_none']
theorem fo_97_0 : FieldAt Try.prog (97, 0, 0) := by intro b o w; simp [Instr.fieldAt, Instr.sureAddr, fieldPlace, Go.Sl.Addr.add_none']
theorem fo_97_1 : FieldAt Try.prog (97, 1, 1) := by intro b o w; simp [Instr.fieldAt, Instr.sureAddr, fieldPlace, Go.Sl.Addr.add_none']
theorem fo_97_2 : FieldAt Try.prog (97, 2, 2) := by intro b o w; simp [Instr.fieldAt, Instr.sureAddr, fieldPlace, Go.Sl.Addr.add_none']
theorem fo_102_0 : FieldAt Try.prog (102, 0, 0) := by intro b o w; simp [Instr.fieldAt, Instr.sureAddr, fieldPlace, Go.Sl.Addr.add_none']
theorem fo_102_1 : FieldAt Try.prog (102, 1, 1) := by intro b o w; simp [Instr.fieldAt, Instr.sureAddr, fieldPlace, Go.Sl.Addr.add_none']
theorem fo_102_2 : FieldAt Try.prog (102, 2, 2) := by intro b o w; simp [Instr.fieldAt, Instr.sureAddr, fieldPlace, Go.Sl.Addr.add_none']
theorem fo_146_0 : FieldAt Try.prog (146, 0, 0) := by intro b o w; simp [Instr.fieldAt, Instr.sureAddr, fieldPlace, Go.Sl.Addr.add_none']
theorem fo_146_1 : FieldAt Try.prog (146, 1, 1) := by intro b o w; simp [Instr.fieldAt, Instr.sureAddr, fieldPlace, Go.Sl.Addr.add_none']
theorem fo_146_2 : FieldAt Try.prog (146, 2, 2) := by intro b o w; simp [Instr.fieldAt, Instr.sureAddr, fieldPlace, Go.Sl.Addr.add_none']
theorem fo_146_3 : FieldAt Try.prog (146, 3, 3) := by intro b o w; simp [Instr.fieldAt, Instr.sureAddr, fieldPlace, Go.Sl.Addr.add_none']
theorem fo_149_0 : FieldAt Try.prog (149, 0, 0) := by intro b o w; simp [Instr.fieldAt, Instr.sureAddr, fieldPlace, Go.Sl.Addr.add_none']
theorem fo_149_2 : FieldAt Try.prog (149, 2, 2) := by intro b o w; simp [Instr.fieldAt, Instr.sureAddr, fieldPlace, Go.Sl.Addr.add_none']
theorem fo_149_3 : FieldAt Try.prog (149, 3, 3) := by intro b o w; simp [Instr.fieldAt, Instr.sureAddr, fieldPlace, Go.Sl.Addr.add_none']
theorem ty_1 : IsAgg Try.prog 1 false ∧ SizeOf Try.prog 1 1 := ⟨Try.isAgg1, Try.sizeOf1⟩
theorem ty_2 : IsAgg Try.prog 2 false ∧ SizeOf Try.prog 2 1 := ⟨Try.isAgg2, Try.sizeOf2⟩
theorem ty_3 : IsAgg Try.prog 3 false ∧ SizeOf Try.prog 3 1 := ⟨Try.isAgg3, Try.sizeOf3⟩
theorem ty_4 : IsAgg Try.prog 4 false ∧ SizeOf Try.prog 4 1 := ⟨Try.isAgg4, Try.sizeOf4⟩
theorem ty_5 : IsAgg Try.prog 5 false ∧ SizeOf Try.prog 5 1 := ⟨Try.isAgg5, Try.sizeOf5⟩
theorem ty_9 : IsAgg Try.prog 9 false ∧ SizeOf Try.prog 9 1 := ⟨Try.isAgg9, Try.sizeOf9⟩
theorem ty_12 : IsAgg Try.prog 12 false ∧ SizeOf Try.prog 12 1 := ⟨Try.isAgg12, Try.sizeOf12⟩
theorem ty_13 : IsAgg Try.prog 13 true ∧ SizeOf Try.prog 13 2 := ⟨Try.isAgg13, Try.sizeOf13⟩
theorem ty_20 : IsAgg Try.prog 20 false ∧ SizeOf Try.prog 20 1 := ⟨Try.isAgg20, Try.sizeOf20⟩
theorem ty_21 : IsAgg Try.prog 21 false ∧ SizeOf Try.prog 21 1 := ⟨Try.isAgg21, Try.sizeOf21⟩
theorem ty_22 : IsAgg Try.prog 22 false ∧ SizeOf Try.prog 22 1 := ⟨Try.isAgg22, Try.sizeOf22⟩
theorem ty_23 : IsAgg Try.prog 23 false ∧ SizeOf Try.prog 23 1 := ⟨Try.isAgg23, Try.sizeOf23⟩
theorem ty_24 : IsAgg Try.prog 24 true ∧ SizeOf Try.prog 24 5 := ⟨Try.isAgg24, Try.sizeOf24⟩
theorem ty_25 : IsAgg Try.prog 25 true ∧ SizeOf Try.prog 25 5 := ⟨Try.isAgg25, Try.sizeOf25⟩
theorem ty_26 : IsAgg Try.prog 26 false ∧ SizeOf Try.prog 26 1 := ⟨Try.isAgg26, Try.sizeOf26⟩
theorem ty_27 : IsAgg Try.prog 27 false ∧ SizeOf Try.prog 27 1 := ⟨Try.isAgg27, Try.sizeOf27⟩
theorem ty_28 : IsAgg Try.prog 28 false ∧ SizeOf Try.prog 28 1 := ⟨Try.isAgg28, Try.sizeOf28⟩
theorem ty_29 : IsAgg Try.prog 29 false ∧ SizeOf Try.prog 29 1 := ⟨Try.isAgg29, Try.sizeOf29⟩
theorem ty_30 : IsAgg Try.prog 30 false ∧ SizeOf Try.prog 30 1 := ⟨Try.isAgg30, Try.sizeOf30⟩
theorem ty_31 : IsAgg Try.prog 31 false ∧ SizeOf Try.prog 31 1 := ⟨Try.isAgg31, Try.sizeOf31⟩
theorem ty_32 : IsAgg Try.prog 32 true ∧ SizeOf Try.prog 32 2 := ⟨Try.isAgg32, Try.sizeOf32⟩
theorem ty_33 : IsAgg Try.prog 33 true ∧ SizeOf Try.prog 33 2 := ⟨Try.isAgg33, Try.sizeOf33⟩
theorem ty_34 : IsAgg Try.prog 34 false ∧ SizeOf Try.prog 34 1 := ⟨Try.isAgg34, Try.sizeOf34⟩
theorem ty_35 : IsAgg Try.prog 35 true ∧ SizeOf Try.prog 35 7 := ⟨Try.isAgg35, Try.sizeOf35⟩
theorem ty_36 : IsAgg Try.prog 36 true ∧ SizeOf Try.prog 36 7 := ⟨Try.isAgg36, Try.sizeOf36⟩
theorem ty_37 : IsAgg Try.prog 37 false ∧ SizeOf Try.prog 37 1 := ⟨Try.isAgg37, Try.sizeOf37⟩
theorem ty_38 : IsAgg Try.prog 38 false ∧ SizeOf Try.prog 38 1 := ⟨Try.isAgg38, Try.sizeOf38⟩
theorem ty_39 : IsAgg Try.prog 39 true ∧ SizeOf Try.prog 39 9 := ⟨Try.isAgg39, Try.sizeOf39⟩
theorem ty_40 : IsAgg Try.prog 40 true ∧ SizeOf Try.prog 40 9 := ⟨Try.isAgg40, Try.sizeOf40⟩
theorem ty_41 : IsAgg Try.prog 41 false ∧ SizeOf Try.prog 41 1 := ⟨Try.isAgg41, Try.sizeOf41⟩
theorem ty_42 : IsAgg Try.prog 42 true ∧ SizeOf Try.prog 42 6 := ⟨Try.isAgg42, Try.sizeOf42⟩
theorem ty_43 : IsAgg Try.prog 43 true ∧ SizeOf Try.prog 43 6 := ⟨Try.isAgg43, Try.sizeOf43⟩
theorem ty_44 : IsAgg Try.prog 44 false ∧ SizeOf Try.prog 44 1 := ⟨Try.isAgg44, Try.sizeOf44⟩
theorem ty_45 : IsAgg Try.prog 45 false ∧ SizeOf Try.prog 45 1 := ⟨Try.isAgg45, Try.sizeOf45⟩
theorem ty_46 : IsAgg Try.prog 46 false ∧ SizeOf Try.prog 46 1 := ⟨Try.isAgg46, Try.sizeOf46⟩
theorem ty_47 : IsAgg Try.prog 47 true ∧ SizeOf Try.prog 47 6 := ⟨Try.isAgg47, Try.sizeOf47⟩
theorem ty_48 : IsAgg Try.prog 48 true ∧ SizeOf Try.prog 48 6 := ⟨Try.isAgg48, Try.sizeOf48⟩
theorem ty_49 : IsAgg Try.prog 49 true ∧ SizeOf Try.prog 49 11 := ⟨Try.isAgg49, Try.sizeOf49⟩
theorem ty_50 : IsAgg Try.prog 50 true ∧ SizeOf Try.prog 50 11 := ⟨Try.isAgg50, Try.sizeOf50⟩
theorem ty_51 : IsAgg Try.prog 51 true ∧ SizeOf Try.prog 51 18 := ⟨Try.isAgg51, Try.sizeOf51⟩
theorem ty_52 : IsAgg Try.prog 52 true ∧ SizeOf Try.prog 52 18 := ⟨Try.isAgg52, Try.sizeOf52⟩
theorem ty_53 : IsAgg Try.prog 53 false ∧ SizeOf Try.prog 53 1 := ⟨Try.isAgg53, Try.sizeOf53⟩
theorem ty_54 : IsAgg Try.prog 54 true ∧ SizeOf Try.prog 54 4 := ⟨Try.isAgg54, Try.sizeOf54⟩
theorem ty_55 : IsAgg Try.prog 55 true ∧ SizeOf Try.prog 55 4 := ⟨Try.isAgg55, Try.sizeOf55⟩
theorem ty_56 : IsAgg Try.prog 56 true ∧ SizeOf Try.prog 56 32 := ⟨Try.isAgg56, Try.sizeOf56⟩
theorem ty_57 : IsAgg Try.prog 57 true ∧ SizeOf Try.prog 57 37 := ⟨Try.isAgg57, Try.sizeOf57⟩
theorem ty_58 : IsAgg Try.prog 58 true ∧ SizeOf Try.prog 58 37 := ⟨Try.isAgg58, Try.sizeOf58⟩
theorem ty_59 : IsAgg Try.prog 59 false ∧ SizeOf Try.prog 59 1 := ⟨Try.isAgg59, Try.sizeOf59⟩
theorem ty_60 : IsAgg Try.prog 60 false ∧ SizeOf Try.prog 60 1 := ⟨Try.isAgg60, Try.sizeOf60⟩
theorem ty_61 : IsAgg Try.prog 61 false ∧ SizeOf Try.prog 61 1 := ⟨Try.isAgg61, Try.sizeOf61⟩
theorem ty_62 : IsAgg Try.prog 62 false ∧ SizeOf Try.prog 62 1 := ⟨Try.isAgg62, Try.sizeOf62⟩
theorem ty_63 : IsAgg Try.prog 63 false ∧ SizeOf Try.prog 63 1 := ⟨Try.isAgg63, Try.sizeOf63⟩
theorem ty_64 : IsAgg Try.prog 64 false ∧ SizeOf Try.prog 64 1 := ⟨Try.isAgg64, Try.sizeOf64⟩
theorem ty_65 : IsAgg Try.prog 65 false ∧ SizeOf Try.prog 65 1 := ⟨Try.isAgg65, Try.sizeOf65⟩
theorem ty_66 : IsAgg Try.prog 66 false ∧ SizeOf Try.prog 66 1 := ⟨Try.isAgg66, Try.sizeOf66⟩
theorem ty_67 : IsAgg Try.prog 67 false ∧ SizeOf Try.prog 67 1 := ⟨Try.isAgg67, Try.sizeOf67⟩
theorem ty_68 : IsAgg Try.prog 68 false ∧ SizeOf Try.prog 68 1 := ⟨Try.isAgg68, Try.sizeOf68⟩
theorem ty_69 : IsAgg Try.prog 69 false ∧ SizeOf Try.prog 69 1 := ⟨Try.isAgg69, Try.sizeOf69⟩
theorem ty_70 : IsAgg Try.prog 70 false ∧ SizeOf Try.prog 70 1 := ⟨Try.isAgg70, Try.sizeOf70⟩
theorem ty_71 : IsAgg Try.prog 71 false ∧ SizeOf Try.prog 71 1 := ⟨Try.isAgg71, Try.sizeOf71⟩
theorem ty_73 : IsAgg Try.prog 73 false ∧ SizeOf Try.prog 73 1 := ⟨Try.isAgg73, Try.sizeOf73⟩
theorem ty_74 : IsAgg Try.prog 74 false ∧ SizeOf Try.prog 74 1 := ⟨Try.isAgg74, Try.sizeOf74⟩
theorem ty_75 : IsAgg Try.prog 75 false ∧ SizeOf Try.prog 75 1 := ⟨Try.isAgg75, Try.sizeOf75⟩
theorem ty_76 : IsAgg Try.prog 76 true ∧ SizeOf Try.prog 76 10 := ⟨Try.isAgg76, Try.sizeOf76⟩
theorem ty_77 : IsAgg Try.prog 77 true ∧ SizeOf Try.prog 77 10 := ⟨Try.isAgg77, Try.sizeOf77⟩
theorem ty_79 : IsAgg Try.prog 79 false ∧ SizeOf Try.prog 79 1 := ⟨Try.isAgg79, Try.sizeOf79⟩
theorem ty_80 : IsAgg Try.prog 80 false ∧ SizeOf Try.prog 80 1 := ⟨Try.isAgg80, Try.sizeOf80⟩
theorem ty_81 : IsAgg Try.prog 81 false ∧ SizeOf Try.prog 81 1 := ⟨Try.isAgg81, Try.sizeOf81⟩
theorem ty_82 : IsAgg Try.prog 82 true ∧ SizeOf Try.prog 82 3 := ⟨Try.isAgg82, Try.sizeOf82⟩
theorem ty_83 : IsAgg Try.prog 83 true ∧ SizeOf Try.prog 83 3 := ⟨Try.isAgg83, Try.sizeOf83⟩
theorem ty_85 : IsAgg Try.prog 85 false ∧ SizeOf Try.prog 85 1 := ⟨Try.isAgg85, Try.sizeOf85⟩
theorem ty_86 : IsAgg Try.prog 86 false ∧ SizeOf Try.prog 86 1 := ⟨Try.isAgg86, Try.sizeOf86⟩
theorem ty_87 : IsAgg Try.prog 87 true ∧ SizeOf Try.prog 87 6 := ⟨Try.isAgg87, Try.sizeOf87⟩
theorem ty_88 : IsAgg Try.prog 88 true ∧ SizeOf Try.prog 88 6 := ⟨Try.isAgg88, Try.sizeOf88⟩
theorem ty_89 : IsAgg Try.prog 89 false ∧ SizeOf Try.prog 89 1 := ⟨Try.isAgg89, Try.sizeOf89⟩
theorem ty_90 : IsAgg Try.prog 90 false ∧ SizeOf Try.prog 90 1 := ⟨Try.isAgg90, Try.sizeOf90⟩
theorem ty_91 : IsAgg Try.prog 91 false ∧ SizeOf Try.prog 91 1 := ⟨Try.isAgg91, Try.sizeOf91⟩
theorem ty_92 : IsAgg Try.prog 92 false ∧ SizeOf Try.prog 92 1 := ⟨Try.isAgg92, Try.sizeOf92⟩
theorem ty_93 : IsAgg Try.prog 93 false ∧ SizeOf Try.prog 93 1 := ⟨Try.isAgg93, Try.sizeOf93⟩
theorem ty_94 : IsAgg Try.prog 94 false ∧ SizeOf Try.prog 94 1 := ⟨Try.isAgg94, Try.sizeOf94⟩
theorem ty_95 : IsAgg Try.prog 95 false ∧ SizeOf Try.prog 95 1 := ⟨Try.isAgg95, Try.sizeOf95⟩
theorem ty_96 : IsAgg Try.prog 96 true ∧ SizeOf Try.prog 96 3 := ⟨Try.isAgg96, Try.sizeOf96⟩
theorem ty_97 : IsAgg Try.prog 97 true ∧ SizeOf Try.prog 97 3 := ⟨Try.isAgg97, Try.sizeOf97⟩
theorem ty_98 : IsAgg Try.prog 98 false ∧ SizeOf Try.prog 98 1 := ⟨Try.isAgg98, Try.sizeOf98⟩
theorem ty_99 : IsAgg Try.prog 99 false ∧ SizeOf Try.prog 99 1 := ⟨Try.isAgg99, Try.sizeOf99⟩
theorem ty_100 : IsAgg Try.prog 100 false ∧ SizeOf Try.prog 100 1 := ⟨Try.isAgg100, Try.sizeOf100⟩
theorem ty_101 : IsAgg Try.prog 101 false ∧ SizeOf Try.prog 101 1 := ⟨Try.isAgg101, Try.sizeOf101⟩
theorem ty_102 : IsAgg Try.prog 102 true ∧ SizeOf Try.prog 102 3 := ⟨Try.isAgg102, Try.sizeOf102⟩
theorem ty_103 : IsAgg Try.prog 103 false ∧ SizeOf Try.prog 103 1 := ⟨Try.isAgg103, Try.sizeOf103⟩
theorem ty_104 : IsAgg Try.prog 104 false ∧ SizeOf Try.prog 104 1 := ⟨Try.isAgg104, Try.sizeOf104⟩
theorem ty_105 : IsAgg Try.prog 105 false ∧ SizeOf Try.prog 105 1 := ⟨Try.isAgg105, Try.sizeOf105⟩
theorem ty_106 : IsAgg Try.prog 106 false ∧ SizeOf Try.prog 106 1 := ⟨Try.isAgg106, Try.sizeOf106⟩
theorem ty_108 : IsAgg Try.prog 108 false ∧ SizeOf Try.prog 108 1 := ⟨Try.isAgg108, Try.sizeOf108⟩
theorem ty_109 : IsAgg Try.prog 109 false ∧ SizeOf Try.prog 109 1 := ⟨Try.isAgg109, Try.sizeOf109⟩
theorem ty_111 : IsAgg Try.prog 111 false ∧ SizeOf Try.prog 111 1 := ⟨Try.isAgg111, Try.sizeOf111⟩
theorem ty_112 : IsAgg Try.prog 112 false ∧ SizeOf Try.prog 112 1 := ⟨Try.isAgg112, Try.sizeOf112⟩
theorem ty_113 : IsAgg Try.prog 113 false ∧ SizeOf Try.prog 113 1 := ⟨Try.isAgg113, Try.sizeOf113⟩
theorem ty_115 : IsAgg Try.prog 115 false ∧ SizeOf Try.prog 115 1 := ⟨Try.isAgg115, Try.sizeOf115⟩
theorem ty_116 : IsAgg Try.prog 116 false ∧ SizeOf Try.prog 116 1 := ⟨Try.isAgg116, Try.sizeOf116⟩
theorem ty_117 : IsAgg Try.prog 117 false ∧ SizeOf Try.prog 117 1 := ⟨Try.isAgg117, Try.sizeOf117⟩
theorem ty_118 : IsAgg Try.prog 118 false ∧ SizeOf Try.prog 118 1 := ⟨Try.isAgg118, Try.sizeOf118⟩
theorem ty_119 : IsAgg Try.prog 119 false ∧ SizeOf Try.prog 119 1 := ⟨Try.isAgg119, Try.sizeOf119⟩
theorem ty_120 : IsAgg Try.prog 120 false ∧ SizeOf Try.prog 120 1 := ⟨Try.isAgg120, Try.sizeOf120⟩
theorem ty_122 : IsAgg Try.prog 122 false ∧ SizeOf Try.prog 122 1 := ⟨Try.isAgg122, Try.sizeOf122⟩
theorem ty_123 : IsAgg Try.prog 123 false ∧ SizeOf Try.prog 123 1 := ⟨Try.isAgg123, Try.sizeOf123⟩
theorem ty_124 : IsAgg Try.prog 124 false ∧ SizeOf Try.prog 124 1 := ⟨Try.isAgg124, Try.sizeOf124⟩
theorem ty_125 : IsAgg Try.prog 125 false ∧ SizeOf Try.prog 125 1 := ⟨Try.isAgg125, Try.sizeOf125⟩
theorem ty_127 : IsAgg Try.prog 127 false ∧ SizeOf Try.prog 127 1 := ⟨Try.isAgg127, Try.sizeOf127⟩
theorem ty_129 : IsAgg Try.prog 129 false ∧ SizeOf Try.prog 129 1 := ⟨Try.isAgg129, Try.sizeOf129⟩
theorem ty_130 : IsAgg Try.prog 130 false ∧ SizeOf Try.prog 130 1 := ⟨Try.isAgg130, Try.sizeOf130⟩
theorem ty_132 : IsAgg Try.prog 132 false ∧ SizeOf Try.prog 132 1 := ⟨Try.isAgg132, Try.sizeOf132⟩
theorem ty_134 : IsAgg Try.prog 134 false ∧ SizeOf Try.prog 134 1 := ⟨Try.isAgg134, Try.sizeOf134⟩
theorem ty_135 : IsAgg Try.prog 135 false ∧ SizeOf Try.prog 135 1 := ⟨Try.isAgg135, Try.sizeOf135⟩
theorem ty_136 : IsAgg Try.prog 136 false ∧ SizeOf Try.prog 136 1 := ⟨Try.isAgg136, Try.sizeOf136⟩
theorem ty_137 : IsAgg Try.prog 137 false ∧ SizeOf Try.prog 137 1 := ⟨Try.isAgg137, Try.sizeOf137⟩
theorem ty_138 : IsAgg Try.prog 138 false ∧ SizeOf Try.prog 138 1 := ⟨Try.isAgg138, Try.sizeOf138⟩
theorem ty_139 : IsAgg Try.prog 139 false ∧ SizeOf Try.prog 139 1 := ⟨Try.isAgg139, Try.sizeOf139⟩
theorem ty_140 : IsAgg Try.prog 140 false ∧ SizeOf Try.prog 140 1 := ⟨Try.isAgg140, Try.sizeOf140⟩
theorem ty_141 : IsAgg Try.prog 141 false ∧ SizeOf Try.prog 141 1 := ⟨Try.isAgg141, Try.sizeOf141⟩
theorem ty_142 : IsAgg Try.prog 142 false ∧ SizeOf Try.prog 142 1 := ⟨Try.isAgg142, Try.sizeOf142⟩
theorem ty_143 : IsAgg Try.prog 143 false ∧ SizeOf Try.prog 143 1 := ⟨Try.isAgg143, Try.sizeOf143⟩
theorem ty_144 : IsAgg Try.prog 144 false ∧ SizeOf Try.prog 144 1 := ⟨Try.isAgg144, Try.sizeOf144⟩
theorem ty_145 : IsAgg Try.prog 145 true ∧ SizeOf Try.prog 145 4 := ⟨Try.isAgg145, Try.sizeOf145⟩
theorem ty_146 : IsAgg Try.prog 146 true ∧ SizeOf Try.prog 146 4 := ⟨Try.isAgg146, Try.sizeOf146⟩
theorem ty_147 : IsAgg Try.prog 147 false ∧ SizeOf Try.prog 147 1 := ⟨Try.isAgg147, Try.sizeOf147⟩
theorem ty_148 : IsAgg Try.prog 148 false ∧ SizeOf Try.prog 148 1 := ⟨Try.isAgg148, Try.sizeOf148⟩
theorem ty_149 : IsAgg Try.prog 149 true ∧ SizeOf Try.prog 149 4 := ⟨Try.isAgg149, Try.sizeOf149⟩
theorem ty_150 : IsAgg Try.prog 150 false ∧ SizeOf Try.prog 150 1 := ⟨Try.isAgg150, Try.sizeOf150⟩
theorem ty_151 : IsAgg Try.prog 151 false ∧ SizeOf Try.prog 151 1 := ⟨Try.isAgg151, Try.sizeOf151⟩
theorem ty_152 : IsAgg Try.prog 152 false ∧ SizeOf Try.prog 152 1 := ⟨Try.isAgg152, Try.sizeOf152⟩
theorem ty_154 : IsAgg Try.prog 154 false ∧ SizeOf Try.prog 154 1 := ⟨Try.isAgg154, Try.sizeOf154⟩
theorem ty_155 : IsAgg Try.prog 155 false ∧ SizeOf Try.prog 155 1 := ⟨Try.isAgg155, Try.sizeOf155⟩
theorem ty_156 : IsAgg Try.prog 156 false ∧ SizeOf Try.prog 156 1 := ⟨Try.isAgg156, Try.sizeOf156⟩
theorem ty_158 : IsAgg Try.prog 158 false ∧ SizeOf Try.prog 158 1 := ⟨Try.isAgg158, Try.sizeOf158⟩
theorem ty_159 : IsAgg Try.prog 159 false ∧ SizeOf Try.prog 159 1 := ⟨Try.isAgg159, Try.sizeOf159⟩
theorem ty_160 : IsAgg Try.prog 160 false ∧ SizeOf Try.prog 160 1 := ⟨Try.isAgg160, Try.sizeOf160⟩
theorem ty_161 : IsAgg Try.prog 161 false ∧ SizeOf Try.prog 161 1 := ⟨Try.isAgg161, Try.sizeOf161⟩
theorem ty_162 : IsAgg Try.prog 162 false ∧ SizeOf Try.prog 162 1 := ⟨Try.isAgg162, Try.sizeOf162⟩
theorem ty_168 : IsAgg Try.prog 168 false ∧ SizeOf Try.prog 168 1 := ⟨Try.isAgg168, Try.sizeOf168⟩
theorem ty_171 : IsAgg Try.prog 171 false ∧ SizeOf Try.prog 171 1 := ⟨Try.isAgg171, Try.sizeOf171⟩
theorem ty_172 : IsAgg Try.prog 172 false ∧ SizeOf Try.prog 172 1 := ⟨Try.isAgg172, Try.sizeOf172⟩
theorem ty_177 : IsAgg Try.prog 177 false ∧ SizeOf Try.prog 177 1 := ⟨Try.isAgg177, Try.sizeOf177⟩
theorem ze_1 : ZeroOf Try.prog 1 (.nilFunc) := Try.zeroValue1
theorem ze_2 : ZeroOf Try.prog 2 (.int .i64 0) := Try.zeroValue2
theorem ze_3 : ZeroOf Try.prog 3 (.int .i64 0) := Try.zeroValue3
theorem ze_4 : ZeroOf Try.prog 4 (.bool false) := Try.zeroValue4
theorem ze_5 : ZeroOf Try.prog 5 (.int .u8 0) := Try.zeroValue5
theorem ze_9 : ZeroOf Try.prog 9 (.string ⟨#[]⟩) := Try.zeroValue9
theorem ze_12 : ZeroOf Try.prog 12 (.int .u64 0) := Try.zeroValue12
theorem ze_13 : ZeroOf Try.prog 13 (.agg #[.string ⟨#[]⟩, .int .u64 0]) := Try.zeroValue13
theorem ze_20 : ZeroOf Try.prog 20 (.nilIface) := Try.zeroValue20
theorem ze_21 : ZeroOf Try.prog 21 (.int .i32 0) := Try.zeroValue21
theorem ze_22 : ZeroOf Try.prog 22 (.slice none 0 0) := Try.zeroValue22
theorem ze_23 : ZeroOf Try.prog 23 (.slice none 0 0) := Try.zeroValue23
theorem ze_24 : ZeroOf Try.prog 24 (.agg #[.int .i64 0, .int .i64 0, .int .i64 0, .int .i64 0, .slice none 0 0]) := Try.zeroValue24
theorem ze_25 : ZeroOf Try.prog 25 (.agg #[.int .i64 0, .int .i64 0, .int .i64 0, .int .i64 0, .slice none 0 0]) := Try.zeroValue25
theorem ze_26 : ZeroOf Try.prog 26 (.pointer none) := Try.zeroValue26
theorem ze_27 : ZeroOf Try.prog 27 (.nilFunc) := Try.zeroValue27
theorem ze_28 : ZeroOf Try.prog 28 (.nilFunc) := Try.zeroValue28
theorem ze_29 : ZeroOf Try.prog 29 (.nilFunc) := Try.zeroValue29
theorem ze_30 : ZeroOf Try.prog 30 (.nilFunc) := Try.zeroValue30
theorem ze_31 : ZeroOf Try.prog 31 (.slice none 0 0) := Try.zeroValue31
theorem ze_32 : ZeroOf Try.prog 32 (.agg #[.slice none 0 0, .int .i64 0]) := Try.zeroValue32
theorem ze_33 : ZeroOf Try.prog 33 (.agg #[.slice none 0 0, .int .i64 0]) := Try.zeroValue33
theorem ze_34 : ZeroOf Try.prog 34 (.slice none 0 0) := Try.zeroValue34
theorem ze_35 : ZeroOf Try.prog 35 (.agg #[.slice none 0 0, .int .i64 0, .int .i64 0, .int .i64 0, .slice none 0 0, .int .i64 0, .slice none 0 0]) := Try.zeroValue35
theorem ze_36 : ZeroOf Try.prog 36 (.agg #[.slice none 0 0, .int .i64 0, .int .i64 0, .int .i64 0, .slice none 0 0, .int .i64 0, .slice none 0 0]) := Try.zeroValue36
theorem ze_37 : ZeroOf Try.prog 37 (.pointer none) := Try.zeroValue37
theorem ze_38 : ZeroOf Try.prog 38 (.pointer none) := Try.zeroValue38
theorem ze_39 : ZeroOf Try.prog 39 (.agg #[.pointer none, .pointer none, .slice none 0 0, .int .i64 0, .int .i64 0, .int .i64 0, .slice none 0 0, .int .i64 0, .slice none 0 0]) := Try.zeroValue39
theorem ze_40 : ZeroOf Try.prog 40 (.agg #[.pointer none, .pointer none, .slice none 0 0, .int .i64 0, .int .i64 0, .int .i64 0, .slice none 0 0, .int .i64 0, .slice none 0 0]) := Try.zeroValue40
theorem ze_41 : ZeroOf Try.prog 41 (.nilFunc) := Try.zeroValue41
theorem ze_42 : ZeroOf Try.prog 42 (.agg #[.bool false, .bool false, .bool false, .int .i64 0, .int .i64 0, .string ⟨#[]⟩]) := Try.zeroValue42
theorem ze_43 : ZeroOf Try.prog 43 (.agg #[.bool false, .bool false, .bool false, .int .i64 0, .int .i64 0, .string ⟨#[]⟩]) := Try.zeroValue43
theorem ze_44 : ZeroOf Try.prog 44 (.nilFunc) := Try.zeroValue44
theorem ze_45 : ZeroOf Try.prog 45 (.int .i64 0) := Try.zeroValue45
theorem ze_46 : ZeroOf Try.prog 46 (.int .u64 0) := Try.zeroValue46
theorem ze_47 : ZeroOf Try.prog 47 (.agg #[.int .u64 0, .int .u64 0, .int .u64 0, .int .u64 0, .int .u64 0, .int .u64 0]) := Try.zeroValue47
theorem ze_48 : ZeroOf Try.prog 48 (.agg #[.int .u64 0, .int .u64 0, .int .u64 0, .int .u64 0, .int .u64 0, .int .u64 0]) := Try.zeroValue48
theorem ze_49 : ZeroOf Try.prog 49 (.agg #[.int .i64 0, .int .i64 0, .bool false, .int .i64 0, .slice none 0 0, .int .u64 0, .int .u64 0, .int .u64 0, .int .u64 0, .int .u64 0, .int .u64 0]) := Try.zeroValue49
theorem ze_50 : ZeroOf Try.prog 50 (.agg #[.int .i64 0, .int .i64 0, .bool false, .int .i64 0, .slice none 0 0, .int .u64 0, .int .u64 0, .int .u64 0, .int .u64 0, .int .u64 0, .int .u64 0]) := Try.zeroValue50
theorem ze_51 : ZeroOf Try.prog 51 (.agg #[.bool false, .int .i64 0, .int .i64 0, .bool false, .int .i64 0, .slice none 0 0, .int .u64 0, .int .u64 0, .int .u64 0, .int .u64 0, .int .u64 0, .int .u64 0, .int .u64 0, .int .u64 0, .int .u64 0, .int .u64 0, .int .u64 0, .int .u64 0]) := Try.zeroValue51
theorem ze_52 : ZeroOf Try.prog 52 (.agg #[.bool false, .int .i64 0, .int .i64 0, .bool false, .int .i64 0, .slice none 0 0, .int .u64 0, .int .u64 0, .int .u64 0, .int .u64 0, .int .u64 0, .int .u64 0, .int .u64 0, .int .u64 0, .int .u64 0, .int .u64 0, .int .u64 0, .int .u64 0]) := Try.zeroValue52
theorem ze_53 : ZeroOf Try.prog 53 (.nilFunc) := Try.zeroValue53
theorem ze_54 : ZeroOf Try.prog 54 (.agg #[.bool false, .bool false, .bool false, .int .i64 0]) := Try.zeroValue54
theorem ze_55 : ZeroOf Try.prog 55 (.agg #[.bool false, .bool false, .bool false, .int .i64 0]) := Try.zeroValue55
theorem ze_56 : ZeroOf Try.prog 56 (.agg #[.int .u8 0, .int .u8 0, .int .u8 0, .int .u8 0, .int .u8 0, .int .u8 0, .int .u8 0, .int .u8 0, .int .u8 0, .int .u8 0, .int .u8 0, .int .u8 0, .int .u8 0, .int .u8 0, .int .u8 0, .int .u8 0, .int .u8 0, .int .u8 0, .int .u8 0, .int .u8 0, .int .u8 0, .int .u8 0, .int .u8 0, .int .u8 0, .int .u8 0, .int .u8 0, .int .u8 0, .int .u8 0, .int .u8 0, .int .u8 0, .int .u8 0, .int .u8 0]) := Try.zeroValue56
theorem ze_57 : ZeroOf Try.prog 57 (.agg #[.bool false, .bool false, .bool false, .int .i64 0, .int .i64 0, .int .u8 0, .int .u8 0, .int .u8 0, .int .u8 0, .int .u8 0, .int .u8 0, .int .u8 0, .int .u8 0, .int .u8 0, .int .u8 0, .int .u8 0, .int .u8 0, .int .u8 0, .int .u8 0, .int .u8 0, .int .u8 0, .int .u8 0, .int .u8 0, .int .u8 0, .int .u8 0, .int .u8 0, .int .u8 0, .int .u8 0, .int .u8 0, .int .u8 0, .int .u8 0, .int .u8 0, .int .u8 0, .int .u8 0, .int .u8 0, .int .u8 0, .int .u8 0]) := Try.zeroValue57
theorem ze_58 : ZeroOf Try.prog 58 (.agg #[.bool false, .bool false, .bool false, .int .i64 0, .int .i64 0, .int .u8 0, .int .u8 0, .int .u8 0, .int .u8 0, .int .u8 0, .int .u8 0, .int .u8 0, .int .u8 0, .int .u8 0, .int .u8 0, .int .u8 0, .int .u8 0, .int .u8 0, .int .u8 0, .int .u8 0, .int .u8 0, .int .u8 0, .int .u8 0, .int .u8 0, .int .u8 0, .int .u8 0, .int .u8 0, .int .u8 0, .int .u8 0, .int .u8 0, .int .u8 0, .int .u8 0, .int .u8 0, .int .u8 0, .int .u8 0, .int .u8 0, .int .u8 0]) := Try.zeroValue58
theorem ze_59 : ZeroOf Try.prog 59 (.nilFunc) := Try.zeroValue59
theorem ze_60 : ZeroOf Try.prog 60 (.nilFunc) := Try.zeroValue60
theorem ze_61 : ZeroOf Try.prog 61 (.nilFunc) := Try.zeroValue61
theorem ze_62 : ZeroOf Try.prog 62 (.nilFunc) := Try.zeroValue62
theorem ze_63 : ZeroOf Try.prog 63 (.nilFunc) := Try.zeroValue63
theorem ze_64 : ZeroOf Try.prog 64 (.slice none 0 0) := Try.zeroValue64
theorem ze_65 : ZeroOf Try.prog 65 (.nilFunc) := Try.zeroValue65
theorem ze_66 : ZeroOf Try.prog 66 (.nilFunc) := Try.zeroValue66
theorem ze_67 : ZeroOf Try.prog 67 (.nilFunc) := Try.zeroValue67
theorem ze_68 : ZeroOf Try.prog 68 (.slice none 0 0) := Try.zeroValue68
theorem ze_69 : ZeroOf Try.prog 69 (.nilFunc) := Try.zeroValue69
theorem ze_70 : ZeroOf Try.prog 70 (.slice none 0 0) := Try.zeroValue70
theorem ze_71 : ZeroOf Try.prog 71 (.nilFunc) := Try.zeroValue71
theorem ze_73 : ZeroOf Try.prog 73 (.nilFunc) := Try.zeroValue73
theorem ze_74 : ZeroOf Try.prog 74 (.nilFunc) := Try.zeroValue74
theorem ze_75 : ZeroOf Try.prog 75 (.nilFunc) := Try.zeroValue75
theorem ze_76 : ZeroOf Try.prog 76 (.agg #[.bool false, .int .i64 0, .bool false, .string ⟨#[]⟩, .int .u64 0, .int .u64 0, .int .u64 0, .int .u64 0, .int .u64 0, .int .u64 0]) := Try.zeroValue76
theorem ze_77 : ZeroOf Try.prog 77 (.agg #[.bool false, .int .i64 0, .bool false, .string ⟨#[]⟩, .int .u64 0, .int .u64 0, .int .u64 0, .int .u64 0, .int .u64 0, .int .u64 0]) := Try.zeroValue77
theorem ze_79 : ZeroOf Try.prog 79 (.nilFunc) := Try.zeroValue79
theorem ze_80 : ZeroOf Try.prog 80 (.nilFunc) := Try.zeroValue80
theorem ze_81 : ZeroOf Try.prog 81 (.nilFunc) := Try.zeroValue81
theorem ze_82 : ZeroOf Try.prog 82 (.agg #[.int .i64 0, .int .i64 0, .int .i64 0]) := Try.zeroValue82
theorem ze_83 : ZeroOf Try.prog 83 (.agg #[.int .i64 0, .int .i64 0, .int .i64 0]) := Try.zeroValue83
theorem ze_85 : ZeroOf Try.prog 85 (.nilFunc) := Try.zeroValue85
theorem ze_86 : ZeroOf Try.prog 86 (.slice none 0 0) := Try.zeroValue86
theorem ze_87 : ZeroOf Try.prog 87 (.agg #[.pointer none, .int .i64 0, .int .i64 0, .slice none 0 0, .int .i64 0, .slice none 0 0]) := Try.zeroValue87
theorem ze_88 : ZeroOf Try.prog 88 (.agg #[.pointer none, .int .i64 0, .int .i64 0, .slice none 0 0, .int .i64 0, .slice none 0 0]) := Try.zeroValue88
theorem ze_89 : ZeroOf Try.prog 89 (.nilFunc) := Try.zeroValue89
theorem ze_90 : ZeroOf Try.prog 90 (.nilFunc) := Try.zeroValue90
theorem ze_91 : ZeroOf Try.prog 91 (.nilFunc) := Try.zeroValue91
theorem ze_92 : ZeroOf Try.prog 92 (.nilFunc) := Try.zeroValue92
theorem ze_93 : ZeroOf Try.prog 93 (.nilFunc) := Try.zeroValue93
theorem ze_94 : ZeroOf Try.prog 94 (.slice none 0 0) := Try.zeroValue94
theorem ze_95 : ZeroOf Try.prog 95 (.map none) := Try.zeroValue95
theorem ze_96 : ZeroOf Try.prog 96 (.agg #[.slice none 0 0, .map none, .int .i64 0]) := Try.zeroValue96
theorem ze_97 : ZeroOf Try.prog 97 (.agg #[.slice none 0 0, .map none, .int .i64 0]) := Try.zeroValue97
theorem ze_98 : ZeroOf Try.prog 98 (.map none) := Try.zeroValue98
theorem ze_99 : ZeroOf Try.prog 99 (.nilFunc) := Try.zeroValue99
theorem ze_100 : ZeroOf Try.prog 100 (.nilFunc) := Try.zeroValue100
theorem ze_101 : ZeroOf Try.prog 101 (.nilFunc) := Try.zeroValue101
theorem ze_102 : ZeroOf Try.prog 102 (.agg #[.int .i64 0, .int .i64 0, .int .i64 0]) := Try.zeroValue102
theorem ze_103 : ZeroOf Try.prog 103 (.pointer none) := Try.zeroValue103
theorem ze_104 : ZeroOf Try.prog 104 (.nilFunc) := Try.zeroValue104
theorem ze_105 : ZeroOf Try.prog 105 (.nilFunc) := Try.zeroValue105
theorem ze_106 : ZeroOf Try.prog 106 (.nilFunc) := Try.zeroValue106
theorem ze_108 : ZeroOf Try.prog 108 (.nilFunc) := Try.zeroValue108
theorem ze_109 : ZeroOf Try.prog 109 (.nilFunc) := Try.zeroValue109
theorem ze_111 : ZeroOf Try.prog 111 (.nilFunc) := Try.zeroValue111
theorem ze_112 : ZeroOf Try.prog 112 (.nilFunc) := Try.zeroValue112
theorem ze_113 : ZeroOf Try.prog 113 (.nilFunc) := Try.zeroValue113
theorem ze_115 : ZeroOf Try.prog 115 (.nilFunc) := Try.zeroValue115
theorem ze_116 : ZeroOf Try.prog 116 (.nilFunc) := Try.zeroValue116
theorem ze_117 : ZeroOf Try.prog 117 (.nilFunc) := Try.zeroValue117
theorem ze_118 : ZeroOf Try.prog 118 (.nilFunc) := Try.zeroValue118
theorem ze_119 : ZeroOf Try.prog 119 (.nilFunc) := Try.zeroValue119
theorem ze_120 : ZeroOf Try.prog 120 (.nilFunc) := Try.zeroValue120
theorem ze_122 : ZeroOf Try.prog 122 (.nilFunc) := Try.zeroValue122
theorem ze_123 : ZeroOf Try.prog 123 (.nilFunc) := Try.zeroValue123
theorem ze_124 : ZeroOf Try.prog 124 (.nilFunc) := Try.zeroValue124
theorem ze_125 : ZeroOf Try.prog 125 (.slice none 0 0) := Try.zeroValue125
theorem ze_127 : ZeroOf Try.prog 127 (.nilFunc) := Try.zeroValue127
theorem ze_129 : ZeroOf Try.prog 129 (.nilFunc) := Try.zeroValue129
theorem ze_130 : ZeroOf Try.prog 130 (.nilFunc) := Try.zeroValue130
theorem ze_132 : ZeroOf Try.prog 132 (.nilFunc) := Try.zeroValue132
theorem ze_134 : ZeroOf Try.prog 134 (.nilFunc) := Try.zeroValue134
theorem ze_135 : ZeroOf Try.prog 135 (.nilFunc) := Try.zeroValue135
theorem ze_136 : ZeroOf Try.prog 136 (.nilFunc) := Try.zeroValue136
theorem ze_137 : ZeroOf Try.prog 137 (.pointer none) := Try.zeroValue137
theorem ze_138 : ZeroOf Try.prog 138 (.nilFunc) := Try.zeroValue138
theorem ze_139 : ZeroOf Try.prog 139 (.nilFunc) := Try.zeroValue139
theorem ze_140 : ZeroOf Try.prog 140 (.nilFunc) := Try.zeroValue140
theorem ze_141 : ZeroOf Try.prog 141 (.nilFunc) := Try.zeroValue141
theorem ze_142 : ZeroOf Try.prog 142 (.nilFunc) := Try.zeroValue142
theorem ze_143 : ZeroOf Try.prog 143 (.nilFunc) := Try.zeroValue143
theorem ze_144 : ZeroOf Try.prog 144 (.slice none 0 0) := Try.zeroValue144
theorem ze_145 : ZeroOf Try.prog 145 (.agg #[.int .i64 0, .int .i64 0, .slice none 0 0, .int .i64 0]) := Try.zeroValue145
theorem ze_146 : ZeroOf Try.prog 146 (.agg #[.int .i64 0, .int .i64 0, .slice none 0 0, .int .i64 0]) := Try.zeroValue146
theorem ze_147 : ZeroOf Try.prog 147 (.nilFunc) := Try.zeroValue147
theorem ze_148 : ZeroOf Try.prog 148 (.nilFunc) := Try.zeroValue148
theorem ze_149 : ZeroOf Try.prog 149 (.agg #[.bool false, .bool false, .bool false, .int .i64 0]) := Try.zeroValue149
theorem ze_150 : ZeroOf Try.prog 150 (.nilFunc) := Try.zeroValue150
theorem ze_151 : ZeroOf Try.prog 151 (.nilFunc) := Try.zeroValue151
theorem ze_152 : ZeroOf Try.prog 152 (.slice none 0 0) := Try.zeroValue152
theorem ze_154 : ZeroOf Try.prog 154 (.nilFunc) := Try.zeroValue154
theorem ze_155 : ZeroOf Try.prog 155 (.nilFunc) := Try.zeroValue155
theorem ze_156 : ZeroOf Try.prog 156 (.nilFunc) := Try.zeroValue156
theorem ze_158 : ZeroOf Try.prog 158 (.nilFunc) := Try.zeroValue158
theorem ze_159 : ZeroOf Try.prog 159 (.nilFunc) := Try.zeroValue159
theorem ze_160 : ZeroOf Try.prog 160 (.nilFunc) := Try.zeroValue160
theorem ze_161 : ZeroOf Try.prog 161 (.nilFunc) := Try.zeroValue161
theorem ze_162 : ZeroOf Try.prog 162 (.nilFunc) := Try.zeroValue162
theorem ze_168 : ZeroOf Try.prog 168 (.int .u32 0) := Try.zeroValue168
theorem ze_171 : ZeroOf Try.prog 171 (.nilFunc) := Try.zeroValue171
theorem ze_172 : ZeroOf Try.prog 172 (.pointer none) := Try.zeroValue172
theorem ze_177 : ZeroOf Try.prog 177 (.pointer none) := Try.zeroValue177
theorem fl_13 : PlacesOk Try.prog (13, [(0, 1), (1, 1)]) := .inl ⟨_, Try.underlying13, fun w => by simp⟩
theorem fl_24 : PlacesOk Try.prog (24, [(0, 1), (1, 1), (2, 1), (3, 1), (4, 1)]) := .inl ⟨_, Try.underlying24, fun w => by simp⟩
theorem fl_25 : PlacesOk Try.prog (25, [(0, 1), (1, 1), (2, 1), (3, 1), (4, 1)]) := .inl ⟨_, Try.underlying25, fun w => by simp⟩
theorem fl_32 : PlacesOk Try.prog (32, [(0, 1), (1, 1)]) := .inl ⟨_, Try.underlying32, fun w => by simp⟩
theorem fl_33 : PlacesOk Try.prog (33, [(0, 1), (1, 1)]) := .inl ⟨_, Try.underlying33, fun w => by simp⟩
theorem fl_35 : PlacesOk Try.prog (35, [(0, 2), (2, 1), (3, 1), (4, 1), (5, 1), (6, 1)]) := .inl ⟨_, Try.underlying35, fun w => by simp⟩
theorem fl_36 : PlacesOk Try.prog (36, [(0, 2), (2, 1), (3, 1), (4, 1), (5, 1), (6, 1)]) := .inl ⟨_, Try.underlying36, fun w => by simp⟩
theorem fl_39 : PlacesOk Try.prog (39, [(0, 1), (1, 1), (2, 7)]) := .inl ⟨_, Try.underlying39, fun w => by simp⟩
theorem fl_40 : PlacesOk Try.prog (40, [(0, 1), (1, 1), (2, 7)]) := .inl ⟨_, Try.underlying40, fun w => by simp⟩
theorem fl_42 : PlacesOk Try.prog (42, [(0, 1), (1, 1), (2, 1), (3, 1), (4, 1), (5, 1)]) := .inl ⟨_, Try.underlying42, fun w => by simp⟩
theorem fl_43 : PlacesOk Try.prog (43, [(0, 1), (1, 1), (2, 1), (3, 1), (4, 1), (5, 1)]) := .inl ⟨_, Try.underlying43, fun w => by simp⟩
theorem fl_47 : PlacesOk Try.prog (47, [(0, 1), (1, 1), (2, 1), (3, 1), (4, 1), (5, 1)]) := .inl ⟨_, Try.underlying47, fun w => by simp⟩
theorem fl_48 : PlacesOk Try.prog (48, [(0, 1), (1, 1), (2, 1), (3, 1), (4, 1), (5, 1)]) := .inl ⟨_, Try.underlying48, fun w => by simp⟩
theorem fl_49 : PlacesOk Try.prog (49, [(0, 1), (1, 1), (2, 1), (3, 1), (4, 1), (5, 6)]) := .inl ⟨_, Try.underlying49, fun w => by simp⟩
theorem fl_50 : PlacesOk Try.prog (50, [(0, 1), (1, 1), (2, 1), (3, 1), (4, 1), (5, 6)]) := .inl ⟨_, Try.underlying50, fun w => by simp⟩
theorem fl_51 : PlacesOk Try.prog (51, [(0, 1), (1, 11), (12, 6)]) := .inl ⟨_, Try.underlying51, fun w => by simp⟩
theorem fl_52 : PlacesOk Try.prog (52, [(0, 1), (1, 11), (12, 6)]) := .inl ⟨_, Try.underlying52, fun w => by simp⟩
theorem fl_54 : PlacesOk Try.prog (54, [(0, 1), (1, 1), (2, 1), (3, 1)]) := .inl ⟨_, Try.underlying54, fun w => by simp⟩
theorem fl_55 : PlacesOk Try.prog (55, [(0, 1), (1, 1), (2, 1), (3, 1)]) := .inl ⟨_, Try.underlying55, fun w => by simp⟩
theorem fl_56 : PlacesOk Try.prog (56, [(0, 1), (1, 1), (2, 1), (3, 1), (4, 1), (5, 1), (6, 1), (7, 1), (8, 1), (9, 1), (10, 1), (11, 1), (12, 1), (13, 1), (14, 1), (15, 1), (16, 1), (17, 1), (18, 1), (19, 1), (20, 1), (21, 1), (22, 1), (23, 1), (24, 1), (25, 1), (26, 1), (27, 1), (28, 1), (29, 1), (30, 1), (31, 1)]) := .inr ⟨_, _, _, Try.underlying56, Try.sizeOf5, rfl⟩
theorem fl_57 : PlacesOk Try.prog (57, [(0, 4), (4, 1), (5, 32)]) := .inl ⟨_, Try.underlying57, fun w => by simp⟩
theorem fl_58 : PlacesOk Try.prog (58, [(0, 4), (4, 1), (5, 32)]) := .inl ⟨_, Try.underlying58, fun w => by simp⟩
theorem fl_76 : PlacesOk Try.prog (76, [(0, 1), (1, 1), (2, 1), (3, 1), (4, 6)]) := .inl ⟨_, Try.underlying76, fun w => by simp⟩
theorem fl_77 : PlacesOk Try.prog (77, [(0, 1), (1, 1), (2, 1), (3, 1), (4, 6)]) := .inl ⟨_, Try.underlying77, fun w => by simp⟩
theorem fl_82 : PlacesOk Try.prog (82, [(0, 1), (1, 1), (2, 1)]) := .inl ⟨_, Try.underlying82, fun w => by simp⟩
theorem fl_83 : PlacesOk Try.prog (83, [(0, 1), (1, 1), (2, 1)]) := .inl ⟨_, Try.underlying83, fun w => by simp⟩
theorem fl_87 : PlacesOk Try.prog (87, [(0, 1), (1, 1), (2, 1), (3, 1), (4, 1), (5, 1)]) := .inl ⟨_, Try.underlying87, fun w => by simp⟩
theorem fl_88 : PlacesOk Try.prog (88, [(0, 1), (1, 1), (2, 1), (3, 1), (4, 1), (5, 1)]) := .inl ⟨_, Try.underlying88, fun w => by simp⟩
theorem fl_96 : PlacesOk Try.prog (96, [(0, 1), (1, 1), (2, 1)]) := .inl ⟨_, Try.underlying96, fun w => by simp⟩
theorem fl_97 : PlacesOk Try.prog (97, [(0, 1), (1, 1), (2, 1)]) := .inl ⟨_, Try.underlying97, fun w => by simp⟩
theorem fl_102 : PlacesOk Try.prog (102, [(0, 1), (1, 1), (2, 1)]) := .inl ⟨_, Try.underlying102, fun w => by simp⟩
theorem fl_145 : PlacesOk Try.prog (145, [(0, 1), (1, 1), (2, 1), (3, 1)]) := .inl ⟨_, Try.underlying145, fun w => by simp⟩
theorem fl_146 : PlacesOk Try.prog (146, [(0, 1), (1, 1), (2, 1), (3, 1)]) := .inl ⟨_, Try.underlying146, fun w => by simp⟩
theorem fl_149 : PlacesOk Try.prog (149, [(0, 1), (1, 1), (2, 1), (3, 1)]) := .inl ⟨_, Try.underlying149, fun w => by simp⟩
theorem in_3 : InfOk Try.prog 3 1 8 := ⟨Try.t3, _, rfl, rfl, rfl, rfl, rfl, by decide⟩
theorem in_4 : InfOk Try.prog 4 1 1 := ⟨Try.t4, _, rfl, rfl, rfl, rfl, rfl, by decide⟩
theorem in_5 : InfOk Try.prog 5 1 1 := ⟨Try.t5, _, rfl, rfl, rfl, rfl, rfl, by decide⟩
theorem in_9 : InfOk Try.prog 9 1 16 := ⟨Try.t9, _, rfl, rfl, rfl, rfl, rfl, by decide⟩
theorem in_23 : InfOk Try.prog 23 1 24 := ⟨Try.t23, _, rfl, rfl, rfl, rfl, rfl, by decide⟩
theorem in_25 : InfOk Try.prog 25 5 56 := ⟨Try.t25, _, rfl, rfl, rfl, rfl, rfl, by decide⟩
theorem in_43 : InfOk Try.prog 43 6 40 := ⟨Try.t43, _, rfl, rfl, rfl, rfl, rfl, by decide⟩
theorem in_55 : InfOk Try.prog 55 4 16 := ⟨Try.t55, _, rfl, rfl, rfl, rfl, rfl, by decide⟩
theorem in_58 : InfOk Try.prog 58 37 56 := ⟨Try.t58, _, rfl, rfl, rfl, rfl, rfl, by decide⟩
theorem in_83 : InfOk Try.prog 83 3 24 := ⟨Try.t83, _, rfl, rfl, rfl, rfl, rfl, by decide⟩
theorem in_102 : InfOk Try.prog 102 3 24 := ⟨Try.t102, _, rfl, rfl, rfl, rfl, rfl, by decide⟩
theorem in_149 : InfOk Try.prog 149 4 16 := ⟨Try.t149, _, rfl, rfl, rfl, rfl, rfl, by decide⟩
def tab : Tab where
  offs := [(25, 0, 0), (25, 1, 1), (25, 2, 2), (25, 3, 3), (25, 4, 4), (33, 0, 0), (33, 1, 1), (36, 0, 0), (36, 1, 2), (36, 2, 3), (36, 3, 4), (36, 4, 5), (36, 5, 6), (40, 0, 0), (40, 1, 1), (40, 2, 2), (43, 0, 0), (43, 1, 1), (43, 2, 2), (43, 3, 3), (43, 4, 4), (43, 5, 5), (48, 2, 2), (48, 5, 5), (50, 0, 0), (50, 1, 1), (50, 2, 2), (50, 3, 3), (50, 4, 4), (50, 5, 5), (52, 0, 0), (52, 1, 1), (52, 2, 12), (55, 0, 0), (55, 1, 1), (55, 2, 2), (55, 3, 3), (58, 0, 0), (58, 1, 4), (58, 2, 5), (77, 0, 0), (77, 1, 1), (77, 2, 2), (77, 3, 3), (77, 4, 4), (83, 0, 0), (83, 1, 1), (83, 2, 2), (88, 0, 0), (88, 1, 1), (88, 2, 2), (88, 3, 3), (88, 4, 4), (88, 5, 5), (97, 0, 0), (97, 1, 1), (97, 2, 2), (102, 0, 0), (102, 1, 1), (102, 2, 2), (146, 0, 0), (146, 1, 1), (146, 2, 2), (146, 3, 3), (149, 0, 0), (149, 2, 2), (149, 3, 3)]
  tys := [(1, false, 1), (2, false, 1), (3, false, 1), (4, false, 1), (5, false, 1), (9, false, 1), (12, false, 1), (13, true, 2), (20, false, 1), (21, false, 1), (22, false, 1), (23, false, 1), (24, true, 5), (25, true, 5), (26, false, 1), (27, false, 1), (28, false, 1), (29, false, 1), (30, false, 1), (31, false, 1), (32, true, 2), (33, true, 2), (34, false, 1), (35, true, 7), (36, true, 7), (37, false, 1), (38, false, 1), (39, true, 9), (40, true, 9), (41, false, 1), (42, true, 6), (43, true, 6), (44, false, 1), (45, false, 1), (46, false, 1), (47, true, 6), (48, true, 6), (49, true, 11), (50, true, 11), (51, true, 18), (52, true, 18), (53, false, 1), (54, true, 4), (55, true, 4), (56, true, 32), (57, true, 37), (58, true, 37), (59, false, 1), (60, false, 1), (61, false, 1), (62, false, 1), (63, false, 1), (64, false, 1), (65, false, 1), (66, false, 1), (67, false, 1), (68, false, 1), (69, false, 1), (70, false, 1), (71, false, 1), (73, false, 1), (74, false, 1), (75, false, 1), (76, true, 10), (77, true, 10), (79, false, 1), (80, false, 1), (81, false, 1), (82, true, 3), (83, true, 3), (85, false, 1), (86, false, 1), (87, true, 6), (88, true, 6), (89, false, 1), (90, false, 1), (91, false, 1), (92, false, 1), (93, false, 1), (94, false, 1), (95, false, 1), (96, true, 3), (97, true, 3), (98, false, 1), (99, false, 1), (100, false, 1), (101, false, 1), (102, true, 3), (103, false, 1), (104, false, 1), (105, false, 1), (106, false, 1), (108, false, 1), (109, false, 1), (111, false, 1), (112, false, 1), (113, false, 1), (115, false, 1), (116, false, 1), (117, false, 1), (118, false, 1), (119, false, 1), (120, false, 1), (122, false, 1), (123, false, 1), (124, false, 1), (125, false, 1), (127, false, 1), (129, false, 1), (130, false, 1), (132, false, 1), (134, false, 1), (135, false, 1), (136, false, 1), (137, false, 1), (138, false, 1), (139, false, 1), (140, false, 1), (141, false, 1), (142, false, 1), (143, false, 1), (144, false, 1), (145, true, 4), (146, true, 4), (147, false, 1), (148, false, 1), (149, true, 4), (150, false, 1), (151, false, 1), (152, false, 1), (154, false, 1), (155, false, 1), (156, false, 1), (158, false, 1), (159, false, 1), (160, false, 1), (161, false, 1), (162, false, 1), (168, false, 1), (171, false, 1), (172, false, 1), (177, false, 1)]
  zeros := [(1, .nilFunc), (2, .int .i64 0), (3, .int .i64 0), (4, .bool false), (5, .int .u8 0), (9, .string ⟨#[]⟩), (12, .int .u64 0), (13, .agg #[.string ⟨#[]⟩, .int .u64 0]), (20, .nilIface), (21, .int .i32 0), (22, .slice none 0 0), (23, .slice none 0 0), (24, .agg #[.int .i64 0, .int .i64 0, .int .i64 0, .int .i64 0, .slice none 0 0]), (25, .agg #[.int .i64 0, .int .i64 0, .int .i64 0, .int .i64 0, .slice none 0 0]), (26, .pointer none), (27, .nilFunc), (28, .nilFunc), (29, .nilFunc), (30, .nilFunc), (31, .slice none 0 0), (32, .agg #[.slice none 0 0, .int .i64 0]), (33, .agg #[.slice none 0 0, .int .i64 0]), (34, .slice none 0 0), (35, .agg #[.slice none 0 0, .int .i64 0, .int .i64 0, .int .i64 0, .slice none 0 0, .int .i64 0, .slice none 0 0]), (36, .agg #[.slice none 0 0, .int .i64 0, .int .i64 0, .int .i64 0, .slice none 0 0, .int .i64 0, .slice none 0 0]), (37, .pointer none), (38, .pointer none), (39, .agg #[.pointer none, .pointer none, .slice none 0 0, .int .i64 0, .int .i64 0, .int .i64 0, .slice none 0 0, .int .i64 0, .slice none 0 0]), (40, .agg #[.pointer none, .pointer none, .slice none 0 0, .int .i64 0, .int .i64 0, .int .i64 0, .slice none 0 0, .int .i64 0, .slice none 0 0]), (41, .nilFunc), (42, .agg #[.bool false, .bool false, .bool false, .int .i64 0, .int .i64 0, .string ⟨#[]⟩]), (43, .agg #[.bool false, .bool false, .bool false, .int .i64 0, .int .i64 0, .string ⟨#[]⟩]), (44, .nilFunc), (45, .int .i64 0), (46, .int .u64 0), (47, .agg #[.int .u64 0, .int .u64 0, .int .u64 0, .int .u64 0, .int .u64 0, .int .u64 0]), (48, .agg #[.int .u64 0, .int .u64 0, .int .u64 0, .int .u64 0, .int .u64 0, .int .u64 0]), (49, .agg #[.int .i64 0, .int .i64 0, .bool false, .int .i64 0, .slice none 0 0, .int .u64 0, .int .u64 0, .int .u64 0, .int .u64 0, .int .u64 0, .int .u64 0]), (50, .agg #[.int .i64 0, .int .i64 0, .bool false, .int .i64 0, .slice none 0 0, .int .u64 0, .int .u64 0, .int .u64 0, .int .u64 0, .int .u64 0, .int .u64 0]), (51, .agg #[.bool false, .int .i64 0, .int .i64 0, .bool false, .int .i64 0, .slice none 0 0, .int .u64 0, .int .u64 0, .int .u64 0, .int .u64 0, .int .u64 0, .int .u64 0, .int .u64 0, .int .u64 0, .int .u64 0, .int .u64 0, .int .u64 0, .int .u64 0]), (52, .agg #[.bool false, .int .i64 0, .int .i64 0, .bool false, .int .i64 0, .slice none 0 0, .int .u64 0, .int .u64 0, .int .u64 0, .int .u64 0, .int .u64 0, .int .u64 0, .int .u64 0, .int .u64 0, .int .u64 0, .int .u64 0, .int .u64 0, .int .u64 0]), (53, .nilFunc), (54, .agg #[.bool false, .bool false, .bool false, .int .i64 0]), (55, .agg #[.bool false, .bool false, .bool false, .int .i64 0]), (56, .agg #[.int .u8 0, .int .u8 0, .int .u8 0, .int .u8 0, .int .u8 0, .int .u8 0, .int .u8 0, .int .u8 0, .int .u8 0, .int .u8 0, .int .u8 0, .int .u8 0, .int .u8 0, .int .u8 0, .int .u8 0, .int .u8 0, .int .u8 0, .int .u8 0, .int .u8 0, .int .u8 0, .int .u8 0, .int .u8 0, .int .u8 0, .int .u8 0, .int .u8 0, .int .u8 0, .int .u8 0, .int .u8 0, .int .u8 0, .int .u8 0, .int .u8 0, .int .u8 0]), (57, .agg #[.bool false, .bool false, .bool false, .int .i64 0, .int .i64 0, .int .u8 0, .int .u8 0, .int .u8 0, .int .u8 0, .int .u8 0, .int .u8 0, .int .u8 0, .int .u8 0, .int .u8 0, .int .u8 0, .int .u8 0, .int .u8 0, .int .u8 0, .int .u8 0, .int .u8 0, .int .u8 0, .int .u8 0, .int .u8 0, .int .u8 0, .int .u8 0, .int .u8 0, .int .u8 0, .int .u8 0, .int .u8 0, .int .u8 0, .int .u8 0, .int .u8 0, .int .u8 0, .int .u8 0, .int .u8 0, .int .u8 0, .int .u8 0]), (58, .agg #[.bool false, .bool false, .bool false, .int .i64 0, .int .i64 0, .int .u8 0, .int .u8 0, .int .u8 0, .int .u8 0, .int .u8 0, .int .u8 0, .int .u8 0, .int .u8 0, .int .u8 0, .int .u8 0, .int .u8 0, .int .u8 0, .int .u8 0, .int .u8 0, .int .u8 0, .int .u8 0, .int .u8 0, .int .u8 0, .int .u8 0, .int .u8 0, .int .u8 0, .int .u8 0, .int .u8 0, .int .u8 0, .int .u8 0, .int .u8 0, .int .u8 0, .int .u8 0, .int .u8 0, .int .u8 0, .int .u8 0, .int .u8 0]), (59, .nilFunc), (60, .nilFunc), (61, .nilFunc), (62, .nilFunc), (63, .nilFunc), (64, .slice none 0 0), (65, .nilFunc), (66, .nilFunc), (67, .nilFunc), (68, .slice none 0 0), (69, .nilFunc), (70, .slice none 0 0), (71, .nilFunc), (73, .nilFunc), (74, .nilFunc), (75, .nilFunc), (76, .agg #[.bool false, .int .i64 0, .bool false, .string ⟨#[]⟩, .int .u64 0, .int .u64 0, .int .u64 0, .int .u64 0, .int .u64 0, .int .u64 0]), (77, .agg #[.bool false, .int .i64 0, .bool false, .string ⟨#[]⟩, .int .u64 0, .int .u64 0, .int .u64 0, .int .u64 0, .int .u64 0, .int .u64 0]), (79, .nilFunc), (80, .nilFunc), (81, .nilFunc), (82, .agg #[.int .i64 0, .int .i64 0, .int .i64 0]), (83, .agg #[.int .i64 0, .int .i64 0, .int .i64 0]), (85, .nilFunc), (86, .slice none 0 0), (87, .agg #[.pointer none, .int .i64 0, .int .i64 0, .slice none 0 0, .int .i64 0, .slice none 0 0]), (88, .agg #[.pointer none, .int .i64 0, .int .i64 0, .slice none 0 0, .int .i64 0, .slice none 0 0]), (89, .nilFunc), (90, .nilFunc), (91, .nilFunc), (92, .nilFunc), (93, .nilFunc), (94, .slice none 0 0), (95, .map none), (96, .agg #[.slice none 0 0, .map none, .int .i64 0]), (97, .agg #[.slice none 0 0, .map none, .int .i64 0]), (98, .map none), (99, .nilFunc), (100, .nilFunc), (101, .nilFunc), (102, .agg #[.int .i64 0, .int .i64 0, .int .i64 0]), (103, .pointer none), (104, .nilFunc), (105, .nilFunc), (106, .nilFunc), (108, .nilFunc), (109, .nilFunc), (111, .nilFunc), (112, .nilFunc), (113, .nilFunc), (115, .nilFunc), (116, .nilFunc), (117, .nilFunc), (118, .nilFunc), (119, .nilFunc), (120, .nilFunc), (122, .nilFunc), (123, .nilFunc), (124, .nilFunc), (125, .slice none 0 0), (127, .nilFunc), (129, .nilFunc), (130, .nilFunc), (132, .nilFunc), (134, .nilFunc), (135, .nilFunc), (136, .nilFunc), (137, .pointer none), (138, .nilFunc), (139, .nilFunc), (140, .nilFunc), (141, .nilFunc), (142, .nilFunc), (143, .nilFunc), (144, .slice none 0 0), (145, .agg #[.int .i64 0, .int .i64 0, .slice none 0 0, .int .i64 0]), (146, .agg #[.int .i64 0, .int .i64 0, .slice none 0 0, .int .i64 0]), (147, .nilFunc), (148, .nilFunc), (149, .agg #[.bool false, .bool false, .bool false, .int .i64 0]), (150, .nilFunc), (151, .nilFunc), (152, .slice none 0 0), (154, .nilFunc), (155, .nilFunc), (156, .nilFunc), (158, .nilFunc), (159, .nilFunc), (160, .nilFunc), (161, .nilFunc), (162, .nilFunc), (168, .int .u32 0), (171, .nilFunc), (172, .pointer none), (177, .pointer none)]
  sls := [(22, 25), (23, 5), (31, 43), (34, 102), (64, 4), (68, 3), (70, 9), (86, 83), (94, 58), (125, 23), (144, 149), (152, 55)]
  ars := [(56, 32, 5)]
  ints := [(2, .i64), (3, .i64), (5, .u8), (12, .u64), (21, .i32), (45, .i64), (46, .u64), (168, .u32)]
  strs := [9]
  bools := [4]
  ptrs := [(26, 40), (37, 88), (38, 97), (103, 58), (137, 55), (172, 5)]
  flds := [(13, [(0, 1), (1, 1)]), (24, [(0, 1), (1, 1), (2, 1), (3, 1), (4, 1)]), (25, [(0, 1), (1, 1), (2, 1), (3, 1), (4, 1)]), (32, [(0, 1), (1, 1)]), (33, [(0, 1), (1, 1)]), (35, [(0, 2), (2, 1), (3, 1), (4, 1), (5, 1), (6, 1)]), (36, [(0, 2), (2, 1), (3, 1), (4, 1), (5, 1), (6, 1)]), (39, [(0, 1), (1, 1), (2, 7)]), (40, [(0, 1), (1, 1), (2, 7)]), (42, [(0, 1), (1, 1), (2, 1), (3, 1), (4, 1), (5, 1)]), (43, [(0, 1), (1, 1), (2, 1), (3, 1), (4, 1), (5, 1)]), (47, [(0, 1), (1, 1), (2, 1), (3, 1), (4, 1), (5, 1)]), (48, [(0, 1), (1, 1), (2, 1), (3, 1), (4, 1), (5, 1)]), (49, [(0, 1), (1, 1), (2, 1), (3, 1), (4, 1), (5, 6)]), (50, [(0, 1), (1, 1), (2, 1), (3, 1), (4, 1), (5, 6)]), (51, [(0, 1), (1, 11), (12, 6)]), (52, [(0, 1), (1, 11), (12, 6)]), (54, [(0, 1), (1, 1), (2, 1), (3, 1)]), (55, [(0, 1), (1, 1), (2, 1), (3, 1)]), (56, [(0, 1), (1, 1), (2, 1), (3, 1), (4, 1), (5, 1), (6, 1), (7, 1), (8, 1), (9, 1), (10, 1), (11, 1), (12, 1), (13, 1), (14, 1), (15, 1), (16, 1), (17, 1), (18, 1), (19, 1), (20, 1), (21, 1), (22, 1), (23, 1), (24, 1), (25, 1), (26, 1), (27, 1), (28, 1), (29, 1), (30, 1), (31, 1)]), (57, [(0, 4), (4, 1), (5, 32)]), (58, [(0, 4), (4, 1), (5, 32)]), (76, [(0, 1), (1, 1), (2, 1), (3, 1), (4, 6)]), (77, [(0, 1), (1, 1), (2, 1), (3, 1), (4, 6)]), (82, [(0, 1), (1, 1), (2, 1)]), (83, [(0, 1), (1, 1), (2, 1)]), (87, [(0, 1), (1, 1), (2, 1), (3, 1), (4, 1), (5, 1)]), (88, [(0, 1), (1, 1), (2, 1), (3, 1), (4, 1), (5, 1)]), (96, [(0, 1), (1, 1), (2, 1)]), (97, [(0, 1), (1, 1), (2, 1)]), (102, [(0, 1), (1, 1), (2, 1)]), (145, [(0, 1), (1, 1), (2, 1), (3, 1)]), (146, [(0, 1), (1, 1), (2, 1), (3, 1)]), (149, [(0, 1), (1, 1), (2, 1), (3, 1)])]
  infs := [(3, 1, 8), (4, 1, 1), (5, 1, 1), (9, 1, 16), (23, 1, 24), (25, 5, 56), (43, 6, 40), (55, 4, 16), (58, 37, 56), (83, 3, 24), (102, 3, 24), (149, 4, 16)]
theorem tab_ok : TabOk Try.prog tab where
  offs := List.forall_mem_cons.2 ⟨fo_25_0, List.forall_mem_cons.2 ⟨fo_25_1, List.forall_mem_cons.2 ⟨fo_25_2, List.forall_mem_cons.2 ⟨fo_25_3, List.forall_mem_cons.2 ⟨fo_25_4, List.forall_mem_cons.2 ⟨fo_33_0, List.forall_mem_cons.2 ⟨fo_33_1, List.forall_mem_cons.2 ⟨fo_36_0, List.forall_mem_cons.2 ⟨fo_36_1, List.forall_mem_cons.2 ⟨fo_36_2, List.forall_mem_cons.2 ⟨fo_36_3, List.forall_mem_cons.2 ⟨fo_36_4, List.forall_mem_cons.2 ⟨fo_36_5, List.forall_mem_cons.2 ⟨fo_40_0, List.forall_mem_cons.2 ⟨fo_40_1, List.forall_mem_cons.2 ⟨fo_40_2, List.forall_mem_cons.2 ⟨fo_43_0, List.forall_mem_cons.2 ⟨fo_43_1, List.forall_mem_cons.2 ⟨fo_43_2, List.forall_mem_cons.2 ⟨fo_43_3, List.forall_mem_cons.2 ⟨fo_43_4, List.forall_mem_cons.2 ⟨fo_43_5, List.forall_mem_cons.2 ⟨fo_48_2, List.forall_mem_cons.2 ⟨fo_48_5, List.forall_mem_cons.2 ⟨fo_50_0, List.forall_mem_cons.2 ⟨fo_50_1, List.forall_mem_cons.2 ⟨fo_50_2, List.forall_mem_cons.2 ⟨fo_50_3, List.forall_mem_cons.2 ⟨fo_50_4, List.forall_mem_cons.2 ⟨fo_50_5, List.forall_mem_cons.2 ⟨fo_52_0, List.forall_mem_cons.2 ⟨fo_52_1, List.forall_mem_cons.2 ⟨fo_52_2, List.forall_mem_cons.2 ⟨fo_55_0, List.forall_mem_cons.2 ⟨fo_55_1, List.forall_mem_cons.2 ⟨fo_55_2, List.forall_mem_cons.2 ⟨fo_55_3, List.forall_mem_cons.2 ⟨fo_58_0, List.forall_mem_cons.2 ⟨fo_58_1, List.forall_mem_cons.2 ⟨fo_58_2, List.forall_mem_cons.2 ⟨fo_77_0, List.forall_mem_cons.2 ⟨fo_77_1, List.forall_mem_cons.2 ⟨fo_77_2, List.forall_mem_cons.2 ⟨fo_77_3, List.forall_mem_cons.2 ⟨fo_77_4, List.forall_mem_cons.2 ⟨fo_83_0, List.forall_mem_cons.2 ⟨fo_83_1, List.forall_mem_cons.2 ⟨fo_83_2, List.forall_mem_cons.2 ⟨fo_88_0, List.forall_mem_cons.2 ⟨fo_88_1, List.forall_mem_cons.2 ⟨fo_88_2, List.forall_mem_cons.2 ⟨fo_88_3, List.forall_mem_cons.2 ⟨fo_88_4, List.forall_mem_cons.2 ⟨fo_88_5, List.forall_mem_cons.2 ⟨fo_97_0, List.forall_mem_cons.2 ⟨fo_97_1, List.forall_mem_cons.2 ⟨fo_97_2, List.forall_mem_cons.2 ⟨fo_102_0, List.forall_mem_cons.2 ⟨fo_102_1, List.forall_mem_cons.2 ⟨fo_102_2, List.forall_mem_cons.2 ⟨fo_146_0, List.forall_mem_cons.2 ⟨fo_146_1, List.forall_mem_cons.2 ⟨fo_146_2, List.forall_mem_cons.2 ⟨fo_146_3, List.forall_mem_cons.2 ⟨fo_149_0, List.forall_mem_cons.2 ⟨fo_149_2, List.forall_mem_cons.2 ⟨fo_149_3, fun _ h => nomatch h⟩⟩⟩⟩⟩⟩⟩⟩⟩⟩⟩⟩⟩⟩⟩⟩⟩⟩⟩⟩⟩⟩⟩⟩⟩⟩⟩⟩⟩⟩⟩⟩⟩⟩⟩⟩⟩⟩⟩⟩⟩⟩⟩⟩⟩⟩⟩⟩⟩⟩⟩⟩⟩⟩⟩⟩⟩⟩⟩⟩⟩⟩⟩⟩⟩⟩⟩
  tys := List.forall_mem_cons.2 ⟨ty_1, List.forall_mem_cons.2 ⟨ty_2, List.forall_mem_cons.2 ⟨ty_3, List.forall_mem_cons.2 ⟨ty_4, List.forall_mem_cons.2 ⟨ty_5, List.forall_mem_cons.2 ⟨ty_9, List.forall_mem_cons.2 ⟨ty_12, List.forall_mem_cons.2 ⟨ty_13, List.forall_mem_cons.2 ⟨ty_20, List.forall_mem_cons.2 ⟨ty_21, List.forall_mem_cons.2 ⟨ty_22, List.forall_mem_cons.2 ⟨ty_23, List.forall_mem_cons.2 ⟨ty_24, List.forall_mem_cons.2 ⟨ty_25, List.forall_mem_cons.2 ⟨ty_26, List.forall_mem_cons.2 ⟨ty_27, List.forall_mem_cons.2 ⟨ty_28, List.forall_mem_cons.2 ⟨ty_29, List.forall_mem_cons.2 ⟨ty_30, List.forall_mem_cons.2 ⟨ty_31, List.forall_mem_cons.2 ⟨ty_32, List.forall_mem_cons.2 ⟨ty_33, List.forall_mem_cons.2 ⟨ty_34, List.forall_mem_cons.2 ⟨ty_35, List.forall_mem_cons.2 ⟨ty_36, List.forall_mem_cons.2 ⟨ty_37, List.forall_mem_cons.2 ⟨ty_38, List.forall_mem_cons.2 ⟨ty_39, List.forall_mem_cons.2 ⟨ty_40, List.forall_mem_cons.2 ⟨ty_41, List.forall_mem_cons.2 ⟨ty_42, List.forall_mem_cons.2 ⟨ty_43, List.forall_mem_cons.2 ⟨ty_44, List.forall_mem_cons.2 ⟨ty_45, List.forall_mem_cons.2 ⟨ty_46, List.forall_mem_cons.2 ⟨ty_47, List.forall_mem_cons.2 ⟨ty_48, List.forall_mem_cons.2 ⟨ty_49, List.forall_mem_cons.2 ⟨ty_50, List.forall_mem_cons.2 ⟨ty_51, List.forall_mem_cons.2 ⟨ty_52, List.forall_mem_cons.2 ⟨ty_53, List.forall_mem_cons.2 ⟨ty_54, List.forall_mem_cons.2 ⟨ty_55, List.forall_mem_cons.2 ⟨ty_56, List.forall_mem_cons.2 ⟨ty_57, List.forall_mem_cons.2 ⟨ty_58, List.forall_mem_cons.2 ⟨ty_59, List.forall_mem_cons.2 ⟨ty_60, List.forall_mem_cons.2 ⟨ty_61, List.forall_mem_cons.2 ⟨ty_62, List.forall_mem_cons.2 ⟨ty_63, List.forall_mem_cons.2 ⟨ty_64, List.forall_mem_cons.2 ⟨ty_65, List.forall_mem_cons.2 ⟨ty_66, List.forall_mem_cons.2 ⟨ty_67, List.forall_mem_cons.2 ⟨ty_68, List.forall_mem_cons.2 ⟨ty_69, List.forall_mem_cons.2 ⟨ty_70, List.forall_mem_cons.2 ⟨ty_71, List.forall_mem_cons.2 ⟨ty_73, List.forall_mem_cons.2 ⟨ty_74, List.forall_mem_cons.2 ⟨ty_75, List.forall_mem_cons.2 ⟨ty_76, List.forall_mem_cons.2 ⟨ty_77, List.forall_mem_cons.2 ⟨ty_79, List.forall_mem_cons.2 ⟨ty_80, List.forall_mem_cons.2 ⟨ty_81, List.forall_mem_cons.2 ⟨ty_82, List.forall_mem_cons.2 ⟨ty_83, List.forall_mem_cons.2 ⟨ty_85, List.forall_mem_cons.2 ⟨ty_86, List.forall_mem_cons.2 ⟨ty_87, List.forall_mem_cons.2 ⟨ty_88, List.forall_mem_cons.2 ⟨ty_89, List.forall_mem_cons.2 ⟨ty_90, List.forall_mem_cons.2 ⟨ty_91, List.forall_mem_cons.2 ⟨ty_92, List.forall_mem_cons.2 ⟨ty_93, List.forall_mem_cons.2 ⟨ty_94, List.forall_mem_cons.2 ⟨ty_95, List.forall_mem_cons.2 ⟨ty_96, List.forall_mem_cons.2 ⟨ty_97, List.forall_mem_cons.2 ⟨ty_98, List.forall_mem_cons.2 ⟨ty_99, List.forall_mem_cons.2 ⟨ty_100, List.forall_mem_cons.2 ⟨ty_101, List.forall_mem_cons.2 ⟨ty_102, List.forall_mem_cons.2 ⟨ty_103, List.forall_mem_cons.2 ⟨ty_104, List.forall_mem_cons.2 ⟨ty_105, List.forall_mem_cons.2 ⟨ty_106, List.forall_mem_cons.2 ⟨ty_108, List.forall_mem_cons.2 ⟨ty_109, List.forall_mem_cons.2 ⟨ty_111, List.forall_mem_cons.2 ⟨ty_112, List.forall_mem_cons.2 ⟨ty_113, List.forall_mem_cons.2 ⟨ty_115, List.forall_mem_cons.2 ⟨ty_116, List.forall_mem_cons.2 ⟨ty_117, List.forall_mem_cons.2 ⟨ty_118, List.forall_mem_cons.2 ⟨ty_119, List.forall_mem_cons.2 ⟨ty_120, List.forall_mem_cons.2 ⟨ty_122, List.forall_mem_cons.2 ⟨ty_123, List.forall_mem_cons.2 ⟨ty_124, List.forall_mem_cons.2 ⟨ty_125, List.forall_mem_cons.2 ⟨ty_127, List.forall_mem_cons.2 ⟨ty_129, List.forall_mem_cons.2 ⟨ty_130, List.forall_mem_cons.2 ⟨ty_132, List.forall_mem_cons.2 ⟨ty_134, List.forall_mem_cons.2 ⟨ty_135, List.forall_mem_cons.2 ⟨ty_136, List.forall_mem_cons.2 ⟨ty_137, List.forall_mem_cons.2 ⟨ty_138, List.forall_mem_cons.2 ⟨ty_139, List.forall_mem_cons.2 ⟨ty_140, List.forall_mem_cons.2 ⟨ty_141, List.forall_mem_cons.2 ⟨ty_142, List.forall_mem_cons.2 ⟨ty_143, List.forall_mem_cons.2 ⟨ty_144, List.forall_mem_cons.2 ⟨ty_145, List.forall_mem_cons.2 ⟨ty_146, List.forall_mem_cons.2 ⟨ty_147, List.forall_mem_cons.2 ⟨ty_148, List.forall_mem_cons.2 ⟨ty_149, List.forall_mem_cons.2 ⟨ty_150, List.forall_mem_cons.2 ⟨ty_151, List.forall_mem_cons.2 ⟨ty_152, List.forall_mem_cons.2 ⟨ty_154, List.forall_mem_cons.2 ⟨ty_155, List.forall_mem_cons.2 ⟨ty_156, List.forall_mem_cons.2 ⟨ty_158, List.forall_mem_cons.2 ⟨ty_159, List.forall_mem_cons.2 ⟨ty_160, List.forall_mem_cons.2 ⟨ty_161, List.forall_mem_cons.2 ⟨ty_162, List.forall_mem_cons.2 ⟨ty_168, List.forall_mem_cons.2 ⟨ty_171, List.forall_mem_cons.2 ⟨ty_172, List.forall_mem_cons.2 ⟨ty_177, fun _ h => nomatch h⟩⟩⟩⟩⟩⟩⟩⟩⟩⟩⟩⟩⟩⟩⟩⟩⟩⟩⟩⟩⟩⟩⟩⟩⟩⟩⟩⟩⟩⟩⟩⟩⟩⟩⟩⟩⟩⟩⟩⟩⟩⟩⟩⟩⟩⟩⟩⟩⟩⟩⟩⟩⟩⟩⟩⟩⟩⟩⟩⟩⟩⟩⟩⟩⟩⟩⟩⟩⟩⟩⟩⟩⟩⟩⟩⟩⟩⟩⟩⟩⟩⟩⟩⟩⟩⟩⟩⟩⟩⟩⟩⟩⟩⟩⟩⟩⟩⟩⟩⟩⟩⟩⟩⟩⟩⟩⟩⟩⟩⟩⟩⟩⟩⟩⟩⟩⟩⟩⟩⟩⟩⟩⟩⟩⟩⟩⟩⟩⟩⟩⟩⟩⟩⟩⟩⟩⟩⟩⟩⟩⟩⟩
  zeros := List.forall_mem_cons.2 ⟨ze_1, List.forall_mem_cons.2 ⟨ze_2, List.forall_mem_cons.2 ⟨ze_3, List.forall_mem_cons.2 ⟨ze_4, List.forall_mem_cons.2 ⟨ze_5, List.forall_mem_cons.2 ⟨ze_9, List.forall_mem_cons.2 ⟨ze_12, List.forall_mem_cons.2 ⟨ze_13, List.forall_mem_cons.2 ⟨ze_20, List.forall_mem_cons.2 ⟨ze_21, List.forall_mem_cons.2 ⟨ze_22, List.forall_mem_cons.2 ⟨ze_23, List.forall_mem_cons.2 ⟨ze_24, List.forall_mem_cons.2 ⟨ze_25, List.forall_mem_cons.2 ⟨ze_26, List.forall_mem_cons.2 ⟨ze_27, List.forall_mem_cons.2 ⟨ze_28, List.forall_mem_cons.2 ⟨ze_29, List.forall_mem_cons.2 ⟨ze_30, List.forall_mem_cons.2 ⟨ze_31, List.forall_mem_cons.2 ⟨ze_32, List.forall_mem_cons.2 ⟨ze_33, List.forall_mem_cons.2 ⟨ze_34, List.forall_mem_cons.2 ⟨ze_35, List.forall_mem_cons.2 ⟨ze_36, List.forall_mem_cons.2 ⟨ze_37, List.forall_mem_cons.2 ⟨ze_38, List.forall_mem_cons.2 ⟨ze_39, List.forall_mem_cons.2 ⟨ze_40, List.forall_mem_cons.2 ⟨ze_41, List.forall_mem_cons.2 ⟨ze_42, List.forall_mem_cons.2 ⟨ze_43, List.forall_mem_cons.2 ⟨ze_44, List.forall_mem_cons.2 ⟨ze_45, List.forall_mem_cons.2 ⟨ze_46, List.forall_mem_cons.2 ⟨ze_47, List.forall_mem_cons.2 ⟨ze_48, List.forall_mem_cons.2 ⟨ze_49, List.forall_mem_cons.2 ⟨ze_50, List.forall_mem_cons.2 ⟨ze_51, List.forall_mem_cons.2 ⟨ze_52, List.forall_mem_cons.2 ⟨ze_53, List.forall_mem_cons.2 ⟨ze_54, List.forall_mem_cons.2 ⟨ze_55, List.forall_mem_cons.2 ⟨ze_56, List.forall_mem_cons.2 ⟨ze_57, List.forall_mem_cons.2 ⟨ze_58, List.forall_mem_cons.2 ⟨ze_59, List.forall_mem_cons.2 ⟨ze_60, List.forall_mem_cons.2 ⟨ze_61, List.forall_mem_cons.2 ⟨ze_62, List.forall_mem_cons.2 ⟨ze_63, List.forall_mem_cons.2 ⟨ze_64, List.forall_mem_cons.2 ⟨ze_65, List.forall_mem_cons.2 ⟨ze_66, List.forall_mem_cons.2 ⟨ze_67, List.forall_mem_cons.2 ⟨ze_68, List.forall_mem_cons.2 ⟨ze_69, List.forall_mem_cons.2 ⟨ze_70, List.forall_mem_cons.2 ⟨ze_71, List.forall_mem_cons.2 ⟨ze_73, List.forall_mem_cons.2 ⟨ze_74, List.forall_mem_cons.2 ⟨ze_75, List.forall_mem_cons.2 ⟨ze_76, List.forall_mem_cons.2 ⟨ze_77, List.forall_mem_cons.2 ⟨ze_79, List.forall_mem_cons.2 ⟨ze_80, List.forall_mem_cons.2 ⟨ze_81, List.forall_mem_cons.2 ⟨ze_82, List.forall_mem_cons.2 ⟨ze_83, List.forall_mem_cons.2 ⟨ze_85, List.forall_mem_cons.2 ⟨ze_86, List.forall_mem_cons.2 ⟨ze_87, List.forall_mem_cons.2 ⟨ze_88, List.forall_mem_cons.2 ⟨ze_89, List.forall_mem_cons.2 ⟨ze_90, List.forall_mem_cons.2 ⟨ze_91, List.forall_mem_cons.2 ⟨ze_92, List.forall_mem_cons.2 ⟨ze_93, List.forall_mem_cons.2 ⟨ze_94, List.forall_mem_cons.2 ⟨ze_95, List.forall_mem_cons.2 ⟨ze_96, List.forall_mem_cons.2 ⟨ze_97, List.forall_mem_cons.2 ⟨ze_98, List.forall_mem_cons.2 ⟨ze_99, List.forall_mem_cons.2 ⟨ze_100, List.forall_mem_cons.2 ⟨ze_101, List.forall_mem_cons.2 ⟨ze_102, List.forall_mem_cons.2 ⟨ze_103, List.forall_mem_cons.2 ⟨ze_104, List.forall_mem_cons.2 ⟨ze_105, List.forall_mem_cons.2 ⟨ze_106, List.forall_mem_cons.2 ⟨ze_108, List.forall_mem_cons.2 ⟨ze_109, List.forall_mem_cons.2 ⟨ze_111, List.forall_mem_cons.2 ⟨ze_112, List.forall_mem_cons.2 ⟨ze_113, List.forall_mem_cons.2 ⟨ze_115, List.forall_mem_cons.2 ⟨ze_116, List.forall_mem_cons.2 ⟨ze_117, List.forall_mem_cons.2 ⟨ze_118, List.forall_mem_cons.2 ⟨ze_119, List.forall_mem_cons.2 ⟨ze_120, List.forall_mem_cons.2 ⟨ze_122, List.forall_mem_cons.2 ⟨ze_123, List.forall_mem_cons.2 ⟨ze_124, List.forall_mem_cons.2 ⟨ze_125, List.forall_mem_cons.2 ⟨ze_127, List.forall_mem_cons.2 ⟨ze_129, List.forall_mem_cons.2 ⟨ze_130, List.forall_mem_cons.2 ⟨ze_132, List.forall_mem_cons.2 ⟨ze_134, List.forall_mem_cons.2 ⟨ze_135, List.forall_mem_cons.2 ⟨ze_136, List.forall_mem_cons.2 ⟨ze_137, List.forall_mem_cons.2 ⟨ze_138, List.forall_mem_cons.2 ⟨ze_139, List.forall_mem_cons.2 ⟨ze_140, List.forall_mem_cons.2 ⟨ze_141, List.forall_mem_cons.2 ⟨ze_142, List.forall_mem_cons.2 ⟨ze_143, List.forall_mem_cons.2 ⟨ze_144, List.forall_mem_cons.2 ⟨ze_145, List.forall_mem_cons.2 ⟨ze_146, List.forall_mem_cons.2 ⟨ze_147, List.forall_mem_cons.2 ⟨ze_148, List.forall_mem_cons.2 ⟨ze_149, List.forall_mem_cons.2 ⟨ze_150, List.forall_mem_cons.2 ⟨ze_151, List.forall_mem_cons.2 ⟨ze_152, List.forall_mem_cons.2 ⟨ze_154, List.forall_mem_cons.2 ⟨ze_155, List.forall_mem_cons.2 ⟨ze_156, List.forall_mem_cons.2 ⟨ze_158, List.forall_mem_cons.2 ⟨ze_159, List.forall_mem_cons.2 ⟨ze_160, List.forall_mem_cons.2 ⟨ze_161, List.forall_mem_cons.2 ⟨ze_162, List.forall_mem_cons.2 ⟨ze_168, List.forall_mem_cons.2 ⟨ze_171, List.forall_mem_cons.2 ⟨ze_172, List.forall_mem_cons.2 ⟨ze_177, fun _ h => nomatch h⟩⟩⟩⟩⟩⟩⟩⟩⟩⟩⟩⟩⟩⟩⟩⟩⟩⟩⟩⟩⟩⟩⟩⟩⟩⟩⟩⟩⟩⟩⟩⟩⟩⟩⟩⟩⟩⟩⟩⟩⟩⟩⟩⟩⟩⟩⟩⟩⟩⟩⟩⟩⟩⟩⟩⟩⟩⟩⟩⟩⟩⟩⟩⟩⟩⟩⟩⟩⟩⟩⟩⟩⟩⟩⟩⟩⟩⟩⟩⟩⟩⟩⟩⟩⟩⟩⟩⟩⟩⟩⟩⟩⟩⟩⟩⟩⟩⟩⟩⟩⟩⟩⟩⟩⟩⟩⟩⟩⟩⟩⟩⟩⟩⟩⟩⟩⟩⟩⟩⟩⟩⟩⟩⟩⟩⟩⟩⟩⟩⟩⟩⟩⟩⟩⟩⟩⟩⟩⟩⟩⟩⟩
  sls := List.forall_mem_cons.2 ⟨Try.underlying22, List.forall_mem_cons.2 ⟨Try.underlying23, List.forall_mem_cons.2 ⟨Try.underlying31, List.forall_mem_cons.2 ⟨Try.underlying34, List.forall_mem_cons.2 ⟨Try.underlying64, List.forall_mem_cons.2 ⟨Try.underlying68, List.forall_mem_cons.2 ⟨Try.underlying70, List.forall_mem_cons.2 ⟨Try.underlying86, List.forall_mem_cons.2 ⟨Try.underlying94, List.forall_mem_cons.2 ⟨Try.underlying125, List.forall_mem_cons.2 ⟨Try.underlying144, List.forall_mem_cons.2 ⟨Try.underlying152, fun _ h => nomatch h⟩⟩⟩⟩⟩⟩⟩⟩⟩⟩⟩⟩
  ars := List.forall_mem_cons.2 ⟨Try.underlying56, fun _ h => nomatch h⟩
  ints := List.forall_mem_cons.2 ⟨Try.underlying2, List.forall_mem_cons.2 ⟨Try.underlying3, List.forall_mem_cons.2 ⟨Try.underlying5, List.forall_mem_cons.2 ⟨Try.underlying12, List.forall_mem_cons.2 ⟨Try.underlying21, List.forall_mem_cons.2 ⟨Try.underlying45, List.forall_mem_cons.2 ⟨Try.underlying46, List.forall_mem_cons.2 ⟨Try.underlying168, fun _ h => nomatch h⟩⟩⟩⟩⟩⟩⟩⟩
  strs := List.forall_mem_cons.2 ⟨Try.underlying9, fun _ h => nomatch h⟩
  bools := List.forall_mem_cons.2 ⟨Try.underlying4, fun _ h => nomatch h⟩
  ptrs := List.forall_mem_cons.2 ⟨Try.underlying26, List.forall_mem_cons.2 ⟨Try.underlying37, List.forall_mem_cons.2 ⟨Try.underlying38, List.forall_mem_cons.2 ⟨Try.underlying103, List.forall_mem_cons.2 ⟨Try.underlying137, List.forall_mem_cons.2 ⟨Try.underlying172, fun _ h => nomatch h⟩⟩⟩⟩⟩⟩
  flds := List.forall_mem_cons.2 ⟨fl_13, List.forall_mem_cons.2 ⟨fl_24, List.forall_mem_cons.2 ⟨fl_25, List.forall_mem_cons.2 ⟨fl_32, List.forall_mem_cons.2 ⟨fl_33, List.forall_mem_cons.2 ⟨fl_35, List.forall_mem_cons.2 ⟨fl_36, List.forall_mem_cons.2 ⟨fl_39, List.forall_mem_cons.2 ⟨fl_40, List.forall_mem_cons.2 ⟨fl_42, List.forall_mem_cons.2 ⟨fl_43, List.forall_mem_cons.2 ⟨fl_47, List.forall_mem_cons.2 ⟨fl_48, List.forall_mem_cons.2 ⟨fl_49, List.forall_mem_cons.2 ⟨fl_50, List.forall_mem_cons.2 ⟨fl_51, List.forall_mem_cons.2 ⟨fl_52, List.forall_mem_cons.2 ⟨fl_54, List.forall_mem_cons.2 ⟨fl_55, List.forall_mem_cons.2 ⟨fl_56, List.forall_mem_cons.2 ⟨fl_57, List.forall_mem_cons.2 ⟨fl_58, List.forall_mem_cons.2 ⟨fl_76, List.forall_mem_cons.2 ⟨fl_77, List.forall_mem_cons.2 ⟨fl_82, List.forall_mem_cons.2 ⟨fl_83, List.forall_mem_cons.2 ⟨fl_87, List.forall_mem_cons.2 ⟨fl_88, List.forall_mem_cons.2 ⟨fl_96, List.forall_mem_cons.2 ⟨fl_97, List.forall_mem_cons.2 ⟨fl_102, List.forall_mem_cons.2 ⟨fl_145, List.forall_mem_cons.2 ⟨fl_146, List.forall_mem_cons.2 ⟨fl_149, fun _ h => nomatch h⟩⟩⟩⟩⟩⟩⟩⟩⟩⟩⟩⟩⟩⟩⟩⟩⟩⟩⟩⟩⟩⟩⟩⟩⟩⟩⟩⟩⟩⟩⟩⟩⟩⟩
  infs := List.forall_mem_cons.2 ⟨in_3, List.forall_mem_cons.2 ⟨in_4, List.forall_mem_cons.2 ⟨in_5, List.forall_mem_cons.2 ⟨in_9, List.forall_mem_cons.2 ⟨in_23, List.forall_mem_cons.2 ⟨in_25, List.forall_mem_cons.2 ⟨in_43, List.forall_mem_cons.2 ⟨in_55, List.forall_mem_cons.2 ⟨in_58, List.forall_mem_cons.2 ⟨in_83, List.forall_mem_cons.2 ⟨in_102, List.forall_mem_cons.2 ⟨in_149, fun _ h => nomatch h⟩⟩⟩⟩⟩⟩⟩⟩⟩⟩⟩⟩
theorem follows : Try.prog.follows .mixedOrders = true := by kernel_rfl
end Go.Proofs.Ytgipjpiiomgjjaa
