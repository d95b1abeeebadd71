/-
  What the types of this seat are, as the walks ask it.
-/
import Derived.Test.YtjpinfnbamigcaaProg
import Derived.KernelRfl
import Derived.Test.YtjpinfnbamigcaaSr
namespace Go.Proofs.Ytjpinfnbamigcaa
open Go Go.Sl
set_option maxRecDepth 20000
theorem fo_28_0 : FieldAt Try.prog (28, 0, 0) := by intro b o w; simp [Instr.fieldAt, Instr.sureAddr, fieldPlace, Go.Sl.Addr.add_none']
theorem fo_28_1 : FieldAt Try.prog (28, 1, 1) := by intro b o w; simp [Instr.fieldAt, Instr.sureAddr, fieldPlace, Go.Sl.Addr.add_none']
theorem fo_28_2 : FieldAt Try.prog (28, 2, 2) := by intro b o w; simp [Instr.fieldAt, Instr.sureAddr, fieldPlace, Go.Sl.Addr.add_none']
theorem fo_28_3 : FieldAt Try.prog (28, 3, 3) := by intro b o w; simp [Instr.fieldAt, Instr.sureAddr, fieldPlace, Go.Sl.Addr.add_none']
theorem fo_28_4 : FieldAt Try.prog (28, 4, 4) := by intro b o w; simp [Instr.fieldAt, Instr.sureAddr, fieldPlace, Go.Sl.Addr.add_none']
theorem fo_28_5 : FieldAt Try.prog (28, 5, 5) := by intro b o w; simp [Instr.fieldAt, Instr.sureAddr, fieldPlace, Go.Sl.Addr.add_none']
theorem ty_1 : IsAgg Try.prog 1 false ∧ SizeOf Try.prog 1 1 := ⟨Try.isAgg1, Try.sizeOf1⟩
theorem ty_2 : IsAgg Try.prog 2 false ∧ SizeOf Try.prog 2 1 := ⟨Try.isAgg2, Try.sizeOf2⟩
theorem ty_3 : IsAgg Try.prog 3 false ∧ SizeOf Try.prog 3 1 := ⟨Try.isAgg3, Try.sizeOf3⟩
theorem ty_4 : IsAgg Try.prog 4 false ∧ SizeOf Try.prog 4 1 := ⟨Try.isAgg4, Try.sizeOf4⟩
theorem ty_5 : IsAgg Try.prog 5 false ∧ SizeOf Try.prog 5 1 := ⟨Try.isAgg5, Try.sizeOf5⟩
theorem ty_9 : IsAgg Try.prog 9 false ∧ SizeOf Try.prog 9 1 := ⟨Try.isAgg9, Try.sizeOf9⟩
theorem ty_12 : IsAgg Try.prog 12 false ∧ SizeOf Try.prog 12 1 := ⟨Try.isAgg12, Try.sizeOf12⟩
theorem ty_13 : IsAgg Try.prog 13 true ∧ SizeOf Try.prog 13 2 := ⟨Try.isAgg13, Try.sizeOf13⟩
theorem ty_20 : IsAgg Try.prog 20 false ∧ SizeOf Try.prog 20 1 := ⟨Try.isAgg20, Try.sizeOf20⟩
theorem ty_21 : IsAgg Try.prog 21 false ∧ SizeOf Try.prog 21 1 := ⟨Try.isAgg21, Try.sizeOf21⟩
theorem ty_22 : IsAgg Try.prog 22 false ∧ SizeOf Try.prog 22 1 := ⟨Try.isAgg22, Try.sizeOf22⟩
theorem ty_23 : IsAgg Try.prog 23 false ∧ SizeOf Try.prog 23 1 := ⟨Try.isAgg23, Try.sizeOf23⟩
theorem ty_24 : IsAgg Try.prog 24 false ∧ SizeOf Try.prog 24 1 := ⟨Try.isAgg24, Try.sizeOf24⟩
theorem ty_25 : IsAgg Try.prog 25 false ∧ SizeOf Try.prog 25 1 := ⟨Try.isAgg25, Try.sizeOf25⟩
theorem ty_26 : IsAgg Try.prog 26 false ∧ SizeOf Try.prog 26 1 := ⟨Try.isAgg26, Try.sizeOf26⟩
theorem ty_27 : IsAgg Try.prog 27 true ∧ SizeOf Try.prog 27 6 := ⟨Try.isAgg27, Try.sizeOf27⟩
theorem ty_28 : IsAgg Try.prog 28 true ∧ SizeOf Try.prog 28 6 := ⟨Try.isAgg28, Try.sizeOf28⟩
theorem ty_29 : IsAgg Try.prog 29 false ∧ SizeOf Try.prog 29 1 := ⟨Try.isAgg29, Try.sizeOf29⟩
theorem ty_31 : IsAgg Try.prog 31 false ∧ SizeOf Try.prog 31 1 := ⟨Try.isAgg31, Try.sizeOf31⟩
theorem ty_32 : IsAgg Try.prog 32 false ∧ SizeOf Try.prog 32 1 := ⟨Try.isAgg32, Try.sizeOf32⟩
theorem ty_33 : IsAgg Try.prog 33 false ∧ SizeOf Try.prog 33 1 := ⟨Try.isAgg33, Try.sizeOf33⟩
theorem ty_34 : IsAgg Try.prog 34 false ∧ SizeOf Try.prog 34 1 := ⟨Try.isAgg34, Try.sizeOf34⟩
theorem ty_35 : IsAgg Try.prog 35 false ∧ SizeOf Try.prog 35 1 := ⟨Try.isAgg35, Try.sizeOf35⟩
theorem ty_36 : IsAgg Try.prog 36 false ∧ SizeOf Try.prog 36 1 := ⟨Try.isAgg36, Try.sizeOf36⟩
theorem ty_37 : IsAgg Try.prog 37 false ∧ SizeOf Try.prog 37 1 := ⟨Try.isAgg37, Try.sizeOf37⟩
theorem ty_38 : IsAgg Try.prog 38 false ∧ SizeOf Try.prog 38 1 := ⟨Try.isAgg38, Try.sizeOf38⟩
theorem ty_39 : IsAgg Try.prog 39 false ∧ SizeOf Try.prog 39 1 := ⟨Try.isAgg39, Try.sizeOf39⟩
theorem ty_40 : IsAgg Try.prog 40 false ∧ SizeOf Try.prog 40 1 := ⟨Try.isAgg40, Try.sizeOf40⟩
theorem ty_41 : IsAgg Try.prog 41 false ∧ SizeOf Try.prog 41 1 := ⟨Try.isAgg41, Try.sizeOf41⟩
theorem ty_42 : IsAgg Try.prog 42 false ∧ SizeOf Try.prog 42 1 := ⟨Try.isAgg42, Try.sizeOf42⟩
theorem ty_43 : IsAgg Try.prog 43 true ∧ SizeOf Try.prog 43 6 := ⟨Try.isAgg43, Try.sizeOf43⟩
theorem ty_44 : IsAgg Try.prog 44 false ∧ SizeOf Try.prog 44 1 := ⟨Try.isAgg44, Try.sizeOf44⟩
theorem ty_45 : IsAgg Try.prog 45 false ∧ SizeOf Try.prog 45 1 := ⟨Try.isAgg45, Try.sizeOf45⟩
theorem ty_46 : IsAgg Try.prog 46 false ∧ SizeOf Try.prog 46 1 := ⟨Try.isAgg46, Try.sizeOf46⟩
theorem ty_47 : IsAgg Try.prog 47 true ∧ SizeOf Try.prog 47 6 := ⟨Try.isAgg47, Try.sizeOf47⟩
theorem ty_49 : IsAgg Try.prog 49 false ∧ SizeOf Try.prog 49 1 := ⟨Try.isAgg49, Try.sizeOf49⟩
theorem ty_50 : IsAgg Try.prog 50 false ∧ SizeOf Try.prog 50 1 := ⟨Try.isAgg50, Try.sizeOf50⟩
theorem ty_56 : IsAgg Try.prog 56 false ∧ SizeOf Try.prog 56 1 := ⟨Try.isAgg56, Try.sizeOf56⟩
theorem ty_57 : IsAgg Try.prog 57 false ∧ SizeOf Try.prog 57 1 := ⟨Try.isAgg57, Try.sizeOf57⟩
theorem ty_60 : IsAgg Try.prog 60 false ∧ SizeOf Try.prog 60 1 := ⟨Try.isAgg60, Try.sizeOf60⟩
theorem ty_61 : IsAgg Try.prog 61 false ∧ SizeOf Try.prog 61 1 := ⟨Try.isAgg61, Try.sizeOf61⟩
theorem ty_66 : IsAgg Try.prog 66 false ∧ SizeOf Try.prog 66 1 := ⟨Try.isAgg66, Try.sizeOf66⟩
theorem ze_1 : ZeroOf Try.prog 1 (.nilFunc) := Try.zeroValue1
theorem ze_2 : ZeroOf Try.prog 2 (.int .i64 0) := Try.zeroValue2
theorem ze_3 : ZeroOf Try.prog 3 (.int .i64 0) := Try.zeroValue3
theorem ze_4 : ZeroOf Try.prog 4 (.bool false) := Try.zeroValue4
theorem ze_5 : ZeroOf Try.prog 5 (.int .u8 0) := Try.zeroValue5
theorem ze_9 : ZeroOf Try.prog 9 (.string ⟨#[]⟩) := Try.zeroValue9
theorem ze_12 : ZeroOf Try.prog 12 (.int .u64 0) := Try.zeroValue12
theorem ze_13 : ZeroOf Try.prog 13 (.agg #[.string ⟨#[]⟩, .int .u64 0]) := Try.zeroValue13
theorem ze_20 : ZeroOf Try.prog 20 (.nilIface) := Try.zeroValue20
theorem ze_21 : ZeroOf Try.prog 21 (.int .i32 0) := Try.zeroValue21
theorem ze_22 : ZeroOf Try.prog 22 (.slice none 0 0) := Try.zeroValue22
theorem ze_23 : ZeroOf Try.prog 23 (.nilFunc) := Try.zeroValue23
theorem ze_24 : ZeroOf Try.prog 24 (.nilFunc) := Try.zeroValue24
theorem ze_25 : ZeroOf Try.prog 25 (.nilFunc) := Try.zeroValue25
theorem ze_26 : ZeroOf Try.prog 26 (.int .u64 0) := Try.zeroValue26
theorem ze_27 : ZeroOf Try.prog 27 (.agg #[.int .u64 0, .int .u64 0, .int .u64 0, .int .u64 0, .int .u64 0, .int .u64 0]) := Try.zeroValue27
theorem ze_28 : ZeroOf Try.prog 28 (.agg #[.int .u64 0, .int .u64 0, .int .u64 0, .int .u64 0, .int .u64 0, .int .u64 0]) := Try.zeroValue28
theorem ze_29 : ZeroOf Try.prog 29 (.nilFunc) := Try.zeroValue29
theorem ze_31 : ZeroOf Try.prog 31 (.nilFunc) := Try.zeroValue31
theorem ze_32 : ZeroOf Try.prog 32 (.nilFunc) := Try.zeroValue32
theorem ze_33 : ZeroOf Try.prog 33 (.slice none 0 0) := Try.zeroValue33
theorem ze_34 : ZeroOf Try.prog 34 (.slice none 0 0) := Try.zeroValue34
theorem ze_35 : ZeroOf Try.prog 35 (.nilFunc) := Try.zeroValue35
theorem ze_36 : ZeroOf Try.prog 36 (.nilFunc) := Try.zeroValue36
theorem ze_37 : ZeroOf Try.prog 37 (.nilFunc) := Try.zeroValue37
theorem ze_38 : ZeroOf Try.prog 38 (.slice none 0 0) := Try.zeroValue38
theorem ze_39 : ZeroOf Try.prog 39 (.nilFunc) := Try.zeroValue39
theorem ze_40 : ZeroOf Try.prog 40 (.nilFunc) := Try.zeroValue40
theorem ze_41 : ZeroOf Try.prog 41 (.nilFunc) := Try.zeroValue41
theorem ze_42 : ZeroOf Try.prog 42 (.nilFunc) := Try.zeroValue42
theorem ze_43 : ZeroOf Try.prog 43 (.agg #[.string ⟨#[]⟩, .string ⟨#[]⟩, .string ⟨#[]⟩, .string ⟨#[]⟩, .string ⟨#[]⟩, .string ⟨#[]⟩]) := Try.zeroValue43
theorem ze_44 : ZeroOf Try.prog 44 (.pointer none) := Try.zeroValue44
theorem ze_45 : ZeroOf Try.prog 45 (.nilFunc) := Try.zeroValue45
theorem ze_46 : ZeroOf Try.prog 46 (.pointer none) := Try.zeroValue46
theorem ze_47 : ZeroOf Try.prog 47 (.agg #[.pointer none, .pointer none, .pointer none, .pointer none, .pointer none, .pointer none]) := Try.zeroValue47
theorem ze_49 : ZeroOf Try.prog 49 (.nilFunc) := Try.zeroValue49
theorem ze_50 : ZeroOf Try.prog 50 (.nilFunc) := Try.zeroValue50
theorem ze_56 : ZeroOf Try.prog 56 (.nilFunc) := Try.zeroValue56
theorem ze_57 : ZeroOf Try.prog 57 (.int .u32 0) := Try.zeroValue57
theorem ze_60 : ZeroOf Try.prog 60 (.nilFunc) := Try.zeroValue60
theorem ze_61 : ZeroOf Try.prog 61 (.pointer none) := Try.zeroValue61
theorem ze_66 : ZeroOf Try.prog 66 (.pointer none) := Try.zeroValue66
theorem fl_13 : PlacesOk Try.prog (13, [(0, 1), (1, 1)]) := .inl ⟨_, Try.underlying13, fun w => by simp⟩
theorem fl_27 : PlacesOk Try.prog (27, [(0, 1), (1, 1), (2, 1), (3, 1), (4, 1), (5, 1)]) := .inl ⟨_, Try.underlying27, fun w => by simp⟩
theorem fl_28 : PlacesOk Try.prog (28, [(0, 1), (1, 1), (2, 1), (3, 1), (4, 1), (5, 1)]) := .inl ⟨_, Try.underlying28, fun w => by simp⟩
theorem fl_43 : PlacesOk Try.prog (43, [(0, 1), (1, 1), (2, 1), (3, 1), (4, 1), (5, 1)]) := .inr ⟨_, _, _, Try.underlying43, Try.sizeOf9, rfl⟩
theorem fl_47 : PlacesOk Try.prog (47, [(0, 1), (1, 1), (2, 1), (3, 1), (4, 1), (5, 1)]) := .inr ⟨_, _, _, Try.underlying47, Try.sizeOf44, rfl⟩
theorem in_3 : InfOk Try.prog 3 1 8 := ⟨Try.t3, _, rfl, rfl, rfl, rfl, rfl, by decide⟩
theorem in_9 : InfOk Try.prog 9 1 16 := ⟨Try.t9, _, rfl, rfl, rfl, rfl, rfl, by decide⟩
theorem in_26 : InfOk Try.prog 26 1 8 := ⟨Try.t26, _, rfl, rfl, rfl, rfl, rfl, by decide⟩
theorem in_28 : InfOk Try.prog 28 6 48 := ⟨Try.t28, _, rfl, rfl, rfl, rfl, rfl, by decide⟩
def tab : Tab where
  offs := [(28, 0, 0), (28, 1, 1), (28, 2, 2), (28, 3, 3), (28, 4, 4), (28, 5, 5)]
  tys := [(1, false, 1), (2, false, 1), (3, false, 1), (4, false, 1), (5, false, 1), (9, false, 1), (12, false, 1), (13, true, 2), (20, false, 1), (21, false, 1), (22, false, 1), (23, false, 1), (24, false, 1), (25, false, 1), (26, false, 1), (27, true, 6), (28, true, 6), (29, false, 1), (31, false, 1), (32, false, 1), (33, false, 1), (34, false, 1), (35, false, 1), (36, false, 1), (37, false, 1), (38, false, 1), (39, false, 1), (40, false, 1), (41, false, 1), (42, false, 1), (43, true, 6), (44, false, 1), (45, false, 1), (46, false, 1), (47, true, 6), (49, false, 1), (50, false, 1), (56, false, 1), (57, false, 1), (60, false, 1), (61, false, 1), (66, false, 1)]
  zeros := [(1, .nilFunc), (2, .int .i64 0), (3, .int .i64 0), (4, .bool false), (5, .int .u8 0), (9, .string ⟨#[]⟩), (12, .int .u64 0), (13, .agg #[.string ⟨#[]⟩, .int .u64 0]), (20, .nilIface), (21, .int .i32 0), (22, .slice none 0 0), (23, .nilFunc), (24, .nilFunc), (25, .nilFunc), (26, .int .u64 0), (27, .agg #[.int .u64 0, .int .u64 0, .int .u64 0, .int .u64 0, .int .u64 0, .int .u64 0]), (28, .agg #[.int .u64 0, .int .u64 0, .int .u64 0, .int .u64 0, .int .u64 0, .int .u64 0]), (29, .nilFunc), (31, .nilFunc), (32, .nilFunc), (33, .slice none 0 0), (34, .slice none 0 0), (35, .nilFunc), (36, .nilFunc), (37, .nilFunc), (38, .slice none 0 0), (39, .nilFunc), (40, .nilFunc), (41, .nilFunc), (42, .nilFunc), (43, .agg #[.string ⟨#[]⟩, .string ⟨#[]⟩, .string ⟨#[]⟩, .string ⟨#[]⟩, .string ⟨#[]⟩, .string ⟨#[]⟩]), (44, .pointer none), (45, .nilFunc), (46, .pointer none), (47, .agg #[.pointer none, .pointer none, .pointer none, .pointer none, .pointer none, .pointer none]), (49, .nilFunc), (50, .nilFunc), (56, .nilFunc), (57, .int .u32 0), (60, .nilFunc), (61, .pointer none), (66, .pointer none)]
  sls := [(22, 9), (33, 3), (34, 26), (38, 28)]
  ars := [(43, 6, 9), (47, 6, 44)]
  ints := [(2, .i64), (3, .i64), (5, .u8), (12, .u64), (21, .i32), (26, .u64), (57, .u32)]
  strs := [9]
  bools := [4]
  ptrs := [(44, 26), (46, 28), (61, 5)]
  flds := [(13, [(0, 1), (1, 1)]), (27, [(0, 1), (1, 1), (2, 1), (3, 1), (4, 1), (5, 1)]), (28, [(0, 1), (1, 1), (2, 1), (3, 1), (4, 1), (5, 1)]), (43, [(0, 1), (1, 1), (2, 1), (3, 1), (4, 1), (5, 1)]), (47, [(0, 1), (1, 1), (2, 1), (3, 1), (4, 1), (5, 1)])]
  infs := [(3, 1, 8), (9, 1, 16), (26, 1, 8), (28, 6, 48)]
theorem tab_ok : TabOk Try.prog tab where
  offs := List.forall_mem_cons.2 ⟨fo_28_0, List.forall_mem_cons.2 ⟨fo_28_1, List.forall_mem_cons.2 ⟨fo_28_2, List.forall_mem_cons.2 ⟨fo_28_3, List.forall_mem_cons.2 ⟨fo_28_4, List.forall_mem_cons.2 ⟨fo_28_5, fun _ h => nomatch h⟩⟩⟩⟩⟩⟩
  tys := List.forall_mem_cons.2 ⟨ty_1, List.forall_mem_cons.2 ⟨ty_2, List.forall_mem_cons.2 ⟨ty_3, List.forall_mem_cons.2 ⟨ty_4, List.forall_mem_cons.2 ⟨ty_5, List.forall_mem_cons.2 ⟨ty_9, List.forall_mem_cons.2 ⟨ty_12, List.forall_mem_cons.2 ⟨ty_13, List.forall_mem_cons.2 ⟨ty_20, List.forall_mem_cons.2 ⟨ty_21, List.forall_mem_cons.2 ⟨ty_22, List.forall_mem_cons.2 ⟨ty_23, List.forall_mem_cons.2 ⟨ty_24, List.forall_mem_cons.2 ⟨ty_25, List.forall_mem_cons.2 ⟨ty_26, List.forall_mem_cons.2 ⟨ty_27, List.forall_mem_cons.2 ⟨ty_28, List.forall_mem_cons.2 ⟨ty_29, List.forall_mem_cons.2 ⟨ty_31, List.forall_mem_cons.2 ⟨ty_32, List.forall_mem_cons.2 ⟨ty_33, List.forall_mem_cons.2 ⟨ty_34, List.forall_mem_cons.2 ⟨ty_35, List.forall_mem_cons.2 ⟨ty_36, List.forall_mem_cons.2 ⟨ty_37, List.forall_mem_cons.2 ⟨ty_38, List.forall_mem_cons.2 ⟨ty_39, List.forall_mem_cons.2 ⟨ty_40, List.forall_mem_cons.2 ⟨ty_41, List.forall_mem_cons.2 ⟨ty_42, List.forall_mem_cons.2 ⟨ty_43, List.forall_mem_cons.2 ⟨ty_44, List.forall_mem_cons.2 ⟨ty_45, List.forall_mem_cons.2 ⟨ty_46, List.forall_mem_cons.2 ⟨ty_47, List.forall_mem_cons.2 ⟨ty_49, List.forall_mem_cons.2 ⟨ty_50, List.forall_mem_cons.2 ⟨ty_56, List.forall_mem_cons.2 ⟨ty_57, List.forall_mem_cons.2 ⟨ty_60, List.forall_mem_cons.2 ⟨ty_61, List.forall_mem_cons.2 ⟨ty_66, fun _ h => nomatch h⟩⟩⟩⟩⟩⟩⟩⟩⟩⟩⟩⟩⟩⟩⟩⟩⟩⟩⟩⟩⟩⟩⟩⟩⟩⟩⟩⟩⟩⟩⟩⟩⟩⟩⟩⟩⟩⟩⟩⟩⟩⟩
  zeros := List.forall_mem_cons.2 ⟨ze_1, List.forall_mem_cons.2 ⟨ze_2, List.forall_mem_cons.2 ⟨ze_3, List.forall_mem_cons.2 ⟨ze_4, List.forall_mem_cons.2 ⟨ze_5, List.forall_mem_cons.2 ⟨ze_9, List.forall_mem_cons.2 ⟨ze_12, List.forall_mem_cons.2 ⟨ze_13, List.forall_mem_cons.2 ⟨ze_20, List.forall_mem_cons.2 ⟨ze_21, List.forall_mem_cons.2 ⟨ze_22, List.forall_mem_cons.2 ⟨ze_23, List.forall_mem_cons.2 ⟨ze_24, List.forall_mem_cons.2 ⟨ze_25, List.forall_mem_cons.2 ⟨ze_26, List.forall_mem_cons.2 ⟨ze_27, List.forall_mem_cons.2 ⟨ze_28, List.forall_mem_cons.2 ⟨ze_29, List.forall_mem_cons.2 ⟨ze_31, List.forall_mem_cons.2 ⟨ze_32, List.forall_mem_cons.2 ⟨ze_33, List.forall_mem_cons.2 ⟨ze_34, List.forall_mem_cons.2 ⟨ze_35, List.forall_mem_cons.2 ⟨ze_36, List.forall_mem_cons.2 ⟨ze_37, List.forall_mem_cons.2 ⟨ze_38, List.forall_mem_cons.2 ⟨ze_39, List.forall_mem_cons.2 ⟨ze_40, List.forall_mem_cons.2 ⟨ze_41, List.forall_mem_cons.2 ⟨ze_42, List.forall_mem_cons.2 ⟨ze_43, List.forall_mem_cons.2 ⟨ze_44, List.forall_mem_cons.2 ⟨ze_45, List.forall_mem_cons.2 ⟨ze_46, List.forall_mem_cons.2 ⟨ze_47, List.forall_mem_cons.2 ⟨ze_49, List.forall_mem_cons.2 ⟨ze_50, List.forall_mem_cons.2 ⟨ze_56, List.forall_mem_cons.2 ⟨ze_57, List.forall_mem_cons.2 ⟨ze_60, List.forall_mem_cons.2 ⟨ze_61, List.forall_mem_cons.2 ⟨ze_66, fun _ h => nomatch h⟩⟩⟩⟩⟩⟩⟩⟩⟩⟩⟩⟩⟩⟩⟩⟩⟩⟩⟩⟩⟩⟩⟩⟩⟩⟩⟩⟩⟩⟩⟩⟩⟩⟩⟩⟩⟩⟩⟩⟩⟩⟩
  sls := List.forall_mem_cons.2 ⟨Try.underlying22, List.forall_mem_cons.2 ⟨Try.underlying33, List.forall_mem_cons.2 ⟨Try.underlying34, List.forall_mem_cons.2 ⟨Try.underlying38, fun _ h => nomatch h⟩⟩⟩⟩
  ars := List.forall_mem_cons.2 ⟨Try.underlying43, List.forall_mem_cons.2 ⟨Try.underlying47, fun _ h => nomatch h⟩⟩
  ints := List.forall_mem_cons.2 ⟨Try.underlying2, List.forall_mem_cons.2 ⟨Try.underlying3, List.forall_mem_cons.2 ⟨Try.underlying5, List.forall_mem_cons.2 ⟨Try.underlying12, List.forall_mem_cons.2 ⟨Try.underlying21, List.forall_mem_cons.2 ⟨Try.underlying26, List.forall_mem_cons.2 ⟨Try.underlying57, fun _ h => nomatch h⟩⟩⟩⟩⟩⟩⟩
  strs := List.forall_mem_cons.2 ⟨Try.underlying9, fun _ h => nomatch h⟩
  bools := List.forall_mem_cons.2 ⟨Try.underlying4, fun _ h => nomatch h⟩
  ptrs := List.forall_mem_cons.2 ⟨Try.underlying44, List.forall_mem_cons.2 ⟨Try.underlying46, List.forall_mem_cons.2 ⟨Try.underlying61, fun _ h => nomatch h⟩⟩⟩
  flds := List.forall_mem_cons.2 ⟨fl_13, List.forall_mem_cons.2 ⟨fl_27, List.forall_mem_cons.2 ⟨fl_28, List.forall_mem_cons.2 ⟨fl_43, List.forall_mem_cons.2 ⟨fl_47, fun _ h => nomatch h⟩⟩⟩⟩⟩
  infs := List.forall_mem_cons.2 ⟨in_3, List.forall_mem_cons.2 ⟨in_9, List.forall_mem_cons.2 ⟨in_26, List.forall_mem_cons.2 ⟨in_28, fun _ h => nomatch h⟩⟩⟩⟩
theorem follows : Try.prog.follows .mixedOrders = true := by kernel_rfl
end Go.Proofs.Ytjpinfnbamigcaa
