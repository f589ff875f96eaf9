/- Facts on the translation's types and functions, by name. Written by a program of this session. -/
import Derived.Test.YtkgmdicbfpkihaaProg
import Derived.Test.YtkgmdicbfpkihaaB6
namespace Go.Proofs.Ytkgmdicbfpkihaa.Asl
open Go.RowKit
set_option linter.unusedVariables false
abbrev T_func1 : TypeId := 1
instance ty_func1 : Ty Try.prog 1 false 1 8 (.nilFunc) := ⟨by kernel_rfl, by kernel_rfl⟩
abbrev T_int64 : TypeId := 2
instance ty_int64 : Ty Try.prog 2 false 1 8 (.int .i64 0) := ⟨by kernel_rfl, by kernel_rfl⟩
instance un_int64 : Un Try.prog 2 (.int .i64) := ⟨by kernel_rfl⟩
abbrev T_int : TypeId := 3
instance ty_int : Ty Try.prog 3 false 1 8 (.int .i64 0) := ⟨by kernel_rfl, by kernel_rfl⟩
instance un_int : Un Try.prog 3 (.int .i64) := ⟨by kernel_rfl⟩
abbrev T_bool : TypeId := 4
instance ty_bool : Ty Try.prog 4 false 1 1 (.bool false) := ⟨by kernel_rfl, by kernel_rfl⟩
instance un_bool : Un Try.prog 4 (.bool) := ⟨by kernel_rfl⟩
abbrev T_uint8 : TypeId := 5
instance ty_uint8 : Ty Try.prog 5 false 1 1 (.int .u8 0) := ⟨by kernel_rfl, by kernel_rfl⟩
instance un_uint8 : Un Try.prog 5 (.int .u8) := ⟨by kernel_rfl⟩
abbrev T_string : TypeId := 9
instance ty_string : Ty Try.prog 9 false 1 16 (.string ⟨#[]⟩) := ⟨by kernel_rfl, by kernel_rfl⟩
instance un_string : Un Try.prog 9 (.string) := ⟨by kernel_rfl⟩
abbrev T_int32 : TypeId := 21
instance ty_int32 : Ty Try.prog 21 false 1 4 (.int .i32 0) := ⟨by kernel_rfl, by kernel_rfl⟩
instance un_int32 : Un Try.prog 21 (.int .i32) := ⟨by kernel_rfl⟩
abbrev T_s_laws_Term : TypeId := 22
instance ty_s_laws_Term : Ty Try.prog 22 false 1 24 (.slice none 0 0) := ⟨by kernel_rfl, by kernel_rfl⟩
instance un_s_laws_Term : Un Try.prog 22 (.slice 24) := ⟨by kernel_rfl⟩
abbrev T_laws_Term : TypeId := 24
instance ty_laws_Term : Ty Try.prog 24 true 3 40 (.agg #[(.int .i64 0), (.int .i64 0), (.slice none 0 0)]) := ⟨by kernel_rfl, by kernel_rfl⟩
abbrev T_func25 : TypeId := 25
instance ty_func25 : Ty Try.prog 25 false 1 8 (.nilFunc) := ⟨by kernel_rfl, by kernel_rfl⟩
abbrev T_func26 : TypeId := 26
instance ty_func26 : Ty Try.prog 26 false 1 8 (.nilFunc) := ⟨by kernel_rfl, by kernel_rfl⟩
abbrev T_s_impl_Term : TypeId := 27
instance ty_s_impl_Term : Ty Try.prog 27 false 1 24 (.slice none 0 0) := ⟨by kernel_rfl, by kernel_rfl⟩
instance un_s_impl_Term : Un Try.prog 27 (.slice 29) := ⟨by kernel_rfl⟩
abbrev T_impl_Term : TypeId := 29
instance ty_impl_Term : Ty Try.prog 29 true 3 40 (.agg #[(.int .i64 0), (.int .i64 0), (.slice none 0 0)]) := ⟨by kernel_rfl, by kernel_rfl⟩
abbrev T_func30 : TypeId := 30
instance ty_func30 : Ty Try.prog 30 false 1 8 (.nilFunc) := ⟨by kernel_rfl, by kernel_rfl⟩
abbrev T_func31 : TypeId := 31
instance ty_func31 : Ty Try.prog 31 false 1 8 (.nilFunc) := ⟨by kernel_rfl, by kernel_rfl⟩
abbrev T_func32 : TypeId := 32
instance ty_func32 : Ty Try.prog 32 false 1 8 (.nilFunc) := ⟨by kernel_rfl, by kernel_rfl⟩
abbrev T_func33 : TypeId := 33
instance ty_func33 : Ty Try.prog 33 false 1 8 (.nilFunc) := ⟨by kernel_rfl, by kernel_rfl⟩
abbrev T_func34 : TypeId := 34
instance ty_func34 : Ty Try.prog 34 false 1 8 (.nilFunc) := ⟨by kernel_rfl, by kernel_rfl⟩
abbrev T_func35 : TypeId := 35
instance ty_func35 : Ty Try.prog 35 false 1 8 (.nilFunc) := ⟨by kernel_rfl, by kernel_rfl⟩
abbrev T_func36 : TypeId := 36
instance ty_func36 : Ty Try.prog 36 false 1 8 (.nilFunc) := ⟨by kernel_rfl, by kernel_rfl⟩
abbrev T_func37 : TypeId := 37
instance ty_func37 : Ty Try.prog 37 false 1 8 (.nilFunc) := ⟨by kernel_rfl, by kernel_rfl⟩
abbrev T_func38 : TypeId := 38
instance ty_func38 : Ty Try.prog 38 false 1 8 (.nilFunc) := ⟨by kernel_rfl, by kernel_rfl⟩
abbrev T_func39 : TypeId := 39
instance ty_func39 : Ty Try.prog 39 false 1 8 (.nilFunc) := ⟨by kernel_rfl, by kernel_rfl⟩
abbrev T_s_uint8 : TypeId := 40
instance ty_s_uint8 : Ty Try.prog 40 false 1 24 (.slice none 0 0) := ⟨by kernel_rfl, by kernel_rfl⟩
instance un_s_uint8 : Un Try.prog 40 (.slice 5) := ⟨by kernel_rfl⟩
abbrev T_func42 : TypeId := 42
instance ty_func42 : Ty Try.prog 42 false 1 8 (.nilFunc) := ⟨by kernel_rfl, by kernel_rfl⟩
abbrev T_func43 : TypeId := 43
instance ty_func43 : Ty Try.prog 43 false 1 8 (.nilFunc) := ⟨by kernel_rfl, by kernel_rfl⟩
abbrev T_s_int : TypeId := 44
instance ty_s_int : Ty Try.prog 44 false 1 24 (.slice none 0 0) := ⟨by kernel_rfl, by kernel_rfl⟩
instance un_s_int : Un Try.prog 44 (.slice 3) := ⟨by kernel_rfl⟩
abbrev T_func45 : TypeId := 45
instance ty_func45 : Ty Try.prog 45 false 1 8 (.nilFunc) := ⟨by kernel_rfl, by kernel_rfl⟩
abbrev T_func46 : TypeId := 46
instance ty_func46 : Ty Try.prog 46 false 1 8 (.nilFunc) := ⟨by kernel_rfl, by kernel_rfl⟩
abbrev T_func47 : TypeId := 47
instance ty_func47 : Ty Try.prog 47 false 1 8 (.nilFunc) := ⟨by kernel_rfl, by kernel_rfl⟩
abbrev T_func48 : TypeId := 48
instance ty_func48 : Ty Try.prog 48 false 1 8 (.nilFunc) := ⟨by kernel_rfl, by kernel_rfl⟩
abbrev T_func49 : TypeId := 49
instance ty_func49 : Ty Try.prog 49 false 1 8 (.nilFunc) := ⟨by kernel_rfl, by kernel_rfl⟩
abbrev T_func50 : TypeId := 50
instance ty_func50 : Ty Try.prog 50 false 1 8 (.nilFunc) := ⟨by kernel_rfl, by kernel_rfl⟩
abbrev T_func51 : TypeId := 51
instance ty_func51 : Ty Try.prog 51 false 1 8 (.nilFunc) := ⟨by kernel_rfl, by kernel_rfl⟩
abbrev T_func52 : TypeId := 52
instance ty_func52 : Ty Try.prog 52 false 1 8 (.nilFunc) := ⟨by kernel_rfl, by kernel_rfl⟩
abbrev T_func54 : TypeId := 54
instance ty_func54 : Ty Try.prog 54 false 1 8 (.nilFunc) := ⟨by kernel_rfl, by kernel_rfl⟩
abbrev T_func55 : TypeId := 55
instance ty_func55 : Ty Try.prog 55 false 1 8 (.nilFunc) := ⟨by kernel_rfl, by kernel_rfl⟩
abbrev T_func57 : TypeId := 57
instance ty_func57 : Ty Try.prog 57 false 1 8 (.nilFunc) := ⟨by kernel_rfl, by kernel_rfl⟩
abbrev T_func58 : TypeId := 58
instance ty_func58 : Ty Try.prog 58 false 1 8 (.nilFunc) := ⟨by kernel_rfl, by kernel_rfl⟩
abbrev T_s_impl_Step : TypeId := 59
instance ty_s_impl_Step : Ty Try.prog 59 false 1 24 (.slice none 0 0) := ⟨by kernel_rfl, by kernel_rfl⟩
instance un_s_impl_Step : Un Try.prog 59 (.slice 84) := ⟨by kernel_rfl⟩
abbrev T_func61 : TypeId := 61
instance ty_func61 : Ty Try.prog 61 false 1 8 (.nilFunc) := ⟨by kernel_rfl, by kernel_rfl⟩
abbrev T_func62 : TypeId := 62
instance ty_func62 : Ty Try.prog 62 false 1 8 (.nilFunc) := ⟨by kernel_rfl, by kernel_rfl⟩
abbrev T_func63 : TypeId := 63
instance ty_func63 : Ty Try.prog 63 false 1 8 (.nilFunc) := ⟨by kernel_rfl, by kernel_rfl⟩
abbrev T_func64 : TypeId := 64
instance ty_func64 : Ty Try.prog 64 false 1 8 (.nilFunc) := ⟨by kernel_rfl, by kernel_rfl⟩
abbrev T_func65 : TypeId := 65
instance ty_func65 : Ty Try.prog 65 false 1 8 (.nilFunc) := ⟨by kernel_rfl, by kernel_rfl⟩
abbrev T_func66 : TypeId := 66
instance ty_func66 : Ty Try.prog 66 false 1 8 (.nilFunc) := ⟨by kernel_rfl, by kernel_rfl⟩
abbrev T_p_spec_l6Rd : TypeId := 67
instance ty_p_spec_l6Rd : Ty Try.prog 67 false 1 8 (.pointer none) := ⟨by kernel_rfl, by kernel_rfl⟩
instance un_p_spec_l6Rd : Un Try.prog 67 (.pointer 87) := ⟨by kernel_rfl⟩
abbrev T_func68 : TypeId := 68
instance ty_func68 : Ty Try.prog 68 false 1 8 (.nilFunc) := ⟨by kernel_rfl, by kernel_rfl⟩
abbrev T_func70 : TypeId := 70
instance ty_func70 : Ty Try.prog 70 false 1 8 (.nilFunc) := ⟨by kernel_rfl, by kernel_rfl⟩
abbrev T_func71 : TypeId := 71
instance ty_func71 : Ty Try.prog 71 false 1 8 (.nilFunc) := ⟨by kernel_rfl, by kernel_rfl⟩
abbrev T_a4_bool : TypeId := 72
instance ty_a4_bool : Ty Try.prog 72 true 4 4 (.agg #[(.bool false), (.bool false), (.bool false), (.bool false)]) := ⟨by kernel_rfl, by kernel_rfl⟩
instance un_a4_bool : Un Try.prog 72 (.array 4 4) := ⟨by kernel_rfl⟩
abbrev T_func73 : TypeId := 73
instance ty_func73 : Ty Try.prog 73 false 1 8 (.nilFunc) := ⟨by kernel_rfl, by kernel_rfl⟩
abbrev T_p_a4_bool : TypeId := 74
instance ty_p_a4_bool : Ty Try.prog 74 false 1 8 (.pointer none) := ⟨by kernel_rfl, by kernel_rfl⟩
instance un_p_a4_bool : Un Try.prog 74 (.pointer 72) := ⟨by kernel_rfl⟩
abbrev T_func75 : TypeId := 75
instance ty_func75 : Ty Try.prog 75 false 1 8 (.nilFunc) := ⟨by kernel_rfl, by kernel_rfl⟩
abbrev T_func76 : TypeId := 76
instance ty_func76 : Ty Try.prog 76 false 1 8 (.nilFunc) := ⟨by kernel_rfl, by kernel_rfl⟩
abbrev T_func77 : TypeId := 77
instance ty_func77 : Ty Try.prog 77 false 1 8 (.nilFunc) := ⟨by kernel_rfl, by kernel_rfl⟩
abbrev T_func78 : TypeId := 78
instance ty_func78 : Ty Try.prog 78 false 1 8 (.nilFunc) := ⟨by kernel_rfl, by kernel_rfl⟩
abbrev T_func79 : TypeId := 79
instance ty_func79 : Ty Try.prog 79 false 1 8 (.nilFunc) := ⟨by kernel_rfl, by kernel_rfl⟩
abbrev T_func80 : TypeId := 80
instance ty_func80 : Ty Try.prog 80 false 1 8 (.nilFunc) := ⟨by kernel_rfl, by kernel_rfl⟩
abbrev T_func81 : TypeId := 81
instance ty_func81 : Ty Try.prog 81 false 1 8 (.nilFunc) := ⟨by kernel_rfl, by kernel_rfl⟩
abbrev T_func82 : TypeId := 82
instance ty_func82 : Ty Try.prog 82 false 1 8 (.nilFunc) := ⟨by kernel_rfl, by kernel_rfl⟩
abbrev T_impl_Step : TypeId := 84
instance ty_impl_Step : Ty Try.prog 84 true 4 48 (.agg #[(.int .i64 0), (.int .i64 0), (.int .i64 0), (.slice none 0 0)]) := ⟨by kernel_rfl, by kernel_rfl⟩
abbrev T_func85 : TypeId := 85
instance ty_func85 : Ty Try.prog 85 false 1 8 (.nilFunc) := ⟨by kernel_rfl, by kernel_rfl⟩
abbrev T_spec_l6Rd : TypeId := 87
instance ty_spec_l6Rd : Ty Try.prog 87 true 2 32 (.agg #[(.slice none 0 0), (.int .i64 0)]) := ⟨by kernel_rfl, by kernel_rfl⟩
abbrev T_func88 : TypeId := 88
instance ty_func88 : Ty Try.prog 88 false 1 8 (.nilFunc) := ⟨by kernel_rfl, by kernel_rfl⟩
abbrev T_func89 : TypeId := 89
instance ty_func89 : Ty Try.prog 89 false 1 8 (.nilFunc) := ⟨by kernel_rfl, by kernel_rfl⟩
abbrev T_func90 : TypeId := 90
instance ty_func90 : Ty Try.prog 90 false 1 8 (.nilFunc) := ⟨by kernel_rfl, by kernel_rfl⟩
abbrev T_func91 : TypeId := 91
instance ty_func91 : Ty Try.prog 91 false 1 8 (.nilFunc) := ⟨by kernel_rfl, by kernel_rfl⟩
abbrev T_func92 : TypeId := 92
instance ty_func92 : Ty Try.prog 92 false 1 8 (.nilFunc) := ⟨by kernel_rfl, by kernel_rfl⟩
abbrev T_func93 : TypeId := 93
instance ty_func93 : Ty Try.prog 93 false 1 8 (.nilFunc) := ⟨by kernel_rfl, by kernel_rfl⟩
abbrev T_func94 : TypeId := 94
instance ty_func94 : Ty Try.prog 94 false 1 8 (.nilFunc) := ⟨by kernel_rfl, by kernel_rfl⟩
abbrev T_func100 : TypeId := 100
instance ty_func100 : Ty Try.prog 100 false 1 8 (.nilFunc) := ⟨by kernel_rfl, by kernel_rfl⟩
abbrev T_uint32 : TypeId := 101
instance ty_uint32 : Ty Try.prog 101 false 1 4 (.int .u32 0) := ⟨by kernel_rfl, by kernel_rfl⟩
instance un_uint32 : Un Try.prog 101 (.int .u32) := ⟨by kernel_rfl⟩
abbrev T_func104 : TypeId := 104
instance ty_func104 : Ty Try.prog 104 false 1 8 (.nilFunc) := ⟨by kernel_rfl, by kernel_rfl⟩
abbrev T_p_uint8 : TypeId := 105
instance ty_p_uint8 : Ty Try.prog 105 false 1 8 (.pointer none) := ⟨by kernel_rfl, by kernel_rfl⟩
instance un_p_uint8 : Un Try.prog 105 (.pointer 5) := ⟨by kernel_rfl⟩


instance fld_laws_Term_0 : FieldAt Try.prog 24 0 0 := ⟨_, _, Try.underlying24, rfl, rfl, _, _, _, _, ty_int, by decide⟩
instance fld_laws_Term_1 : FieldAt Try.prog 24 1 1 := ⟨_, _, Try.underlying24, rfl, rfl, _, _, _, _, ty_int, by decide⟩
instance fld_laws_Term_2 : FieldAt Try.prog 24 2 2 := ⟨_, _, Try.underlying24, rfl, rfl, _, _, _, _, ty_s_laws_Term, by decide⟩
instance str_laws_Term : StructAt Try.prog 24 [(0, 1), (1, 1), (2, 1)] := ⟨_, Try.underlying24, fun w => by simp [ty_int.sizeOf, ty_s_laws_Term.sizeOf]⟩



instance fld_impl_Term_0 : FieldAt Try.prog 29 0 0 := ⟨_, _, Try.underlying29, rfl, rfl, _, _, _, _, ty_int, by decide⟩
instance fld_impl_Term_1 : FieldAt Try.prog 29 1 1 := ⟨_, _, Try.underlying29, rfl, rfl, _, _, _, _, ty_int, by decide⟩
instance fld_impl_Term_2 : FieldAt Try.prog 29 2 2 := ⟨_, _, Try.underlying29, rfl, rfl, _, _, _, _, ty_s_impl_Term, by decide⟩
instance str_impl_Term : StructAt Try.prog 29 [(0, 1), (1, 1), (2, 1)] := ⟨_, Try.underlying29, fun w => by simp [ty_int.sizeOf, ty_s_impl_Term.sizeOf]⟩











































instance fld_impl_Step_0 : FieldAt Try.prog 84 0 0 := ⟨_, _, Try.underlying84, rfl, rfl, _, _, _, _, ty_int, by decide⟩
instance fld_impl_Step_1 : FieldAt Try.prog 84 1 1 := ⟨_, _, Try.underlying84, rfl, rfl, _, _, _, _, ty_impl_Term, by decide⟩
instance str_impl_Step : StructAt Try.prog 84 [(0, 1), (1, 3)] := ⟨_, Try.underlying84, fun w => by simp [ty_impl_Term.sizeOf, ty_int.sizeOf]⟩


instance fld_spec_l6Rd_0 : FieldAt Try.prog 87 0 0 := ⟨_, _, Try.underlying87, rfl, rfl, _, _, _, _, ty_s_uint8, by decide⟩
instance fld_spec_l6Rd_1 : FieldAt Try.prog 87 1 1 := ⟨_, _, Try.underlying87, rfl, rfl, _, _, _, _, ty_int, by decide⟩
instance str_spec_l6Rd : StructAt Try.prog 87 [(0, 1), (1, 1)] := ⟨_, Try.underlying87, fun w => by simp [ty_int.sizeOf, ty_s_uint8.sizeOf]⟩









abbrev F_laws_FnExactTermOk : FuncId := 3
instance can_laws_FnExactTermOk : Callable Try.prog 3 := ⟨_, Try.func3, by kernel_rfl, by kernel_rfl⟩
theorem fun_laws_FnExactTermOk : Try.prog.funcs[F_laws_FnExactTermOk]? = some Try.f3 := Try.func3
theorem tmps_laws_FnExactTermOk : Try.f3.ntmps = 27 := Try.ntmps3
theorem ress_laws_FnExactTermOk : Try.f3.results = #[.tmp 2] := Try.results3
abbrev F_laws_FnExactTermFits : FuncId := 4
instance can_laws_FnExactTermFits : Callable Try.prog 4 := ⟨_, Try.func4, by kernel_rfl, by kernel_rfl⟩
theorem fun_laws_FnExactTermFits : Try.prog.funcs[F_laws_FnExactTermFits]? = some Try.f4 := Try.func4
theorem tmps_laws_FnExactTermFits : Try.f4.ntmps = 31 := Try.ntmps4
theorem ress_laws_FnExactTermFits : Try.f4.results = #[.tmp 4] := Try.results4
abbrev F_laws_FnExactDefsOk : FuncId := 5
instance can_laws_FnExactDefsOk : Callable Try.prog 5 := ⟨_, Try.func5, by kernel_rfl, by kernel_rfl⟩
theorem fun_laws_FnExactDefsOk : Try.prog.funcs[F_laws_FnExactDefsOk]? = some Try.f5 := Try.func5
theorem tmps_laws_FnExactDefsOk : Try.f5.ntmps = 27 := Try.ntmps5
theorem ress_laws_FnExactDefsOk : Try.f5.results = #[.tmp 2] := Try.results5
abbrev F_laws_FnTermFits : FuncId := 6
instance can_laws_FnTermFits : Callable Try.prog 6 := ⟨_, Try.func6, by kernel_rfl, by kernel_rfl⟩
theorem fun_laws_FnTermFits : Try.prog.funcs[F_laws_FnTermFits]? = some Try.f6 := Try.func6
theorem tmps_laws_FnTermFits : Try.f6.ntmps = 40 := Try.ntmps6
theorem ress_laws_FnTermFits : Try.f6.results = #[.tmp 2] := Try.results6
abbrev F_laws_FnExactTermNames : FuncId := 7
instance can_laws_FnExactTermNames : Callable Try.prog 7 := ⟨_, Try.func7, by kernel_rfl, by kernel_rfl⟩
theorem fun_laws_FnExactTermNames : Try.prog.funcs[F_laws_FnExactTermNames]? = some Try.f7 := Try.func7
theorem tmps_laws_FnExactTermNames : Try.f7.ntmps = 69 := Try.ntmps7
theorem ress_laws_FnExactTermNames : Try.f7.results = #[.tmp 2] := Try.results7
abbrev F_laws_FnTermNames : FuncId := 8
instance can_laws_FnTermNames : Callable Try.prog 8 := ⟨_, Try.func8, by kernel_rfl, by kernel_rfl⟩
theorem fun_laws_FnTermNames : Try.prog.funcs[F_laws_FnTermNames]? = some Try.f8 := Try.func8
theorem tmps_laws_FnTermNames : Try.f8.ntmps = 56 := Try.ntmps8
theorem ress_laws_FnTermNames : Try.f8.results = #[.tmp 2] := Try.results8
abbrev F_laws_FnExactTermSwap : FuncId := 9
instance can_laws_FnExactTermSwap : Callable Try.prog 9 := ⟨_, Try.func9, by kernel_rfl, by kernel_rfl⟩
theorem fun_laws_FnExactTermSwap : Try.prog.funcs[F_laws_FnExactTermSwap]? = some Try.f9 := Try.func9
theorem tmps_laws_FnExactTermSwap : Try.f9.ntmps = 106 := Try.ntmps9
theorem ress_laws_FnExactTermSwap : Try.f9.results = #[.tmp 6] := Try.results9
abbrev F_laws_FnTermSwap : FuncId := 10
instance can_laws_FnTermSwap : Callable Try.prog 10 := ⟨_, Try.func10, by kernel_rfl, by kernel_rfl⟩
theorem fun_laws_FnTermSwap : Try.prog.funcs[F_laws_FnTermSwap]? = some Try.f10 := Try.func10
theorem tmps_laws_FnTermSwap : Try.f10.ntmps = 68 := Try.ntmps10
theorem ress_laws_FnTermSwap : Try.f10.results = #[.tmp 2] := Try.results10
abbrev F_laws_FnDefsOk : FuncId := 11
instance can_laws_FnDefsOk : Callable Try.prog 11 := ⟨_, Try.func11, by kernel_rfl, by kernel_rfl⟩
theorem fun_laws_FnDefsOk : Try.prog.funcs[F_laws_FnDefsOk]? = some Try.f11 := Try.func11
theorem tmps_laws_FnDefsOk : Try.f11.ntmps = 60 := Try.ntmps11
theorem ress_laws_FnDefsOk : Try.f11.results = #[.tmp 2] := Try.results11
abbrev F_laws_szTerm : FuncId := 12
instance can_laws_szTerm : Callable Try.prog 12 := ⟨_, Try.func12, by kernel_rfl, by kernel_rfl⟩
theorem fun_laws_szTerm : Try.prog.funcs[F_laws_szTerm]? = some Try.f12 := Try.func12
theorem tmps_laws_szTerm : Try.f12.ntmps = 12 := Try.ntmps12
theorem ress_laws_szTerm : Try.f12.results = #[.tmp 4] := Try.results12
abbrev F_spec_TermOk : FuncId := 13
instance can_spec_TermOk : Callable Try.prog 13 := ⟨_, Try.func13, by kernel_rfl, by kernel_rfl⟩
theorem fun_spec_TermOk : Try.prog.funcs[F_spec_TermOk]? = some Try.f13 := Try.func13
theorem tmps_spec_TermOk : Try.f13.ntmps = 6 := Try.ntmps13
theorem ress_spec_TermOk : Try.f13.results = #[.tmp 2] := Try.results13
abbrev F_laws_toTerm : FuncId := 14
instance can_laws_toTerm : Callable Try.prog 14 := ⟨_, Try.func14, by kernel_rfl, by kernel_rfl⟩
theorem fun_laws_toTerm : Try.prog.funcs[F_laws_toTerm]? = some Try.f14 := Try.func14
theorem tmps_laws_toTerm : Try.f14.ntmps = 15 := Try.ntmps14
theorem ress_laws_toTerm : Try.f14.results = #[.cell 2 29] := Try.results14
abbrev F_impl_TermOk : FuncId := 15
instance can_impl_TermOk : Callable Try.prog 15 := ⟨_, Try.func15, by kernel_rfl, by kernel_rfl⟩
theorem fun_impl_TermOk : Try.prog.funcs[F_impl_TermOk]? = some Try.f15 := Try.func15
theorem tmps_impl_TermOk : Try.f15.ntmps = 10 := Try.ntmps15
theorem ress_impl_TermOk : Try.f15.results = #[.tmp 2] := Try.results15
abbrev F_laws_eqTerm : FuncId := 16
instance can_laws_eqTerm : Callable Try.prog 16 := ⟨_, Try.func16, by kernel_rfl, by kernel_rfl⟩
theorem fun_laws_eqTerm : Try.prog.funcs[F_laws_eqTerm]? = some Try.f16 := Try.func16
theorem tmps_laws_eqTerm : Try.f16.ntmps = 21 := Try.ntmps16
theorem ress_laws_eqTerm : Try.f16.results = #[.tmp 4] := Try.results16
abbrev F_spec_TermFits : FuncId := 17
instance can_spec_TermFits : Callable Try.prog 17 := ⟨_, Try.func17, by kernel_rfl, by kernel_rfl⟩
theorem fun_spec_TermFits : Try.prog.funcs[F_spec_TermFits]? = some Try.f17 := Try.func17
theorem tmps_spec_TermFits : Try.f17.ntmps = 17 := Try.ntmps17
theorem ress_spec_TermFits : Try.f17.results = #[.tmp 4] := Try.results17
abbrev F_impl_TermFits : FuncId := 18
instance can_impl_TermFits : Callable Try.prog 18 := ⟨_, Try.func18, by kernel_rfl, by kernel_rfl⟩
theorem fun_impl_TermFits : Try.prog.funcs[F_impl_TermFits]? = some Try.f18 := Try.func18
theorem tmps_impl_TermFits : Try.f18.ntmps = 20 := Try.ntmps18
theorem ress_impl_TermFits : Try.f18.results = #[.tmp 4] := Try.results18
abbrev F_laws_szTermS : FuncId := 19
instance can_laws_szTermS : Callable Try.prog 19 := ⟨_, Try.func19, by kernel_rfl, by kernel_rfl⟩
theorem fun_laws_szTermS : Try.prog.funcs[F_laws_szTermS]? = some Try.f19 := Try.func19
theorem tmps_laws_szTermS : Try.f19.ntmps = 27 := Try.ntmps19
theorem ress_laws_szTermS : Try.f19.results = #[.tmp 4] := Try.results19
abbrev F_spec_DefsOk : FuncId := 20
instance can_spec_DefsOk : Callable Try.prog 20 := ⟨_, Try.func20, by kernel_rfl, by kernel_rfl⟩
theorem fun_spec_DefsOk : Try.prog.funcs[F_spec_DefsOk]? = some Try.f20 := Try.func20
theorem tmps_spec_DefsOk : Try.f20.ntmps = 29 := Try.ntmps20
theorem ress_spec_DefsOk : Try.f20.results = #[.tmp 2] := Try.results20
abbrev F_laws_toTermS : FuncId := 21
instance can_laws_toTermS : Callable Try.prog 21 := ⟨_, Try.func21, by kernel_rfl, by kernel_rfl⟩
theorem fun_laws_toTermS : Try.prog.funcs[F_laws_toTermS]? = some Try.f21 := Try.func21
theorem tmps_laws_toTermS : Try.f21.ntmps = 23 := Try.ntmps21
theorem ress_laws_toTermS : Try.f21.results = #[.tmp 2] := Try.results21
abbrev F_impl_DefsOk : FuncId := 22
instance can_impl_DefsOk : Callable Try.prog 22 := ⟨_, Try.func22, by kernel_rfl, by kernel_rfl⟩
theorem fun_impl_DefsOk : Try.prog.funcs[F_impl_DefsOk]? = some Try.f22 := Try.func22
theorem tmps_impl_DefsOk : Try.f22.ntmps = 12 := Try.ntmps22
theorem ress_impl_DefsOk : Try.f22.results = #[.tmp 2] := Try.results22
abbrev F_laws_eqTermS : FuncId := 23
instance can_laws_eqTermS : Callable Try.prog 23 := ⟨_, Try.func23, by kernel_rfl, by kernel_rfl⟩
theorem fun_laws_eqTermS : Try.prog.funcs[F_laws_eqTermS]? = some Try.f23 := Try.func23
theorem tmps_laws_eqTermS : Try.f23.ntmps = 27 := Try.ntmps23
theorem ress_laws_eqTermS : Try.f23.results = #[.tmp 4] := Try.results23
abbrev F_spec_DrawTermFits : FuncId := 24
instance can_spec_DrawTermFits : Callable Try.prog 24 := ⟨_, Try.func24, by kernel_rfl, by kernel_rfl⟩
theorem fun_spec_DrawTermFits : Try.prog.funcs[F_spec_DrawTermFits]? = some Try.f24 := Try.func24
theorem tmps_spec_DrawTermFits : Try.f24.ntmps = 25 := Try.ntmps24
theorem ress_spec_DrawTermFits : Try.f24.results = #[.cell 2 29, .tmp 3] := Try.results24
abbrev F_spec_TermNames : FuncId := 25
instance can_spec_TermNames : Callable Try.prog 25 := ⟨_, Try.func25, by kernel_rfl, by kernel_rfl⟩
theorem fun_spec_TermNames : Try.prog.funcs[F_spec_TermNames]? = some Try.f25 := Try.func25
theorem tmps_spec_TermNames : Try.f25.ntmps = 22 := Try.ntmps25
theorem ress_spec_TermNames : Try.f25.results = #[.tmp 2] := Try.results25
abbrev F_impl_TermNames : FuncId := 26
instance can_impl_TermNames : Callable Try.prog 26 := ⟨_, Try.func26, by kernel_rfl, by kernel_rfl⟩
theorem fun_impl_TermNames : Try.prog.funcs[F_impl_TermNames]? = some Try.f26 := Try.func26
theorem tmps_impl_TermNames : Try.f26.ntmps = 25 := Try.ntmps26
theorem ress_impl_TermNames : Try.f26.results = #[.tmp 2] := Try.results26
abbrev F_laws_eqIntS : FuncId := 27
instance can_laws_eqIntS : Callable Try.prog 27 := ⟨_, Try.func27, by kernel_rfl, by kernel_rfl⟩
theorem fun_laws_eqIntS : Try.prog.funcs[F_laws_eqIntS]? = some Try.f27 := Try.func27
theorem tmps_laws_eqIntS : Try.f27.ntmps = 26 := Try.ntmps27
theorem ress_laws_eqIntS : Try.f27.results = #[.tmp 4] := Try.results27
abbrev F_laws_markTerm : FuncId := 28
instance can_laws_markTerm : Callable Try.prog 28 := ⟨_, Try.func28, by kernel_rfl, by kernel_rfl⟩
theorem fun_laws_markTerm : Try.prog.funcs[F_laws_markTerm]? = some Try.f28 := Try.func28
theorem tmps_laws_markTerm : Try.f28.ntmps = 10 := Try.ntmps28
theorem ress_laws_markTerm : Try.f28.results = #[.tmp 4] := Try.results28
abbrev F_laws_markIntS : FuncId := 29
instance can_laws_markIntS : Callable Try.prog 29 := ⟨_, Try.func29, by kernel_rfl, by kernel_rfl⟩
theorem fun_laws_markIntS : Try.prog.funcs[F_laws_markIntS]? = some Try.f29 := Try.func29
theorem tmps_laws_markIntS : Try.f29.ntmps = 19 := Try.ntmps29
theorem ress_laws_markIntS : Try.f29.results = #[.tmp 4] := Try.results29
abbrev F_laws_heldIntS : FuncId := 30
instance can_laws_heldIntS : Callable Try.prog 30 := ⟨_, Try.func30, by kernel_rfl, by kernel_rfl⟩
theorem fun_laws_heldIntS : Try.prog.funcs[F_laws_heldIntS]? = some Try.f30 := Try.func30
theorem tmps_laws_heldIntS : Try.f30.ntmps = 21 := Try.ntmps30
theorem ress_laws_heldIntS : Try.f30.results = #[.tmp 4] := Try.results30
abbrev F_spec_DrawTermNames : FuncId := 31
instance can_spec_DrawTermNames : Callable Try.prog 31 := ⟨_, Try.func31, by kernel_rfl, by kernel_rfl⟩
theorem fun_spec_DrawTermNames : Try.prog.funcs[F_spec_DrawTermNames]? = some Try.f31 := Try.func31
theorem tmps_spec_DrawTermNames : Try.f31.ntmps = 14 := Try.ntmps31
theorem ress_spec_DrawTermNames : Try.f31.results = #[.cell 2 29] := Try.results31
abbrev F_laws_mnInts : FuncId := 32
instance can_laws_mnInts : Callable Try.prog 32 := ⟨_, Try.func32, by kernel_rfl, by kernel_rfl⟩
theorem fun_laws_mnInts : Try.prog.funcs[F_laws_mnInts]? = some Try.f32 := Try.func32
theorem tmps_laws_mnInts : Try.f32.ntmps = 26 := Try.ntmps32
theorem ress_laws_mnInts : Try.f32.results = #[.tmp 4] := Try.results32
abbrev F_laws_mnRises : FuncId := 33
instance can_laws_mnRises : Callable Try.prog 33 := ⟨_, Try.func33, by kernel_rfl, by kernel_rfl⟩
theorem fun_laws_mnRises : Try.prog.funcs[F_laws_mnRises]? = some Try.f33 := Try.func33
theorem tmps_laws_mnRises : Try.f33.ntmps = 20 := Try.ntmps33
theorem ress_laws_mnRises : Try.f33.results = #[.tmp 2] := Try.results33
abbrev F_laws_mnPut : FuncId := 34
instance can_laws_mnPut : Callable Try.prog 34 := ⟨_, Try.func34, by kernel_rfl, by kernel_rfl⟩
theorem fun_laws_mnPut : Try.prog.funcs[F_laws_mnPut]? = some Try.f34 := Try.func34
theorem tmps_laws_mnPut : Try.f34.ntmps = 11 := Try.ntmps34
theorem ress_laws_mnPut : Try.f34.results = #[.cell 6 29] := Try.results34
abbrev F_laws_mnHas : FuncId := 35
instance can_laws_mnHas : Callable Try.prog 35 := ⟨_, Try.func35, by kernel_rfl, by kernel_rfl⟩
theorem fun_laws_mnHas : Try.prog.funcs[F_laws_mnHas]? = some Try.f35 := Try.func35
theorem tmps_laws_mnHas : Try.f35.ntmps = 18 := Try.ntmps35
theorem ress_laws_mnHas : Try.f35.results = #[.tmp 4] := Try.results35
abbrev F_spec_TermSwap : FuncId := 36
instance can_spec_TermSwap : Callable Try.prog 36 := ⟨_, Try.func36, by kernel_rfl, by kernel_rfl⟩
theorem fun_spec_TermSwap : Try.prog.funcs[F_spec_TermSwap]? = some Try.f36 := Try.func36
theorem tmps_spec_TermSwap : Try.f36.ntmps = 27 := Try.ntmps36
theorem ress_spec_TermSwap : Try.f36.results = #[.cell 6 29, .tmp 7] := Try.results36
abbrev F_impl_TermSwap : FuncId := 37
instance can_impl_TermSwap : Callable Try.prog 37 := ⟨_, Try.func37, by kernel_rfl, by kernel_rfl⟩
theorem fun_impl_TermSwap : Try.prog.funcs[F_impl_TermSwap]? = some Try.f37 := Try.func37
theorem tmps_impl_TermSwap : Try.f37.ntmps = 26 := Try.ntmps37
theorem ress_impl_TermSwap : Try.f37.results = #[.cell 6 29, .tmp 7] := Try.results37
abbrev F_laws_heldTerm : FuncId := 38
instance can_laws_heldTerm : Callable Try.prog 38 := ⟨_, Try.func38, by kernel_rfl, by kernel_rfl⟩
theorem fun_laws_heldTerm : Try.prog.funcs[F_laws_heldTerm]? = some Try.f38 := Try.func38
theorem tmps_laws_heldTerm : Try.f38.ntmps = 12 := Try.ntmps38
theorem ress_laws_heldTerm : Try.f38.results = #[.tmp 4] := Try.results38
abbrev F_spec_DrawTermSwap : FuncId := 39
instance can_spec_DrawTermSwap : Callable Try.prog 39 := ⟨_, Try.func39, by kernel_rfl, by kernel_rfl⟩
theorem fun_spec_DrawTermSwap : Try.prog.funcs[F_spec_DrawTermSwap]? = some Try.f39 := Try.func39
theorem tmps_spec_DrawTermSwap : Try.f39.ntmps = 24 := Try.ntmps39
theorem ress_spec_DrawTermSwap : Try.f39.results = #[.cell 2 29, .tmp 3, .tmp 4] := Try.results39
abbrev F_laws_mnTerm : FuncId := 40
instance can_laws_mnTerm : Callable Try.prog 40 := ⟨_, Try.func40, by kernel_rfl, by kernel_rfl⟩
theorem fun_laws_mnTerm : Try.prog.funcs[F_laws_mnTerm]? = some Try.f40 := Try.func40
theorem tmps_laws_mnTerm : Try.f40.ntmps = 24 := Try.ntmps40
theorem ress_laws_mnTerm : Try.f40.results = #[.tmp 4] := Try.results40
abbrev F_spec_DrawDefsOk : FuncId := 41
instance can_spec_DrawDefsOk : Callable Try.prog 41 := ⟨_, Try.func41, by kernel_rfl, by kernel_rfl⟩
theorem fun_spec_DrawDefsOk : Try.prog.funcs[F_spec_DrawDefsOk]? = some Try.f41 := Try.func41
theorem tmps_spec_DrawDefsOk : Try.f41.ntmps = 10 := Try.ntmps41
theorem ress_spec_DrawDefsOk : Try.f41.results = #[.tmp 2] := Try.results41
abbrev F_impl_TermSteps : FuncId := 42
instance can_impl_TermSteps : Callable Try.prog 42 := ⟨_, Try.func42, by kernel_rfl, by kernel_rfl⟩
theorem fun_impl_TermSteps : Try.prog.funcs[F_impl_TermSteps]? = some Try.f42 := Try.func42
theorem tmps_impl_TermSteps : Try.f42.ntmps = 38 := Try.ntmps42
theorem ress_impl_TermSteps : Try.f42.results = #[.tmp 4, .tmp 5] := Try.results42
abbrev F_laws_mnSteps : FuncId := 43
instance can_laws_mnSteps : Callable Try.prog 43 := ⟨_, Try.func43, by kernel_rfl, by kernel_rfl⟩
theorem fun_laws_mnSteps : Try.prog.funcs[F_laws_mnSteps]? = some Try.f43 := Try.func43
theorem tmps_laws_mnSteps : Try.f43.ntmps = 42 := Try.ntmps43
theorem ress_laws_mnSteps : Try.f43.results = #[.tmp 4] := Try.results43
abbrev F_spec_l6In : FuncId := 44
instance can_spec_l6In : Callable Try.prog 44 := ⟨_, Try.func44, by kernel_rfl, by kernel_rfl⟩
theorem fun_spec_l6In : Try.prog.funcs[F_spec_l6In]? = some Try.f44 := Try.func44
theorem tmps_spec_l6In : Try.f44.ntmps = 15 := Try.ntmps44
theorem ress_spec_l6In : Try.f44.results = #[.tmp 6] := Try.results44
abbrev F_spec_l2Nodes : FuncId := 45
instance can_spec_l2Nodes : Callable Try.prog 45 := ⟨_, Try.func45, by kernel_rfl, by kernel_rfl⟩
theorem fun_spec_l2Nodes : Try.prog.funcs[F_spec_l2Nodes]? = some Try.f45 := Try.func45
theorem tmps_spec_l2Nodes : Try.f45.ntmps = 60 := Try.ntmps45
theorem ress_spec_l2Nodes : Try.f45.results = #[.tmp 2] := Try.results45
abbrev F_impl_termNodes : FuncId := 46
instance can_impl_termNodes : Callable Try.prog 46 := ⟨_, Try.func46, by kernel_rfl, by kernel_rfl⟩
theorem fun_impl_termNodes : Try.prog.funcs[F_impl_termNodes]? = some Try.f46 := Try.func46
theorem tmps_impl_termNodes : Try.f46.ntmps = 28 := Try.ntmps46
theorem ress_impl_termNodes : Try.f46.results = #[.tmp 4] := Try.results46
abbrev F_impl_termShape : FuncId := 47
instance can_impl_termShape : Callable Try.prog 47 := ⟨_, Try.func47, by kernel_rfl, by kernel_rfl⟩
theorem fun_impl_termShape : Try.prog.funcs[F_impl_termShape]? = some Try.f47 := Try.func47
theorem tmps_impl_termShape : Try.f47.ntmps = 50 := Try.ntmps47
theorem ress_impl_termShape : Try.f47.results = #[.tmp 2] := Try.results47
abbrev F_spec_l2Calls : FuncId := 48
instance can_spec_l2Calls : Callable Try.prog 48 := ⟨_, Try.func48, by kernel_rfl, by kernel_rfl⟩
theorem fun_spec_l2Calls : Try.prog.funcs[F_spec_l2Calls]? = some Try.f48 := Try.func48
theorem tmps_spec_l2Calls : Try.f48.ntmps = 38 := Try.ntmps48
theorem ress_spec_l2Calls : Try.f48.results = #[.tmp 4] := Try.results48
abbrev F_impl_callsBelow : FuncId := 49
instance can_impl_callsBelow : Callable Try.prog 49 := ⟨_, Try.func49, by kernel_rfl, by kernel_rfl⟩
theorem fun_impl_callsBelow : Try.prog.funcs[F_impl_callsBelow]? = some Try.f49 := Try.func49
theorem tmps_impl_callsBelow : Try.f49.ntmps = 21 := Try.ntmps49
theorem ress_impl_callsBelow : Try.f49.results = #[.tmp 4] := Try.results49
abbrev F_slices_ContainsFunc_impl_Term_impl_Term : FuncId := 50
instance can_slices_ContainsFunc_impl_Term_impl_Term : Callable Try.prog 50 := ⟨_, Try.func50, by kernel_rfl, by kernel_rfl⟩
theorem fun_slices_ContainsFunc_impl_Term_impl_Term : Try.prog.funcs[F_slices_ContainsFunc_impl_Term_impl_Term]? = some Try.f50 := Try.func50
theorem tmps_slices_ContainsFunc_impl_Term_impl_Term : Try.f50.ntmps = 9 := Try.ntmps50
theorem ress_slices_ContainsFunc_impl_Term_impl_Term : Try.f50.results = #[.tmp 4] := Try.results50
abbrev F_impl_DefsOk_1 : FuncId := 51
instance can_impl_DefsOk_1 : Callable Try.prog 51 := ⟨_, Try.func51, by kernel_rfl, by kernel_rfl⟩
theorem fun_impl_DefsOk_1 : Try.prog.funcs[F_impl_DefsOk_1]? = some Try.f51 := Try.func51
theorem tmps_impl_DefsOk_1 : Try.f51.ntmps = 13 := Try.ntmps51
theorem ress_impl_DefsOk_1 : Try.f51.results = #[.tmp 3] := Try.results51
abbrev F_impl_bare : FuncId := 52
instance can_impl_bare : Callable Try.prog 52 := ⟨_, Try.func52, by kernel_rfl, by kernel_rfl⟩
theorem fun_impl_bare : Try.prog.funcs[F_impl_bare]? = some Try.f52 := Try.func52
theorem tmps_impl_bare : Try.f52.ntmps = 16 := Try.ntmps52
theorem ress_impl_bare : Try.f52.results = #[.tmp 2] := Try.results52
abbrev F_spec_l6Open : FuncId := 53
instance can_spec_l6Open : Callable Try.prog 53 := ⟨_, Try.func53, by kernel_rfl, by kernel_rfl⟩
theorem fun_spec_l6Open : Try.prog.funcs[F_spec_l6Open]? = some Try.f53 := Try.func53
theorem tmps_spec_l6Open : Try.f53.ntmps = 11 := Try.ntmps53
theorem ress_spec_l6Open : Try.f53.results = #[.tmp 2] := Try.results53
abbrev F_spec_l91Called : FuncId := 54
instance can_spec_l91Called : Callable Try.prog 54 := ⟨_, Try.func54, by kernel_rfl, by kernel_rfl⟩
theorem fun_spec_l91Called : Try.prog.funcs[F_spec_l91Called]? = some Try.f54 := Try.func54
theorem tmps_spec_l91Called : Try.f54.ntmps = 27 := Try.ntmps54
theorem ress_spec_l91Called : Try.f54.results = #[.cell 2 29, .tmp 3] := Try.results54
abbrev F_spec_l6Rd_pick : FuncId := 55
instance can_spec_l6Rd_pick : Callable Try.prog 55 := ⟨_, Try.func55, by kernel_rfl, by kernel_rfl⟩
theorem fun_spec_l6Rd_pick : Try.prog.funcs[F_spec_l6Rd_pick]? = some Try.f55 := Try.func55
theorem tmps_spec_l6Rd_pick : Try.f55.ntmps = 99 := Try.ntmps55
theorem ress_spec_l6Rd_pick : Try.f55.results = #[.tmp 4] := Try.results55
abbrev F_spec_l2Free : FuncId := 56
instance can_spec_l2Free : Callable Try.prog 56 := ⟨_, Try.func56, by kernel_rfl, by kernel_rfl⟩
theorem fun_spec_l2Free : Try.prog.funcs[F_spec_l2Free]? = some Try.f56 := Try.func56
theorem tmps_spec_l2Free : Try.f56.ntmps = 44 := Try.ntmps56
theorem ress_spec_l2Free : Try.f56.results = #[.tmp 4] := Try.results56
abbrev F_impl_freeNames : FuncId := 57
instance can_impl_freeNames : Callable Try.prog 57 := ⟨_, Try.func57, by kernel_rfl, by kernel_rfl⟩
theorem fun_impl_freeNames : Try.prog.funcs[F_impl_freeNames]? = some Try.f57 := Try.func57
theorem tmps_impl_freeNames : Try.f57.ntmps = 56 := Try.ntmps57
theorem ress_impl_freeNames : Try.f57.results = #[] := Try.results57
abbrev F_laws_markTermS : FuncId := 58
instance can_laws_markTermS : Callable Try.prog 58 := ⟨_, Try.func58, by kernel_rfl, by kernel_rfl⟩
theorem fun_laws_markTermS : Try.prog.funcs[F_laws_markTermS]? = some Try.f58 := Try.func58
theorem tmps_laws_markTermS : Try.f58.ntmps = 34 := Try.ntmps58
theorem ress_laws_markTermS : Try.f58.results = #[.tmp 4] := Try.results58
abbrev F_spec_l2Map : FuncId := 59
instance can_spec_l2Map : Callable Try.prog 59 := ⟨_, Try.func59, by kernel_rfl, by kernel_rfl⟩
theorem fun_spec_l2Map : Try.prog.funcs[F_spec_l2Map]? = some Try.f59 := Try.func59
theorem tmps_spec_l2Map : Try.f59.ntmps = 78 := Try.ntmps59
theorem ress_spec_l2Map : Try.f59.results = #[.cell 4 29] := Try.results59
abbrev F_spec_l2Swapped : FuncId := 60
instance can_spec_l2Swapped : Callable Try.prog 60 := ⟨_, Try.func60, by kernel_rfl, by kernel_rfl⟩
theorem fun_spec_l2Swapped : Try.prog.funcs[F_spec_l2Swapped]? = some Try.f60 := Try.func60
theorem tmps_spec_l2Swapped : Try.f60.ntmps = 25 := Try.ntmps60
theorem ress_spec_l2Swapped : Try.f60.results = #[.tmp 4] := Try.results60
abbrev F_impl_nameOk : FuncId := 61
instance can_impl_nameOk : Callable Try.prog 61 := ⟨_, Try.func61, by kernel_rfl, by kernel_rfl⟩
theorem fun_impl_nameOk : Try.prog.funcs[F_impl_nameOk]? = some Try.f61 := Try.func61
theorem tmps_impl_nameOk : Try.f61.ntmps = 9 := Try.ntmps61
theorem ress_impl_nameOk : Try.f61.results = #[.tmp 2] := Try.results61
abbrev F_impl_swapTerm : FuncId := 62
instance can_impl_swapTerm : Callable Try.prog 62 := ⟨_, Try.func62, by kernel_rfl, by kernel_rfl⟩
theorem fun_impl_swapTerm : Try.prog.funcs[F_impl_swapTerm]? = some Try.f62 := Try.func62
theorem tmps_impl_swapTerm : Try.f62.ntmps = 51 := Try.ntmps62
theorem ress_impl_swapTerm : Try.f62.results = #[.cell 6 29] := Try.results62
abbrev F_laws_heldTermS : FuncId := 63
instance can_laws_heldTermS : Callable Try.prog 63 := ⟨_, Try.func63, by kernel_rfl, by kernel_rfl⟩
theorem fun_laws_heldTermS : Try.prog.funcs[F_laws_heldTermS]? = some Try.f63 := Try.func63
theorem tmps_laws_heldTermS : Try.f63.ntmps = 40 := Try.ntmps63
theorem ress_laws_heldTermS : Try.f63.results = #[.tmp 4] := Try.results63
abbrev F_laws_mnTerms : FuncId := 64
instance can_laws_mnTerms : Callable Try.prog 64 := ⟨_, Try.func64, by kernel_rfl, by kernel_rfl⟩
theorem fun_laws_mnTerms : Try.prog.funcs[F_laws_mnTerms]? = some Try.f64 := Try.func64
theorem tmps_laws_mnTerms : Try.f64.ntmps = 27 := Try.ntmps64
theorem ress_laws_mnTerms : Try.f64.results = #[.tmp 4] := Try.results64
abbrev F_spec_l91Defs : FuncId := 65
instance can_spec_l91Defs : Callable Try.prog 65 := ⟨_, Try.func65, by kernel_rfl, by kernel_rfl⟩
theorem fun_spec_l91Defs : Try.prog.funcs[F_spec_l91Defs]? = some Try.f65 := Try.func65
theorem tmps_spec_l91Defs : Try.f65.ntmps = 41 := Try.ntmps65
theorem ress_spec_l91Defs : Try.f65.results = #[.tmp 2] := Try.results65
abbrev F_impl_stepsOf : FuncId := 66
instance can_impl_stepsOf : Callable Try.prog 66 := ⟨_, Try.func66, by kernel_rfl, by kernel_rfl⟩
theorem fun_impl_stepsOf : Try.prog.funcs[F_impl_stepsOf]? = some Try.f66 := Try.func66
theorem tmps_impl_stepsOf : Try.f66.ntmps = 183 := Try.ntmps66
theorem ress_impl_stepsOf : Try.f66.results = #[.tmp 4] := Try.results66
abbrev F_impl_copyTerm : FuncId := 67
instance can_impl_copyTerm : Callable Try.prog 67 := ⟨_, Try.func67, by kernel_rfl, by kernel_rfl⟩
theorem fun_impl_copyTerm : Try.prog.funcs[F_impl_copyTerm]? = some Try.f67 := Try.func67
theorem tmps_impl_copyTerm : Try.f67.ntmps = 27 := Try.ntmps67
theorem ress_impl_copyTerm : Try.f67.results = #[.cell 2 29] := Try.results67
abbrev F_spec_ActOk : FuncId := 68
instance can_spec_ActOk : Callable Try.prog 68 := ⟨_, Try.func68, by kernel_rfl, by kernel_rfl⟩
theorem fun_spec_ActOk : Try.prog.funcs[F_spec_ActOk]? = some Try.f68 := Try.func68
theorem tmps_spec_ActOk : Try.f68.ntmps = 5 := Try.ntmps68
theorem ress_spec_ActOk : Try.f68.results = #[.tmp 2] := Try.results68
abbrev F_impl_ActOk : FuncId := 69
instance can_impl_ActOk : Callable Try.prog 69 := ⟨_, Try.func69, by kernel_rfl, by kernel_rfl⟩
theorem fun_impl_ActOk : Try.prog.funcs[F_impl_ActOk]? = some Try.f69 := Try.func69
theorem tmps_impl_ActOk : Try.f69.ntmps = 9 := Try.ntmps69
theorem ress_impl_ActOk : Try.f69.results = #[.tmp 2] := Try.results69
abbrev F_impl_termShape_1 : FuncId := 70
instance can_impl_termShape_1 : Callable Try.prog 70 := ⟨_, Try.func70, by kernel_rfl, by kernel_rfl⟩
theorem fun_impl_termShape_1 : Try.prog.funcs[F_impl_termShape_1]? = some Try.f70 := Try.func70
theorem tmps_impl_termShape_1 : Try.f70.ntmps = 6 := Try.ntmps70
theorem ress_impl_termShape_1 : Try.f70.results = #[.tmp 2] := Try.results70
abbrev F_impl_callsBelow_1 : FuncId := 71
instance can_impl_callsBelow_1 : Callable Try.prog 71 := ⟨_, Try.func71, by kernel_rfl, by kernel_rfl⟩
theorem fun_impl_callsBelow_1 : Try.prog.funcs[F_impl_callsBelow_1]? = some Try.f71 := Try.func71
theorem tmps_impl_callsBelow_1 : Try.f71.ntmps = 8 := Try.ntmps71
theorem ress_impl_callsBelow_1 : Try.f71.results = #[.tmp 3] := Try.results71
abbrev F_slices_IndexFunc_impl_Term_impl_Term : FuncId := 72
instance can_slices_IndexFunc_impl_Term_impl_Term : Callable Try.prog 72 := ⟨_, Try.func72, by kernel_rfl, by kernel_rfl⟩
theorem fun_slices_IndexFunc_impl_Term_impl_Term : Try.prog.funcs[F_slices_IndexFunc_impl_Term_impl_Term]? = some Try.f72 := Try.func72
theorem tmps_slices_IndexFunc_impl_Term_impl_Term : Try.f72.ntmps = 19 := Try.ntmps72
theorem ress_slices_IndexFunc_impl_Term_impl_Term : Try.f72.results = #[.tmp 4] := Try.results72
abbrev F_spec_l91Term : FuncId := 73
instance can_spec_l91Term : Callable Try.prog 73 := ⟨_, Try.func73, by kernel_rfl, by kernel_rfl⟩
theorem fun_spec_l91Term : Try.prog.funcs[F_spec_l91Term]? = some Try.f73 := Try.func73
theorem tmps_spec_l91Term : Try.f73.ntmps = 34 := Try.ntmps73
theorem ress_spec_l91Term : Try.f73.results = #[.cell 4 29] := Try.results73
abbrev F_spec_l1Name : FuncId := 74
instance can_spec_l1Name : Callable Try.prog 74 := ⟨_, Try.func74, by kernel_rfl, by kernel_rfl⟩
theorem fun_spec_l1Name : Try.prog.funcs[F_spec_l1Name]? = some Try.f74 := Try.func74
theorem tmps_spec_l1Name : Try.f74.ntmps = 8 := Try.ntmps74
theorem ress_spec_l1Name : Try.f74.results = #[.tmp 2] := Try.results74
abbrev F_impl_nameOf : FuncId := 75
instance can_impl_nameOf : Callable Try.prog 75 := ⟨_, Try.func75, by kernel_rfl, by kernel_rfl⟩
theorem fun_impl_nameOf : Try.prog.funcs[F_impl_nameOf]? = some Try.f75 := Try.func75
theorem tmps_impl_nameOf : Try.f75.ntmps = 8 := Try.ntmps75
theorem ress_impl_nameOf : Try.f75.results = #[.tmp 2] := Try.results75
abbrev F_impl_swapAct : FuncId := 76
instance can_impl_swapAct : Callable Try.prog 76 := ⟨_, Try.func76, by kernel_rfl, by kernel_rfl⟩
theorem fun_impl_swapAct : Try.prog.funcs[F_impl_swapAct]? = some Try.f76 := Try.func76
theorem tmps_impl_swapAct : Try.f76.ntmps = 28 := Try.ntmps76
theorem ress_impl_swapAct : Try.f76.results = #[.tmp 6] := Try.results76
abbrev F_impl_swapName : FuncId := 77
instance can_impl_swapName : Callable Try.prog 77 := ⟨_, Try.func77, by kernel_rfl, by kernel_rfl⟩
theorem fun_impl_swapName : Try.prog.funcs[F_impl_swapName]? = some Try.f77 := Try.func77
theorem tmps_impl_swapName : Try.f77.ntmps = 17 := Try.ntmps77
theorem ress_impl_swapName : Try.f77.results = #[.tmp 6] := Try.results77
abbrev F_spec_l91Good : FuncId := 78
instance can_spec_l91Good : Callable Try.prog 78 := ⟨_, Try.func78, by kernel_rfl, by kernel_rfl⟩
theorem fun_spec_l91Good : Try.prog.funcs[F_spec_l91Good]? = some Try.f78 := Try.func78
theorem tmps_spec_l91Good : Try.f78.ntmps = 94 := Try.ntmps78
theorem ress_spec_l91Good : Try.f78.results = #[.cell 8 29] := Try.results78
abbrev F_impl_parOf : FuncId := 79
instance can_impl_parOf : Callable Try.prog 79 := ⟨_, Try.func79, by kernel_rfl, by kernel_rfl⟩
theorem fun_impl_parOf : Try.prog.funcs[F_impl_parOf]? = some Try.f79 := Try.func79
theorem tmps_impl_parOf : Try.f79.ntmps = 9 := Try.ntmps79
theorem ress_impl_parOf : Try.f79.results = #[.cell 4 29] := Try.results79
abbrev F_impl_hideOf : FuncId := 80
instance can_impl_hideOf : Callable Try.prog 80 := ⟨_, Try.func80, by kernel_rfl, by kernel_rfl⟩
theorem fun_impl_hideOf : Try.prog.funcs[F_impl_hideOf]? = some Try.f80 := Try.func80
theorem tmps_impl_hideOf : Try.f80.ntmps = 9 := Try.ntmps80
theorem ress_impl_hideOf : Try.f80.results = #[.cell 4 29] := Try.results80
abbrev F_spec_l91Do : FuncId := 81
instance can_spec_l91Do : Callable Try.prog 81 := ⟨_, Try.func81, by kernel_rfl, by kernel_rfl⟩
theorem fun_spec_l91Do : Try.prog.funcs[F_spec_l91Do]? = some Try.f81 := Try.func81
theorem tmps_spec_l91Do : Try.f81.ntmps = 12 := Try.ntmps81
theorem ress_spec_l91Do : Try.f81.results = #[.tmp 2] := Try.results81
theorem mixed_ : Try.prog.follows .mixedOrders = true := by kernel_rfl
end Go.Proofs.Ytkgmdicbfpkihaa.Asl
