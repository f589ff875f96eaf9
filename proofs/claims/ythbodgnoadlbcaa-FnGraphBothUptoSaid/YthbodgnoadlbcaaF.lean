/- Facts on the translation's types and functions, by name. Written by a program of this session. -/
import Derived.Test.YthbodgnoadlbcaaProg
import Derived.Test.YthbodgnoadlbcaaB6
namespace Go.Proofs.Ythbodgnoadlbcaa.Asl
open Go.RowKit
set_option linter.unusedVariables false
abbrev T_func1 : TypeId := 1
instance ty_func1 : Ty Try.prog 1 false 1 8 (.nilFunc) := ⟨by kernel_rfl, by kernel_rfl⟩
abbrev T_int64 : TypeId := 2
instance ty_int64 : Ty Try.prog 2 false 1 8 (.int .i64 0) := ⟨by kernel_rfl, by kernel_rfl⟩
instance un_int64 : Un Try.prog 2 (.int .i64) := ⟨by kernel_rfl⟩
abbrev T_int : TypeId := 3
instance ty_int : Ty Try.prog 3 false 1 8 (.int .i64 0) := ⟨by kernel_rfl, by kernel_rfl⟩
instance un_int : Un Try.prog 3 (.int .i64) := ⟨by kernel_rfl⟩
abbrev T_bool : TypeId := 4
instance ty_bool : Ty Try.prog 4 false 1 1 (.bool false) := ⟨by kernel_rfl, by kernel_rfl⟩
instance un_bool : Un Try.prog 4 (.bool) := ⟨by kernel_rfl⟩
abbrev T_uint8 : TypeId := 5
instance ty_uint8 : Ty Try.prog 5 false 1 1 (.int .u8 0) := ⟨by kernel_rfl, by kernel_rfl⟩
instance un_uint8 : Un Try.prog 5 (.int .u8) := ⟨by kernel_rfl⟩
abbrev T_string : TypeId := 9
instance ty_string : Ty Try.prog 9 false 1 16 (.string ⟨#[]⟩) := ⟨by kernel_rfl, by kernel_rfl⟩
instance un_string : Un Try.prog 9 (.string) := ⟨by kernel_rfl⟩
abbrev T_int32 : TypeId := 21
instance ty_int32 : Ty Try.prog 21 false 1 4 (.int .i32 0) := ⟨by kernel_rfl, by kernel_rfl⟩
instance un_int32 : Un Try.prog 21 (.int .i32) := ⟨by kernel_rfl⟩
abbrev T_s_uint8 : TypeId := 22
instance ty_s_uint8 : Ty Try.prog 22 false 1 24 (.slice none 0 0) := ⟨by kernel_rfl, by kernel_rfl⟩
instance un_s_uint8 : Un Try.prog 22 (.slice 5) := ⟨by kernel_rfl⟩
abbrev T_s_s_impl_Move : TypeId := 23
instance ty_s_s_impl_Move : Ty Try.prog 23 false 1 24 (.slice none 0 0) := ⟨by kernel_rfl, by kernel_rfl⟩
instance un_s_s_impl_Move : Un Try.prog 23 (.slice 39) := ⟨by kernel_rfl⟩
abbrev T_impl_Graph : TypeId := 25
instance ty_impl_Graph : Ty Try.prog 25 true 1 24 (.agg #[(.slice none 0 0)]) := ⟨by kernel_rfl, by kernel_rfl⟩
abbrev T_func27 : TypeId := 27
instance ty_func27 : Ty Try.prog 27 false 1 8 (.nilFunc) := ⟨by kernel_rfl, by kernel_rfl⟩
abbrev T_func29 : TypeId := 29
instance ty_func29 : Ty Try.prog 29 false 1 8 (.nilFunc) := ⟨by kernel_rfl, by kernel_rfl⟩
abbrev T_func30 : TypeId := 30
instance ty_func30 : Ty Try.prog 30 false 1 8 (.nilFunc) := ⟨by kernel_rfl, by kernel_rfl⟩
abbrev T_s_int : TypeId := 31
instance ty_s_int : Ty Try.prog 31 false 1 24 (.slice none 0 0) := ⟨by kernel_rfl, by kernel_rfl⟩
instance un_s_int : Un Try.prog 31 (.slice 3) := ⟨by kernel_rfl⟩
abbrev T_func32 : TypeId := 32
instance ty_func32 : Ty Try.prog 32 false 1 8 (.nilFunc) := ⟨by kernel_rfl, by kernel_rfl⟩
abbrev T_func33 : TypeId := 33
instance ty_func33 : Ty Try.prog 33 false 1 8 (.nilFunc) := ⟨by kernel_rfl, by kernel_rfl⟩
abbrev T_func34 : TypeId := 34
instance ty_func34 : Ty Try.prog 34 false 1 8 (.nilFunc) := ⟨by kernel_rfl, by kernel_rfl⟩
abbrev T_p_spec_l6Rd : TypeId := 35
instance ty_p_spec_l6Rd : Ty Try.prog 35 false 1 8 (.pointer none) := ⟨by kernel_rfl, by kernel_rfl⟩
instance un_p_spec_l6Rd : Un Try.prog 35 (.pointer 45) := ⟨by kernel_rfl⟩
abbrev T_func36 : TypeId := 36
instance ty_func36 : Ty Try.prog 36 false 1 8 (.nilFunc) := ⟨by kernel_rfl, by kernel_rfl⟩
abbrev T_func37 : TypeId := 37
instance ty_func37 : Ty Try.prog 37 false 1 8 (.nilFunc) := ⟨by kernel_rfl, by kernel_rfl⟩
abbrev T_func38 : TypeId := 38
instance ty_func38 : Ty Try.prog 38 false 1 8 (.nilFunc) := ⟨by kernel_rfl, by kernel_rfl⟩
abbrev T_s_impl_Move : TypeId := 39
instance ty_s_impl_Move : Ty Try.prog 39 false 1 24 (.slice none 0 0) := ⟨by kernel_rfl, by kernel_rfl⟩
instance un_s_impl_Move : Un Try.prog 39 (.slice 43) := ⟨by kernel_rfl⟩
abbrev T_func40 : TypeId := 40
instance ty_func40 : Ty Try.prog 40 false 1 8 (.nilFunc) := ⟨by kernel_rfl, by kernel_rfl⟩
abbrev T_func41 : TypeId := 41
instance ty_func41 : Ty Try.prog 41 false 1 8 (.nilFunc) := ⟨by kernel_rfl, by kernel_rfl⟩
abbrev T_impl_Move : TypeId := 43
instance ty_impl_Move : Ty Try.prog 43 true 2 16 (.agg #[(.int .i64 0), (.int .i64 0)]) := ⟨by kernel_rfl, by kernel_rfl⟩
abbrev T_spec_l6Rd : TypeId := 45
instance ty_spec_l6Rd : Ty Try.prog 45 true 2 32 (.agg #[(.slice none 0 0), (.int .i64 0)]) := ⟨by kernel_rfl, by kernel_rfl⟩
abbrev T_func46 : TypeId := 46
instance ty_func46 : Ty Try.prog 46 false 1 8 (.nilFunc) := ⟨by kernel_rfl, by kernel_rfl⟩
abbrev T_func47 : TypeId := 47
instance ty_func47 : Ty Try.prog 47 false 1 8 (.nilFunc) := ⟨by kernel_rfl, by kernel_rfl⟩
abbrev T_s_impl_Term : TypeId := 48
instance ty_s_impl_Term : Ty Try.prog 48 false 1 24 (.slice none 0 0) := ⟨by kernel_rfl, by kernel_rfl⟩
instance un_s_impl_Term : Un Try.prog 48 (.slice 50) := ⟨by kernel_rfl⟩
abbrev T_impl_Term : TypeId := 50
instance ty_impl_Term : Ty Try.prog 50 true 3 40 (.agg #[(.int .i64 0), (.int .i64 0), (.slice none 0 0)]) := ⟨by kernel_rfl, by kernel_rfl⟩
abbrev T_func52 : TypeId := 52
instance ty_func52 : Ty Try.prog 52 false 1 8 (.nilFunc) := ⟨by kernel_rfl, by kernel_rfl⟩
abbrev T_func53 : TypeId := 53
instance ty_func53 : Ty Try.prog 53 false 1 8 (.nilFunc) := ⟨by kernel_rfl, by kernel_rfl⟩
abbrev T_func54 : TypeId := 54
instance ty_func54 : Ty Try.prog 54 false 1 8 (.nilFunc) := ⟨by kernel_rfl, by kernel_rfl⟩
abbrev T_func55 : TypeId := 55
instance ty_func55 : Ty Try.prog 55 false 1 8 (.nilFunc) := ⟨by kernel_rfl, by kernel_rfl⟩
abbrev T_func56 : TypeId := 56
instance ty_func56 : Ty Try.prog 56 false 1 8 (.nilFunc) := ⟨by kernel_rfl, by kernel_rfl⟩
abbrev T_func57 : TypeId := 57
instance ty_func57 : Ty Try.prog 57 false 1 8 (.nilFunc) := ⟨by kernel_rfl, by kernel_rfl⟩
abbrev T_func58 : TypeId := 58
instance ty_func58 : Ty Try.prog 58 false 1 8 (.nilFunc) := ⟨by kernel_rfl, by kernel_rfl⟩
abbrev T_s_s_int : TypeId := 59
instance ty_s_s_int : Ty Try.prog 59 false 1 24 (.slice none 0 0) := ⟨by kernel_rfl, by kernel_rfl⟩
instance un_s_s_int : Un Try.prog 59 (.slice 31) := ⟨by kernel_rfl⟩
abbrev T_func60 : TypeId := 60
instance ty_func60 : Ty Try.prog 60 false 1 8 (.nilFunc) := ⟨by kernel_rfl, by kernel_rfl⟩
abbrev T_func61 : TypeId := 61
instance ty_func61 : Ty Try.prog 61 false 1 8 (.nilFunc) := ⟨by kernel_rfl, by kernel_rfl⟩
abbrev T_func63 : TypeId := 63
instance ty_func63 : Ty Try.prog 63 false 1 8 (.nilFunc) := ⟨by kernel_rfl, by kernel_rfl⟩
abbrev T_func64 : TypeId := 64
instance ty_func64 : Ty Try.prog 64 false 1 8 (.nilFunc) := ⟨by kernel_rfl, by kernel_rfl⟩
abbrev T_func65 : TypeId := 65
instance ty_func65 : Ty Try.prog 65 false 1 8 (.nilFunc) := ⟨by kernel_rfl, by kernel_rfl⟩
abbrev T_func66 : TypeId := 66
instance ty_func66 : Ty Try.prog 66 false 1 8 (.nilFunc) := ⟨by kernel_rfl, by kernel_rfl⟩
abbrev T_func67 : TypeId := 67
instance ty_func67 : Ty Try.prog 67 false 1 8 (.nilFunc) := ⟨by kernel_rfl, by kernel_rfl⟩
abbrev T_func68 : TypeId := 68
instance ty_func68 : Ty Try.prog 68 false 1 8 (.nilFunc) := ⟨by kernel_rfl, by kernel_rfl⟩
abbrev T_func69 : TypeId := 69
instance ty_func69 : Ty Try.prog 69 false 1 8 (.nilFunc) := ⟨by kernel_rfl, by kernel_rfl⟩
abbrev T_func70 : TypeId := 70
instance ty_func70 : Ty Try.prog 70 false 1 8 (.nilFunc) := ⟨by kernel_rfl, by kernel_rfl⟩
abbrev T_func71 : TypeId := 71
instance ty_func71 : Ty Try.prog 71 false 1 8 (.nilFunc) := ⟨by kernel_rfl, by kernel_rfl⟩
abbrev T_func72 : TypeId := 72
instance ty_func72 : Ty Try.prog 72 false 1 8 (.nilFunc) := ⟨by kernel_rfl, by kernel_rfl⟩
abbrev T_func73 : TypeId := 73
instance ty_func73 : Ty Try.prog 73 false 1 8 (.nilFunc) := ⟨by kernel_rfl, by kernel_rfl⟩
abbrev T_func74 : TypeId := 74
instance ty_func74 : Ty Try.prog 74 false 1 8 (.nilFunc) := ⟨by kernel_rfl, by kernel_rfl⟩
abbrev T_func75 : TypeId := 75
instance ty_func75 : Ty Try.prog 75 false 1 8 (.nilFunc) := ⟨by kernel_rfl, by kernel_rfl⟩
abbrev T_func76 : TypeId := 76
instance ty_func76 : Ty Try.prog 76 false 1 8 (.nilFunc) := ⟨by kernel_rfl, by kernel_rfl⟩
abbrev T_func77 : TypeId := 77
instance ty_func77 : Ty Try.prog 77 false 1 8 (.nilFunc) := ⟨by kernel_rfl, by kernel_rfl⟩
abbrev T_s_string : TypeId := 78
instance ty_s_string : Ty Try.prog 78 false 1 24 (.slice none 0 0) := ⟨by kernel_rfl, by kernel_rfl⟩
instance un_s_string : Un Try.prog 78 (.slice 9) := ⟨by kernel_rfl⟩
abbrev T_s_impl_Step : TypeId := 79
instance ty_s_impl_Step : Ty Try.prog 79 false 1 24 (.slice none 0 0) := ⟨by kernel_rfl, by kernel_rfl⟩
instance un_s_impl_Step : Un Try.prog 79 (.slice 82) := ⟨by kernel_rfl⟩
abbrev T_func80 : TypeId := 80
instance ty_func80 : Ty Try.prog 80 false 1 8 (.nilFunc) := ⟨by kernel_rfl, by kernel_rfl⟩
abbrev T_impl_Step : TypeId := 82
instance ty_impl_Step : Ty Try.prog 82 true 4 48 (.agg #[(.int .i64 0), (.int .i64 0), (.int .i64 0), (.slice none 0 0)]) := ⟨by kernel_rfl, by kernel_rfl⟩
abbrev T_func83 : TypeId := 83
instance ty_func83 : Ty Try.prog 83 false 1 8 (.nilFunc) := ⟨by kernel_rfl, by kernel_rfl⟩
abbrev T_func84 : TypeId := 84
instance ty_func84 : Ty Try.prog 84 false 1 8 (.nilFunc) := ⟨by kernel_rfl, by kernel_rfl⟩
abbrev T_func85 : TypeId := 85
instance ty_func85 : Ty Try.prog 85 false 1 8 (.nilFunc) := ⟨by kernel_rfl, by kernel_rfl⟩
abbrev T_func86 : TypeId := 86
instance ty_func86 : Ty Try.prog 86 false 1 8 (.nilFunc) := ⟨by kernel_rfl, by kernel_rfl⟩
abbrev T_func87 : TypeId := 87
instance ty_func87 : Ty Try.prog 87 false 1 8 (.nilFunc) := ⟨by kernel_rfl, by kernel_rfl⟩
abbrev T_func88 : TypeId := 88
instance ty_func88 : Ty Try.prog 88 false 1 8 (.nilFunc) := ⟨by kernel_rfl, by kernel_rfl⟩
abbrev T_func89 : TypeId := 89
instance ty_func89 : Ty Try.prog 89 false 1 8 (.nilFunc) := ⟨by kernel_rfl, by kernel_rfl⟩
abbrev T_func90 : TypeId := 90
instance ty_func90 : Ty Try.prog 90 false 1 8 (.nilFunc) := ⟨by kernel_rfl, by kernel_rfl⟩
abbrev T_func91 : TypeId := 91
instance ty_func91 : Ty Try.prog 91 false 1 8 (.nilFunc) := ⟨by kernel_rfl, by kernel_rfl⟩
abbrev T_func92 : TypeId := 92
instance ty_func92 : Ty Try.prog 92 false 1 8 (.nilFunc) := ⟨by kernel_rfl, by kernel_rfl⟩
abbrev T_func93 : TypeId := 93
instance ty_func93 : Ty Try.prog 93 false 1 8 (.nilFunc) := ⟨by kernel_rfl, by kernel_rfl⟩
abbrev T_func94 : TypeId := 94
instance ty_func94 : Ty Try.prog 94 false 1 8 (.nilFunc) := ⟨by kernel_rfl, by kernel_rfl⟩
abbrev T_uint : TypeId := 95
instance ty_uint : Ty Try.prog 95 false 1 8 (.int .u64 0) := ⟨by kernel_rfl, by kernel_rfl⟩
instance un_uint : Un Try.prog 95 (.int .u64) := ⟨by kernel_rfl⟩
abbrev T_func96 : TypeId := 96
instance ty_func96 : Ty Try.prog 96 false 1 8 (.nilFunc) := ⟨by kernel_rfl, by kernel_rfl⟩
abbrev T_func97 : TypeId := 97
instance ty_func97 : Ty Try.prog 97 false 1 8 (.nilFunc) := ⟨by kernel_rfl, by kernel_rfl⟩
abbrev T_slices_sortedHint : TypeId := 98
instance ty_slices_sortedHint : Ty Try.prog 98 false 1 8 (.int .i64 0) := ⟨by kernel_rfl, by kernel_rfl⟩
instance un_slices_sortedHint : Un Try.prog 98 (.int .i64) := ⟨by kernel_rfl⟩
abbrev T_func100 : TypeId := 100
instance ty_func100 : Ty Try.prog 100 false 1 8 (.nilFunc) := ⟨by kernel_rfl, by kernel_rfl⟩
abbrev T_func101 : TypeId := 101
instance ty_func101 : Ty Try.prog 101 false 1 8 (.nilFunc) := ⟨by kernel_rfl, by kernel_rfl⟩
abbrev T_func102 : TypeId := 102
instance ty_func102 : Ty Try.prog 102 false 1 8 (.nilFunc) := ⟨by kernel_rfl, by kernel_rfl⟩
abbrev T_func104 : TypeId := 104
instance ty_func104 : Ty Try.prog 104 false 1 8 (.nilFunc) := ⟨by kernel_rfl, by kernel_rfl⟩
abbrev T_func105 : TypeId := 105
instance ty_func105 : Ty Try.prog 105 false 1 8 (.nilFunc) := ⟨by kernel_rfl, by kernel_rfl⟩
abbrev T_uint32 : TypeId := 106
instance ty_uint32 : Ty Try.prog 106 false 1 4 (.int .u32 0) := ⟨by kernel_rfl, by kernel_rfl⟩
instance un_uint32 : Un Try.prog 106 (.int .u32) := ⟨by kernel_rfl⟩
abbrev T_func107 : TypeId := 107
instance ty_func107 : Ty Try.prog 107 false 1 8 (.nilFunc) := ⟨by kernel_rfl, by kernel_rfl⟩
abbrev T_uint64 : TypeId := 108
instance ty_uint64 : Ty Try.prog 108 false 1 8 (.int .u64 0) := ⟨by kernel_rfl, by kernel_rfl⟩
instance un_uint64 : Un Try.prog 108 (.int .u64) := ⟨by kernel_rfl⟩
abbrev T_func109 : TypeId := 109
instance ty_func109 : Ty Try.prog 109 false 1 8 (.nilFunc) := ⟨by kernel_rfl, by kernel_rfl⟩
abbrev T_slices_xorshift : TypeId := 110
instance ty_slices_xorshift : Ty Try.prog 110 false 1 8 (.int .u64 0) := ⟨by kernel_rfl, by kernel_rfl⟩
instance un_slices_xorshift : Un Try.prog 110 (.int .u64) := ⟨by kernel_rfl⟩
abbrev T_func111 : TypeId := 111
instance ty_func111 : Ty Try.prog 111 false 1 8 (.nilFunc) := ⟨by kernel_rfl, by kernel_rfl⟩
abbrev T_func112 : TypeId := 112
instance ty_func112 : Ty Try.prog 112 false 1 8 (.nilFunc) := ⟨by kernel_rfl, by kernel_rfl⟩
abbrev T_func113 : TypeId := 113
instance ty_func113 : Ty Try.prog 113 false 1 8 (.nilFunc) := ⟨by kernel_rfl, by kernel_rfl⟩
abbrev T_p_int : TypeId := 114
instance ty_p_int : Ty Try.prog 114 false 1 8 (.pointer none) := ⟨by kernel_rfl, by kernel_rfl⟩
instance un_p_int : Un Try.prog 114 (.pointer 3) := ⟨by kernel_rfl⟩
abbrev T_func115 : TypeId := 115
instance ty_func115 : Ty Try.prog 115 false 1 8 (.nilFunc) := ⟨by kernel_rfl, by kernel_rfl⟩
abbrev T_p_slices_xorshift : TypeId := 116
instance ty_p_slices_xorshift : Ty Try.prog 116 false 1 8 (.pointer none) := ⟨by kernel_rfl, by kernel_rfl⟩
instance un_p_slices_xorshift : Un Try.prog 116 (.pointer 110) := ⟨by kernel_rfl⟩
abbrev T_func118 : TypeId := 118
instance ty_func118 : Ty Try.prog 118 false 1 8 (.nilFunc) := ⟨by kernel_rfl, by kernel_rfl⟩
abbrev T_func119 : TypeId := 119
instance ty_func119 : Ty Try.prog 119 false 1 8 (.nilFunc) := ⟨by kernel_rfl, by kernel_rfl⟩
abbrev T_func125 : TypeId := 125
instance ty_func125 : Ty Try.prog 125 false 1 8 (.nilFunc) := ⟨by kernel_rfl, by kernel_rfl⟩
abbrev T_func128 : TypeId := 128
instance ty_func128 : Ty Try.prog 128 false 1 8 (.nilFunc) := ⟨by kernel_rfl, by kernel_rfl⟩
abbrev T_p_uint8 : TypeId := 129
instance ty_p_uint8 : Ty Try.prog 129 false 1 8 (.pointer none) := ⟨by kernel_rfl, by kernel_rfl⟩
instance un_p_uint8 : Un Try.prog 129 (.pointer 5) := ⟨by kernel_rfl⟩


instance fld_impl_Graph_0 : FieldAt Try.prog 25 0 0 := ⟨_, _, Try.underlying25, rfl, rfl, _, _, _, _, ty_s_s_impl_Move, by decide⟩
instance str_impl_Graph : StructAt Try.prog 25 [(0, 1)] := ⟨_, Try.underlying25, fun w => by simp [ty_s_s_impl_Move.sizeOf]⟩












instance fld_impl_Move_0 : FieldAt Try.prog 43 0 0 := ⟨_, _, Try.underlying43, rfl, rfl, _, _, _, _, ty_int, by decide⟩
instance fld_impl_Move_1 : FieldAt Try.prog 43 1 1 := ⟨_, _, Try.underlying43, rfl, rfl, _, _, _, _, ty_int, by decide⟩
instance eqmv_impl_Move : EqMv Try.prog 43 := ⟨⟨_, _, Try.underlying43, rfl, rfl, by decide, by decide, ⟨_, _, _, ty_int⟩, ⟨_, _, _, ty_int⟩, ⟨.i64, by kernel_rfl⟩, ⟨.i64, by kernel_rfl⟩⟩, by kernel_rfl, by kernel_rfl⟩
instance str_impl_Move : StructAt Try.prog 43 [(0, 1), (1, 1)] := ⟨_, Try.underlying43, fun w => by simp [ty_int.sizeOf]⟩

instance fld_spec_l6Rd_0 : FieldAt Try.prog 45 0 0 := ⟨_, _, Try.underlying45, rfl, rfl, _, _, _, _, ty_s_uint8, by decide⟩
instance fld_spec_l6Rd_1 : FieldAt Try.prog 45 1 1 := ⟨_, _, Try.underlying45, rfl, rfl, _, _, _, _, ty_int, by decide⟩
instance str_spec_l6Rd : StructAt Try.prog 45 [(0, 1), (1, 1)] := ⟨_, Try.underlying45, fun w => by simp [ty_int.sizeOf, ty_s_uint8.sizeOf]⟩



instance fld_impl_Term_0 : FieldAt Try.prog 50 0 0 := ⟨_, _, Try.underlying50, rfl, rfl, _, _, _, _, ty_int, by decide⟩
instance fld_impl_Term_1 : FieldAt Try.prog 50 1 1 := ⟨_, _, Try.underlying50, rfl, rfl, _, _, _, _, ty_int, by decide⟩
instance fld_impl_Term_2 : FieldAt Try.prog 50 2 2 := ⟨_, _, Try.underlying50, rfl, rfl, _, _, _, _, ty_s_impl_Term, by decide⟩
instance str_impl_Term : StructAt Try.prog 50 [(0, 1), (1, 1), (2, 1)] := ⟨_, Try.underlying50, fun w => by simp [ty_int.sizeOf, ty_s_impl_Term.sizeOf]⟩


























instance fld_impl_Step_0 : FieldAt Try.prog 82 0 0 := ⟨_, _, Try.underlying82, rfl, rfl, _, _, _, _, ty_int, by decide⟩
instance fld_impl_Step_1 : FieldAt Try.prog 82 1 1 := ⟨_, _, Try.underlying82, rfl, rfl, _, _, _, _, ty_impl_Term, by decide⟩
instance str_impl_Step : StructAt Try.prog 82 [(0, 1), (1, 3)] := ⟨_, Try.underlying82, fun w => by simp [ty_impl_Term.sizeOf, ty_int.sizeOf]⟩





























abbrev F_laws_FnGraphBoth : FuncId := 3
instance can_laws_FnGraphBoth : Callable Try.prog 3 := ⟨_, Try.func3, by kernel_rfl, by kernel_rfl⟩
theorem fun_laws_FnGraphBoth : Try.prog.funcs[F_laws_FnGraphBoth]? = some Try.f3 := Try.func3
theorem tmps_laws_FnGraphBoth : Try.f3.ntmps = 77 := Try.ntmps3
theorem ress_laws_FnGraphBoth : Try.f3.results = #[.tmp 2] := Try.results3
abbrev F_spec_DrawGraphBoth : FuncId := 4
instance can_spec_DrawGraphBoth : Callable Try.prog 4 := ⟨_, Try.func4, by kernel_rfl, by kernel_rfl⟩
theorem fun_spec_DrawGraphBoth : Try.prog.funcs[F_spec_DrawGraphBoth]? = some Try.f4 := Try.func4
theorem tmps_spec_DrawGraphBoth : Try.f4.ntmps = 16 := Try.ntmps4
theorem ress_spec_DrawGraphBoth : Try.f4.results = #[.cell 2 25, .cell 3 25] := Try.results4
abbrev F_impl_GraphBoth : FuncId := 5
instance can_impl_GraphBoth : Callable Try.prog 5 := ⟨_, Try.func5, by kernel_rfl, by kernel_rfl⟩
theorem fun_impl_GraphBoth : Try.prog.funcs[F_impl_GraphBoth]? = some Try.f5 := Try.func5
theorem tmps_impl_GraphBoth : Try.f5.ntmps = 65 := Try.ntmps5
theorem ress_impl_GraphBoth : Try.f5.results = #[.cell 4 25, .tmp 5] := Try.results5
abbrev F_spec_GraphBoth : FuncId := 6
instance can_spec_GraphBoth : Callable Try.prog 6 := ⟨_, Try.func6, by kernel_rfl, by kernel_rfl⟩
theorem fun_spec_GraphBoth : Try.prog.funcs[F_spec_GraphBoth]? = some Try.f6 := Try.func6
theorem tmps_spec_GraphBoth : Try.f6.ntmps = 28 := Try.ntmps6
theorem ress_spec_GraphBoth : Try.f6.results = #[.cell 4 25, .tmp 5] := Try.results6
abbrev F_laws_mnGraph : FuncId := 7
instance can_laws_mnGraph : Callable Try.prog 7 := ⟨_, Try.func7, by kernel_rfl, by kernel_rfl⟩
theorem fun_laws_mnGraph : Try.prog.funcs[F_laws_mnGraph]? = some Try.f7 := Try.func7
theorem tmps_laws_mnGraph : Try.f7.ntmps = 61 := Try.ntmps7
theorem ress_laws_mnGraph : Try.f7.results = #[.tmp 4] := Try.results7
abbrev F_impl_AlikeClasses : FuncId := 8
instance can_impl_AlikeClasses : Callable Try.prog 8 := ⟨_, Try.func8, by kernel_rfl, by kernel_rfl⟩
theorem fun_impl_AlikeClasses : Try.prog.funcs[F_impl_AlikeClasses]? = some Try.f8 := Try.func8
theorem tmps_impl_AlikeClasses : Try.f8.ntmps = 8 := Try.ntmps8
theorem ress_impl_AlikeClasses : Try.f8.results = #[.tmp 2] := Try.results8
abbrev F_laws_mnFiner : FuncId := 9
instance can_laws_mnFiner : Callable Try.prog 9 := ⟨_, Try.func9, by kernel_rfl, by kernel_rfl⟩
theorem fun_laws_mnFiner : Try.prog.funcs[F_laws_mnFiner]? = some Try.f9 := Try.func9
theorem tmps_laws_mnFiner : Try.f9.ntmps = 43 := Try.ntmps9
theorem ress_laws_mnFiner : Try.f9.results = #[.tmp 4] := Try.results9
abbrev F_spec_l6Open : FuncId := 10
instance can_spec_l6Open : Callable Try.prog 10 := ⟨_, Try.func10, by kernel_rfl, by kernel_rfl⟩
theorem fun_spec_l6Open : Try.prog.funcs[F_spec_l6Open]? = some Try.f10 := Try.func10
theorem tmps_spec_l6Open : Try.f10.ntmps = 11 := Try.ntmps10
theorem ress_spec_l6Open : Try.f10.results = #[.tmp 2] := Try.results10
abbrev F_spec_l91Twins : FuncId := 11
instance can_spec_l91Twins : Callable Try.prog 11 := ⟨_, Try.func11, by kernel_rfl, by kernel_rfl⟩
theorem fun_spec_l91Twins : Try.prog.funcs[F_spec_l91Twins]? = some Try.f11 := Try.func11
theorem tmps_spec_l91Twins : Try.f11.ntmps = 59 := Try.ntmps11
theorem ress_spec_l91Twins : Try.f11.results = #[.cell 2 25, .cell 3 25] := Try.results11
abbrev F_impl_GraphOk : FuncId := 12
instance can_impl_GraphOk : Callable Try.prog 12 := ⟨_, Try.func12, by kernel_rfl, by kernel_rfl⟩
theorem fun_impl_GraphOk : Try.prog.funcs[F_impl_GraphOk]? = some Try.f12 := Try.func12
theorem tmps_impl_GraphOk : Try.f12.ntmps = 64 := Try.ntmps12
theorem ress_impl_GraphOk : Try.f12.results = #[.tmp 2] := Try.results12
abbrev F_impl_shifted : FuncId := 13
instance can_impl_shifted : Callable Try.prog 13 := ⟨_, Try.func13, by kernel_rfl, by kernel_rfl⟩
theorem fun_impl_shifted : Try.prog.funcs[F_impl_shifted]? = some Try.f13 := Try.func13
theorem tmps_impl_shifted : Try.f13.ntmps = 27 := Try.ntmps13
theorem ress_impl_shifted : Try.f13.results = #[.tmp 4] := Try.results13
abbrev F_spec_GraphOk : FuncId := 14
instance can_spec_GraphOk : Callable Try.prog 14 := ⟨_, Try.func14, by kernel_rfl, by kernel_rfl⟩
theorem fun_spec_GraphOk : Try.prog.funcs[F_spec_GraphOk]? = some Try.f14 := Try.func14
theorem tmps_spec_GraphOk : Try.f14.ntmps = 68 := Try.ntmps14
theorem ress_spec_GraphOk : Try.f14.results = #[.tmp 2] := Try.results14
abbrev F_spec_l4Both : FuncId := 15
instance can_spec_l4Both : Callable Try.prog 15 := ⟨_, Try.func15, by kernel_rfl, by kernel_rfl⟩
theorem fun_spec_l4Both : Try.prog.funcs[F_spec_l4Both]? = some Try.f15 := Try.func15
theorem tmps_spec_l4Both : Try.f15.ntmps = 83 := Try.ntmps15
theorem ress_spec_l4Both : Try.f15.results = #[.cell 4 25] := Try.results15
abbrev F_impl_alikeClasses : FuncId := 16
instance can_impl_alikeClasses : Callable Try.prog 16 := ⟨_, Try.func16, by kernel_rfl, by kernel_rfl⟩
theorem fun_impl_alikeClasses : Try.prog.funcs[F_impl_alikeClasses]? = some Try.f16 := Try.func16
theorem tmps_impl_alikeClasses : Try.f16.ntmps = 13 := Try.ntmps16
theorem ress_impl_alikeClasses : Try.f16.results = #[.tmp 2] := Try.results16
abbrev F_spec_l91Graph : FuncId := 17
instance can_spec_l91Graph : Callable Try.prog 17 := ⟨_, Try.func17, by kernel_rfl, by kernel_rfl⟩
theorem fun_spec_l91Graph : Try.prog.funcs[F_spec_l91Graph]? = some Try.f17 := Try.func17
theorem tmps_spec_l91Graph : Try.f17.ntmps = 25 := Try.ntmps17
theorem ress_spec_l91Graph : Try.f17.results = #[.cell 2 25] := Try.results17
abbrev F_spec_l6Rd_pick : FuncId := 18
instance can_spec_l6Rd_pick : Callable Try.prog 18 := ⟨_, Try.func18, by kernel_rfl, by kernel_rfl⟩
theorem fun_spec_l6Rd_pick : Try.prog.funcs[F_spec_l6Rd_pick]? = some Try.f18 := Try.func18
theorem tmps_spec_l6Rd_pick : Try.f18.ntmps = 99 := Try.ntmps18
theorem ress_spec_l6Rd_pick : Try.f18.results = #[.tmp 4] := Try.results18
abbrev F_spec_l91Pair : FuncId := 19
instance can_spec_l91Pair : Callable Try.prog 19 := ⟨_, Try.func19, by kernel_rfl, by kernel_rfl⟩
theorem fun_spec_l91Pair : Try.prog.funcs[F_spec_l91Pair]? = some Try.f19 := Try.func19
theorem tmps_spec_l91Pair : Try.f19.ntmps = 79 := Try.ntmps19
theorem ress_spec_l91Pair : Try.f19.results = #[.cell 2 50, .cell 3 50, .tmp 4] := Try.results19
abbrev F_spec_GraphOf : FuncId := 20
instance can_spec_GraphOf : Callable Try.prog 20 := ⟨_, Try.func20, by kernel_rfl, by kernel_rfl⟩
theorem fun_spec_GraphOf : Try.prog.funcs[F_spec_GraphOf]? = some Try.f20 := Try.func20
theorem tmps_spec_GraphOf : Try.f20.ntmps = 16 := Try.ntmps20
theorem ress_spec_GraphOf : Try.f20.results = #[.cell 4 25, .tmp 5] := Try.results20
abbrev F_spec_GraphFold : FuncId := 21
instance can_spec_GraphFold : Callable Try.prog 21 := ⟨_, Try.func21, by kernel_rfl, by kernel_rfl⟩
theorem fun_spec_GraphFold : Try.prog.funcs[F_spec_GraphFold]? = some Try.f21 := Try.func21
theorem tmps_spec_GraphFold : Try.f21.ntmps = 12 := Try.ntmps21
theorem ress_spec_GraphFold : Try.f21.results = #[.cell 2 25, .tmp 3] := Try.results21
abbrev F_impl_ActOk : FuncId := 22
instance can_impl_ActOk : Callable Try.prog 22 := ⟨_, Try.func22, by kernel_rfl, by kernel_rfl⟩
theorem fun_impl_ActOk : Try.prog.funcs[F_impl_ActOk]? = some Try.f22 := Try.func22
theorem tmps_impl_ActOk : Try.f22.ntmps = 9 := Try.ntmps22
theorem ress_impl_ActOk : Try.f22.results = #[.tmp 2] := Try.results22
abbrev F_impl_byMove : FuncId := 23
instance can_impl_byMove : Callable Try.prog 23 := ⟨_, Try.func23, by kernel_rfl, by kernel_rfl⟩
theorem fun_impl_byMove : Try.prog.funcs[F_impl_byMove]? = some Try.f23 := Try.func23
theorem tmps_impl_byMove : Try.f23.ntmps = 19 := Try.ntmps23
theorem ress_impl_byMove : Try.f23.results = #[.tmp 4] := Try.results23
abbrev F_spec_l6In : FuncId := 24
instance can_spec_l6In : Callable Try.prog 24 := ⟨_, Try.func24, by kernel_rfl, by kernel_rfl⟩
theorem fun_spec_l6In : Try.prog.funcs[F_spec_l6In]? = some Try.f24 := Try.func24
theorem tmps_spec_l6In : Try.f24.ntmps = 15 := Try.ntmps24
theorem ress_spec_l6In : Try.f24.results = #[.tmp 6] := Try.results24
abbrev F_spec_ActOk : FuncId := 25
instance can_spec_ActOk : Callable Try.prog 25 := ⟨_, Try.func25, by kernel_rfl, by kernel_rfl⟩
theorem fun_spec_ActOk : Try.prog.funcs[F_spec_ActOk]? = some Try.f25 := Try.func25
theorem tmps_spec_ActOk : Try.f25.ntmps = 5 := Try.ntmps25
theorem ress_spec_ActOk : Try.f25.results = #[.tmp 2] := Try.results25
abbrev F_spec_l3Less : FuncId := 26
instance can_spec_l3Less : Callable Try.prog 26 := ⟨_, Try.func26, by kernel_rfl, by kernel_rfl⟩
theorem fun_spec_l3Less : Try.prog.funcs[F_spec_l3Less]? = some Try.f26 := Try.func26
theorem tmps_spec_l3Less : Try.f26.ntmps = 24 := Try.ntmps26
theorem ress_spec_l3Less : Try.f26.results = #[.tmp 4] := Try.results26
abbrev F_impl_alikeRounds : FuncId := 27
instance can_impl_alikeRounds : Callable Try.prog 27 := ⟨_, Try.func27, by kernel_rfl, by kernel_rfl⟩
theorem fun_impl_alikeRounds : Try.prog.funcs[F_impl_alikeRounds]? = some Try.f27 := Try.func27
theorem tmps_impl_alikeRounds : Try.f27.ntmps = 8 := Try.ntmps27
theorem ress_impl_alikeRounds : Try.f27.results = #[.tmp 2] := Try.results27
abbrev F_slices_Clone_int_int : FuncId := 28
instance can_slices_Clone_int_int : Callable Try.prog 28 := ⟨_, Try.func28, by kernel_rfl, by kernel_rfl⟩
theorem fun_slices_Clone_int_int : Try.prog.funcs[F_slices_Clone_int_int]? = some Try.f28 := Try.func28
theorem tmps_slices_Clone_int_int : Try.f28.ntmps = 8 := Try.ntmps28
theorem ress_slices_Clone_int_int : Try.f28.results = #[.tmp 2] := Try.results28
abbrev F_spec_l91Called : FuncId := 29
instance can_spec_l91Called : Callable Try.prog 29 := ⟨_, Try.func29, by kernel_rfl, by kernel_rfl⟩
theorem fun_spec_l91Called : Try.prog.funcs[F_spec_l91Called]? = some Try.f29 := Try.func29
theorem tmps_spec_l91Called : Try.f29.ntmps = 27 := Try.ntmps29
theorem ress_spec_l91Called : Try.f29.results = #[.cell 2 50, .tmp 3] := Try.results29
abbrev F_spec_l91Wild : FuncId := 30
instance can_spec_l91Wild : Callable Try.prog 30 := ⟨_, Try.func30, by kernel_rfl, by kernel_rfl⟩
theorem fun_spec_l91Wild : Try.prog.funcs[F_spec_l91Wild]? = some Try.f30 := Try.func30
theorem tmps_spec_l91Wild : Try.f30.ntmps = 84 := Try.ntmps30
theorem ress_spec_l91Wild : Try.f30.results = #[.cell 4 25] := Try.results30
abbrev F_spec_l91Term : FuncId := 31
instance can_spec_l91Term : Callable Try.prog 31 := ⟨_, Try.func31, by kernel_rfl, by kernel_rfl⟩
theorem fun_spec_l91Term : Try.prog.funcs[F_spec_l91Term]? = some Try.f31 := Try.func31
theorem tmps_spec_l91Term : Try.f31.ntmps = 34 := Try.ntmps31
theorem ress_spec_l91Term : Try.f31.results = #[.cell 4 50] := Try.results31
abbrev F_spec_l91Do : FuncId := 32
instance can_spec_l91Do : Callable Try.prog 32 := ⟨_, Try.func32, by kernel_rfl, by kernel_rfl⟩
theorem fun_spec_l91Do : Try.prog.funcs[F_spec_l91Do]? = some Try.f32 := Try.func32
theorem tmps_spec_l91Do : Try.f32.ntmps = 12 := Try.ntmps32
theorem ress_spec_l91Do : Try.f32.results = #[.tmp 2] := Try.results32
abbrev F_spec_l3Asked : FuncId := 33
instance can_spec_l3Asked : Callable Try.prog 33 := ⟨_, Try.func33, by kernel_rfl, by kernel_rfl⟩
theorem fun_spec_l3Asked : Try.prog.funcs[F_spec_l3Asked]? = some Try.f33 := Try.func33
theorem tmps_spec_l3Asked : Try.f33.ntmps = 13 := Try.ntmps33
theorem ress_spec_l3Asked : Try.f33.results = #[.tmp 4] := Try.results33
abbrev F_spec_l3Graph : FuncId := 34
instance can_spec_l3Graph : Callable Try.prog 34 := ⟨_, Try.func34, by kernel_rfl, by kernel_rfl⟩
theorem fun_spec_l3Graph : Try.prog.funcs[F_spec_l3Graph]? = some Try.f34 := Try.func34
theorem tmps_spec_l3Graph : Try.f34.ntmps = 106 := Try.ntmps34
theorem ress_spec_l3Graph : Try.f34.results = #[.cell 4 25, .tmp 5] := Try.results34
abbrev F_spec_l4Fold : FuncId := 35
instance can_spec_l4Fold : Callable Try.prog 35 := ⟨_, Try.func35, by kernel_rfl, by kernel_rfl⟩
theorem fun_spec_l4Fold : Try.prog.funcs[F_spec_l4Fold]? = some Try.f35 := Try.func35
theorem tmps_spec_l4Fold : Try.f35.ntmps = 100 := Try.ntmps35
theorem ress_spec_l4Fold : Try.f35.results = #[.cell 4 25] := Try.results35
abbrev F_spec_l4Classes : FuncId := 36
instance can_spec_l4Classes : Callable Try.prog 36 := ⟨_, Try.func36, by kernel_rfl, by kernel_rfl⟩
theorem fun_spec_l4Classes : Try.prog.funcs[F_spec_l4Classes]? = some Try.f36 := Try.func36
theorem tmps_spec_l4Classes : Try.f36.ntmps = 12 := Try.ntmps36
theorem ress_spec_l4Classes : Try.f36.results = #[.tmp 2] := Try.results36
abbrev F_cmp_Compare_int : FuncId := 37
instance can_cmp_Compare_int : Callable Try.prog 37 := ⟨_, Try.func37, by kernel_rfl, by kernel_rfl⟩
theorem fun_cmp_Compare_int : Try.prog.funcs[F_cmp_Compare_int]? = some Try.f37 := Try.func37
theorem tmps_cmp_Compare_int : Try.f37.ntmps = 20 := Try.ntmps37
theorem ress_cmp_Compare_int : Try.f37.results = #[.tmp 4] := Try.results37
abbrev F_impl_rounds : FuncId := 38
instance can_impl_rounds : Callable Try.prog 38 := ⟨_, Try.func38, by kernel_rfl, by kernel_rfl⟩
theorem fun_impl_rounds : Try.prog.funcs[F_impl_rounds]? = some Try.f38 := Try.func38
theorem tmps_impl_rounds : Try.f38.ntmps = 28 := Try.ntmps38
theorem ress_impl_rounds : Try.f38.results = #[.tmp 4] := Try.results38
abbrev F_impl_alikeRounds_1 : FuncId := 39
instance can_impl_alikeRounds_1 : Callable Try.prog 39 := ⟨_, Try.func39, by kernel_rfl, by kernel_rfl⟩
theorem fun_impl_alikeRounds_1 : Try.prog.funcs[F_impl_alikeRounds_1]? = some Try.f39 := Try.func39
theorem tmps_impl_alikeRounds_1 : Try.f39.ntmps = 34 := Try.ntmps39
theorem ress_impl_alikeRounds_1 : Try.f39.results = #[.tmp 5] := Try.results39
abbrev F_impl_tidy : FuncId := 40
instance can_impl_tidy : Callable Try.prog 40 := ⟨_, Try.func40, by kernel_rfl, by kernel_rfl⟩
theorem fun_impl_tidy : Try.prog.funcs[F_impl_tidy]? = some Try.f40 := Try.func40
theorem tmps_impl_tidy : Try.f40.ntmps = 7 := Try.ntmps40
theorem ress_impl_tidy : Try.f40.results = #[.tmp 2] := Try.results40
abbrev F_spec_l91Defs : FuncId := 41
instance can_spec_l91Defs : Callable Try.prog 41 := ⟨_, Try.func41, by kernel_rfl, by kernel_rfl⟩
theorem fun_spec_l91Defs : Try.prog.funcs[F_spec_l91Defs]? = some Try.f41 := Try.func41
theorem tmps_spec_l91Defs : Try.f41.ntmps = 41 := Try.ntmps41
theorem ress_spec_l91Defs : Try.f41.results = #[.tmp 2] := Try.results41
abbrev F_spec_l3Sorted : FuncId := 42
instance can_spec_l3Sorted : Callable Try.prog 42 := ⟨_, Try.func42, by kernel_rfl, by kernel_rfl⟩
theorem fun_spec_l3Sorted : Try.prog.funcs[F_spec_l3Sorted]? = some Try.f42 := Try.func42
theorem tmps_spec_l3Sorted : Try.f42.ntmps = 74 := Try.ntmps42
theorem ress_spec_l3Sorted : Try.f42.results = #[.tmp 2] := Try.results42
abbrev F_spec_l91Good : FuncId := 43
instance can_spec_l91Good : Callable Try.prog 43 := ⟨_, Try.func43, by kernel_rfl, by kernel_rfl⟩
theorem fun_spec_l91Good : Try.prog.funcs[F_spec_l91Good]? = some Try.f43 := Try.func43
theorem tmps_spec_l91Good : Try.f43.ntmps = 94 := Try.ntmps43
theorem ress_spec_l91Good : Try.f43.results = #[.cell 8 50] := Try.results43
abbrev F_spec_DefsOk : FuncId := 44
instance can_spec_DefsOk : Callable Try.prog 44 := ⟨_, Try.func44, by kernel_rfl, by kernel_rfl⟩
theorem fun_spec_DefsOk : Try.prog.funcs[F_spec_DefsOk]? = some Try.f44 := Try.func44
theorem tmps_spec_DefsOk : Try.f44.ntmps = 29 := Try.ntmps44
theorem ress_spec_DefsOk : Try.f44.results = #[.tmp 2] := Try.results44
abbrev F_spec_TermFits : FuncId := 45
instance can_spec_TermFits : Callable Try.prog 45 := ⟨_, Try.func45, by kernel_rfl, by kernel_rfl⟩
theorem fun_spec_TermFits : Try.prog.funcs[F_spec_TermFits]? = some Try.f45 := Try.func45
theorem tmps_spec_TermFits : Try.f45.ntmps = 17 := Try.ntmps45
theorem ress_spec_TermFits : Try.f45.results = #[.tmp 4] := Try.results45
abbrev F_spec_l2Text : FuncId := 46
instance can_spec_l2Text : Callable Try.prog 46 := ⟨_, Try.func46, by kernel_rfl, by kernel_rfl⟩
theorem fun_spec_l2Text : Try.prog.funcs[F_spec_l2Text]? = some Try.f46 := Try.func46
theorem tmps_spec_l2Text : Try.f46.ntmps = 58 := Try.ntmps46
theorem ress_spec_l2Text : Try.f46.results = #[.tmp 2] := Try.results46
abbrev F_spec_l3Steps : FuncId := 47
instance can_spec_l3Steps : Callable Try.prog 47 := ⟨_, Try.func47, by kernel_rfl, by kernel_rfl⟩
theorem fun_spec_l3Steps : Try.prog.funcs[F_spec_l3Steps]? = some Try.f47 := Try.func47
theorem tmps_spec_l3Steps : Try.f47.ntmps = 217 := Try.ntmps47
theorem ress_spec_l3Steps : Try.f47.results = #[.tmp 4] := Try.results47
abbrev F_spec_l2Nodes : FuncId := 48
instance can_spec_l2Nodes : Callable Try.prog 48 := ⟨_, Try.func48, by kernel_rfl, by kernel_rfl⟩
theorem fun_spec_l2Nodes : Try.prog.funcs[F_spec_l2Nodes]? = some Try.f48 := Try.func48
theorem tmps_spec_l2Nodes : Try.f48.ntmps = 60 := Try.ntmps48
theorem ress_spec_l2Nodes : Try.f48.results = #[.tmp 2] := Try.results48
abbrev F_spec_l4Rounds : FuncId := 49
instance can_spec_l4Rounds : Callable Try.prog 49 := ⟨_, Try.func49, by kernel_rfl, by kernel_rfl⟩
theorem fun_spec_l4Rounds : Try.prog.funcs[F_spec_l4Rounds]? = some Try.f49 := Try.func49
theorem tmps_spec_l4Rounds : Try.f49.ntmps = 31 := Try.ntmps49
theorem ress_spec_l4Rounds : Try.f49.results = #[.tmp 2] := Try.results49
abbrev F_cmp_isNaN_int : FuncId := 50
instance can_cmp_isNaN_int : Callable Try.prog 50 := ⟨_, Try.func50, by kernel_rfl, by kernel_rfl⟩
theorem fun_cmp_isNaN_int : Try.prog.funcs[F_cmp_isNaN_int]? = some Try.f50 := Try.func50
theorem tmps_cmp_isNaN_int : Try.f50.ntmps = 6 := Try.ntmps50
theorem ress_cmp_isNaN_int : Try.f50.results = #[.tmp 2] := Try.results50
abbrev F_impl_refine : FuncId := 51
instance can_impl_refine : Callable Try.prog 51 := ⟨_, Try.func51, by kernel_rfl, by kernel_rfl⟩
theorem fun_impl_refine : Try.prog.funcs[F_impl_refine]? = some Try.f51 := Try.func51
theorem tmps_impl_refine : Try.f51.ntmps = 61 := Try.ntmps51
theorem ress_impl_refine : Try.f51.results = #[.tmp 4] := Try.results51
abbrev F_impl_rounds_1 : FuncId := 52
instance can_impl_rounds_1 : Callable Try.prog 52 := ⟨_, Try.func52, by kernel_rfl, by kernel_rfl⟩
theorem fun_impl_rounds_1 : Try.prog.funcs[F_impl_rounds_1]? = some Try.f52 := Try.func52
theorem tmps_impl_rounds_1 : Try.f52.ntmps = 9 := Try.ntmps52
theorem ress_impl_rounds_1 : Try.f52.results = #[.tmp 4] := Try.results52
abbrev F_slices_Equal_int_int : FuncId := 53
instance can_slices_Equal_int_int : Callable Try.prog 53 := ⟨_, Try.func53, by kernel_rfl, by kernel_rfl⟩
theorem fun_slices_Equal_int_int : Try.prog.funcs[F_slices_Equal_int_int]? = some Try.f53 := Try.func53
theorem tmps_slices_Equal_int_int : Try.f53.ntmps = 26 := Try.ntmps53
theorem ress_slices_Equal_int_int : Try.f53.results = #[.tmp 4] := Try.results53
abbrev F_slices_SortFunc_impl_Move_impl_Move : FuncId := 54
instance can_slices_SortFunc_impl_Move_impl_Move : Callable Try.prog 54 := ⟨_, Try.func54, by kernel_rfl, by kernel_rfl⟩
theorem fun_slices_SortFunc_impl_Move_impl_Move : Try.prog.funcs[F_slices_SortFunc_impl_Move_impl_Move]? = some Try.f54 := Try.func54
theorem tmps_slices_SortFunc_impl_Move_impl_Move : Try.f54.ntmps = 14 := Try.ntmps54
theorem ress_slices_SortFunc_impl_Move_impl_Move : Try.f54.results = #[] := Try.results54
abbrev F_slices_Compact_impl_Move_impl_Move : FuncId := 55
instance can_slices_Compact_impl_Move_impl_Move : Callable Try.prog 55 := ⟨_, Try.func55, by kernel_rfl, by kernel_rfl⟩
theorem fun_slices_Compact_impl_Move_impl_Move : Try.prog.funcs[F_slices_Compact_impl_Move_impl_Move]? = some Try.f55 := Try.func55
theorem tmps_slices_Compact_impl_Move_impl_Move : Try.f55.ntmps = 61 := Try.ntmps55
theorem ress_slices_Compact_impl_Move_impl_Move : Try.f55.results = #[.tmp 2] := Try.results55
abbrev F_spec_l2Calls : FuncId := 56
instance can_spec_l2Calls : Callable Try.prog 56 := ⟨_, Try.func56, by kernel_rfl, by kernel_rfl⟩
theorem fun_spec_l2Calls : Try.prog.funcs[F_spec_l2Calls]? = some Try.f56 := Try.func56
theorem tmps_spec_l2Calls : Try.f56.ntmps = 38 := Try.ntmps56
theorem ress_spec_l2Calls : Try.f56.results = #[.tmp 4] := Try.results56
abbrev F_spec_TermOk : FuncId := 57
instance can_spec_TermOk : Callable Try.prog 57 := ⟨_, Try.func57, by kernel_rfl, by kernel_rfl⟩
theorem fun_spec_TermOk : Try.prog.funcs[F_spec_TermOk]? = some Try.f57 := Try.func57
theorem tmps_spec_TermOk : Try.f57.ntmps = 6 := Try.ntmps57
theorem ress_spec_TermOk : Try.f57.results = #[.tmp 2] := Try.results57
abbrev F_spec_l6Dec : FuncId := 58
instance can_spec_l6Dec : Callable Try.prog 58 := ⟨_, Try.func58, by kernel_rfl, by kernel_rfl⟩
theorem fun_spec_l6Dec : Try.prog.funcs[F_spec_l6Dec]? = some Try.f58 := Try.func58
theorem tmps_spec_l6Dec : Try.f58.ntmps = 28 := Try.ntmps58
theorem ress_spec_l6Dec : Try.f58.results = #[.tmp 2] := Try.results58
abbrev F_spec_l2Words : FuncId := 59
instance can_spec_l2Words : Callable Try.prog 59 := ⟨_, Try.func59, by kernel_rfl, by kernel_rfl⟩
theorem fun_spec_l2Words : Try.prog.funcs[F_spec_l2Words]? = some Try.f59 := Try.func59
theorem tmps_spec_l2Words : Try.f59.ntmps = 2 := Try.ntmps59
theorem ress_spec_l2Words : Try.f59.results = #[.tmp 0] := Try.results59
abbrev F_spec_l1Text : FuncId := 60
instance can_spec_l1Text : Callable Try.prog 60 := ⟨_, Try.func60, by kernel_rfl, by kernel_rfl⟩
theorem fun_spec_l1Text : Try.prog.funcs[F_spec_l1Text]? = some Try.f60 := Try.func60
theorem tmps_spec_l1Text : Try.f60.ntmps = 22 := Try.ntmps60
theorem ress_spec_l1Text : Try.f60.results = #[.tmp 2] := Try.results60
abbrev F_spec_l1Name : FuncId := 61
instance can_spec_l1Name : Callable Try.prog 61 := ⟨_, Try.func61, by kernel_rfl, by kernel_rfl⟩
theorem fun_spec_l1Name : Try.prog.funcs[F_spec_l1Name]? = some Try.f61 := Try.func61
theorem tmps_spec_l1Name : Try.f61.ntmps = 8 := Try.ntmps61
theorem ress_spec_l1Name : Try.f61.results = #[.tmp 2] := Try.results61
abbrev F_spec_l4Next : FuncId := 62
instance can_spec_l4Next : Callable Try.prog 62 := ⟨_, Try.func62, by kernel_rfl, by kernel_rfl⟩
theorem fun_spec_l4Next : Try.prog.funcs[F_spec_l4Next]? = some Try.f62 := Try.func62
theorem tmps_spec_l4Next : Try.f62.ntmps = 52 := Try.ntmps62
theorem ress_spec_l4Next : Try.f62.results = #[.tmp 4] := Try.results62
abbrev F_spec_l4Same : FuncId := 63
instance can_spec_l4Same : Callable Try.prog 63 := ⟨_, Try.func63, by kernel_rfl, by kernel_rfl⟩
theorem fun_spec_l4Same : Try.prog.funcs[F_spec_l4Same]? = some Try.f63 := Try.func63
theorem tmps_spec_l4Same : Try.f63.ntmps = 26 := Try.ntmps63
theorem ress_spec_l4Same : Try.f63.results = #[.tmp 4] := Try.results63
abbrev F_slices_Equal_impl_Move_impl_Move : FuncId := 64
instance can_slices_Equal_impl_Move_impl_Move : Callable Try.prog 64 := ⟨_, Try.func64, by kernel_rfl, by kernel_rfl⟩
theorem fun_slices_Equal_impl_Move_impl_Move : Try.prog.funcs[F_slices_Equal_impl_Move_impl_Move]? = some Try.f64 := Try.func64
theorem tmps_slices_Equal_impl_Move_impl_Move : Try.f64.ntmps = 26 := Try.ntmps64
theorem ress_slices_Equal_impl_Move_impl_Move : Try.f64.results = #[.tmp 4] := Try.results64
abbrev F_slices_pdqsortCmpFunc_impl_Move : FuncId := 65
instance can_slices_pdqsortCmpFunc_impl_Move : Callable Try.prog 65 := ⟨_, Try.func65, by kernel_rfl, by kernel_rfl⟩
theorem fun_slices_pdqsortCmpFunc_impl_Move : Try.prog.funcs[F_slices_pdqsortCmpFunc_impl_Move]? = some Try.f65 := Try.func65
theorem tmps_slices_pdqsortCmpFunc_impl_Move : Try.f65.ntmps = 148 := Try.ntmps65
theorem ress_slices_pdqsortCmpFunc_impl_Move : Try.f65.results = #[] := Try.results65
abbrev F_bits_Len : FuncId := 66
instance can_bits_Len : Callable Try.prog 66 := ⟨_, Try.func66, by kernel_rfl, by kernel_rfl⟩
theorem fun_bits_Len : Try.prog.funcs[F_bits_Len]? = some Try.f66 := Try.func66
theorem tmps_bits_Len : Try.f66.ntmps = 8 := Try.ntmps66
theorem ress_bits_Len : Try.f66.results = #[.tmp 2] := Try.results66
abbrev F_spec_l4Covers : FuncId := 67
instance can_spec_l4Covers : Callable Try.prog 67 := ⟨_, Try.func67, by kernel_rfl, by kernel_rfl⟩
theorem fun_spec_l4Covers : Try.prog.funcs[F_spec_l4Covers]? = some Try.f67 := Try.func67
theorem tmps_spec_l4Covers : Try.f67.ntmps = 41 := Try.ntmps67
theorem ress_spec_l4Covers : Try.f67.results = #[.tmp 8] := Try.results67
abbrev F_slices_insertionSortCmpFunc_impl_Move : FuncId := 68
instance can_slices_insertionSortCmpFunc_impl_Move : Callable Try.prog 68 := ⟨_, Try.func68, by kernel_rfl, by kernel_rfl⟩
theorem fun_slices_insertionSortCmpFunc_impl_Move : Try.prog.funcs[F_slices_insertionSortCmpFunc_impl_Move]? = some Try.f68 := Try.func68
theorem tmps_slices_insertionSortCmpFunc_impl_Move : Try.f68.ntmps = 53 := Try.ntmps68
theorem ress_slices_insertionSortCmpFunc_impl_Move : Try.f68.results = #[] := Try.results68
abbrev F_slices_heapSortCmpFunc_impl_Move : FuncId := 69
instance can_slices_heapSortCmpFunc_impl_Move : Callable Try.prog 69 := ⟨_, Try.func69, by kernel_rfl, by kernel_rfl⟩
theorem fun_slices_heapSortCmpFunc_impl_Move : Try.prog.funcs[F_slices_heapSortCmpFunc_impl_Move]? = some Try.f69 := Try.func69
theorem tmps_slices_heapSortCmpFunc_impl_Move : Try.f69.ntmps = 60 := Try.ntmps69
theorem ress_slices_heapSortCmpFunc_impl_Move : Try.f69.results = #[] := Try.results69
abbrev F_slices_breakPatternsCmpFunc_impl_Move : FuncId := 70
instance can_slices_breakPatternsCmpFunc_impl_Move : Callable Try.prog 70 := ⟨_, Try.func70, by kernel_rfl, by kernel_rfl⟩
theorem fun_slices_breakPatternsCmpFunc_impl_Move : Try.prog.funcs[F_slices_breakPatternsCmpFunc_impl_Move]? = some Try.f70 := Try.func70
theorem tmps_slices_breakPatternsCmpFunc_impl_Move : Try.f70.ntmps = 67 := Try.ntmps70
theorem ress_slices_breakPatternsCmpFunc_impl_Move : Try.f70.results = #[] := Try.results70
abbrev F_slices_choosePivotCmpFunc_impl_Move : FuncId := 71
instance can_slices_choosePivotCmpFunc_impl_Move : Callable Try.prog 71 := ⟨_, Try.func71, by kernel_rfl, by kernel_rfl⟩
theorem fun_slices_choosePivotCmpFunc_impl_Move : Try.prog.funcs[F_slices_choosePivotCmpFunc_impl_Move]? = some Try.f71 := Try.func71
theorem tmps_slices_choosePivotCmpFunc_impl_Move : Try.f71.ntmps = 63 := Try.ntmps71
theorem ress_slices_choosePivotCmpFunc_impl_Move : Try.f71.results = #[.tmp 8, .tmp 9] := Try.results71
abbrev F_slices_reverseRangeCmpFunc_impl_Move : FuncId := 72
instance can_slices_reverseRangeCmpFunc_impl_Move : Callable Try.prog 72 := ⟨_, Try.func72, by kernel_rfl, by kernel_rfl⟩
theorem fun_slices_reverseRangeCmpFunc_impl_Move : Try.prog.funcs[F_slices_reverseRangeCmpFunc_impl_Move]? = some Try.f72 := Try.func72
theorem tmps_slices_reverseRangeCmpFunc_impl_Move : Try.f72.ntmps = 34 := Try.ntmps72
theorem ress_slices_reverseRangeCmpFunc_impl_Move : Try.f72.results = #[] := Try.results72
abbrev F_slices_partialInsertionSortCmpFunc_impl_Move : FuncId := 73
instance can_slices_partialInsertionSortCmpFunc_impl_Move : Callable Try.prog 73 := ⟨_, Try.func73, by kernel_rfl, by kernel_rfl⟩
theorem fun_slices_partialInsertionSortCmpFunc_impl_Move : Try.prog.funcs[F_slices_partialInsertionSortCmpFunc_impl_Move]? = some Try.f73 := Try.func73
theorem tmps_slices_partialInsertionSortCmpFunc_impl_Move : Try.f73.ntmps = 141 := Try.ntmps73
theorem ress_slices_partialInsertionSortCmpFunc_impl_Move : Try.f73.results = #[.tmp 8] := Try.results73
abbrev F_slices_partitionEqualCmpFunc_impl_Move : FuncId := 74
instance can_slices_partitionEqualCmpFunc_impl_Move : Callable Try.prog 74 := ⟨_, Try.func74, by kernel_rfl, by kernel_rfl⟩
theorem fun_slices_partitionEqualCmpFunc_impl_Move : Try.prog.funcs[F_slices_partitionEqualCmpFunc_impl_Move]? = some Try.f74 := Try.func74
theorem tmps_slices_partitionEqualCmpFunc_impl_Move : Try.f74.ntmps = 90 := Try.ntmps74
theorem ress_slices_partitionEqualCmpFunc_impl_Move : Try.f74.results = #[.tmp 10] := Try.results74
abbrev F_slices_partitionCmpFunc_impl_Move : FuncId := 75
instance can_slices_partitionCmpFunc_impl_Move : Callable Try.prog 75 := ⟨_, Try.func75, by kernel_rfl, by kernel_rfl⟩
theorem fun_slices_partitionCmpFunc_impl_Move : Try.prog.funcs[F_slices_partitionCmpFunc_impl_Move]? = some Try.f75 := Try.func75
theorem tmps_slices_partitionCmpFunc_impl_Move : Try.f75.ntmps = 178 := Try.ntmps75
theorem ress_slices_partitionCmpFunc_impl_Move : Try.f75.results = #[.tmp 10, .tmp 11] := Try.results75
abbrev F_bits_Len32 : FuncId := 76
instance can_bits_Len32 : Callable Try.prog 76 := ⟨_, Try.func76, by kernel_rfl, by kernel_rfl⟩
theorem fun_bits_Len32 : Try.prog.funcs[F_bits_Len32]? = some Try.f76 := Try.func76
theorem tmps_bits_Len32 : Try.f76.ntmps = 19 := Try.ntmps76
theorem ress_bits_Len32 : Try.f76.results = #[.tmp 2] := Try.results76
abbrev F_bits_Len64 : FuncId := 77
instance can_bits_Len64 : Callable Try.prog 77 := ⟨_, Try.func77, by kernel_rfl, by kernel_rfl⟩
theorem fun_bits_Len64 : Try.prog.funcs[F_bits_Len64]? = some Try.f77 := Try.func77
theorem tmps_bits_Len64 : Try.f77.ntmps = 25 := Try.ntmps77
theorem ress_bits_Len64 : Try.f77.results = #[.tmp 2] := Try.results77
abbrev F_spec_l4Has : FuncId := 78
instance can_spec_l4Has : Callable Try.prog 78 := ⟨_, Try.func78, by kernel_rfl, by kernel_rfl⟩
theorem fun_spec_l4Has : Try.prog.funcs[F_spec_l4Has]? = some Try.f78 := Try.func78
theorem tmps_spec_l4Has : Try.f78.ntmps = 44 := Try.ntmps78
theorem ress_spec_l4Has : Try.f78.results = #[.tmp 10] := Try.results78
abbrev F_slices_siftDownCmpFunc_impl_Move : FuncId := 79
instance can_slices_siftDownCmpFunc_impl_Move : Callable Try.prog 79 := ⟨_, Try.func79, by kernel_rfl, by kernel_rfl⟩
theorem fun_slices_siftDownCmpFunc_impl_Move : Try.prog.funcs[F_slices_siftDownCmpFunc_impl_Move]? = some Try.f79 := Try.func79
theorem tmps_slices_siftDownCmpFunc_impl_Move : Try.f79.ntmps = 82 := Try.ntmps79
theorem ress_slices_siftDownCmpFunc_impl_Move : Try.f79.results = #[] := Try.results79
abbrev F_slices_nextPowerOfTwo : FuncId := 80
instance can_slices_nextPowerOfTwo : Callable Try.prog 80 := ⟨_, Try.func80, by kernel_rfl, by kernel_rfl⟩
theorem fun_slices_nextPowerOfTwo : Try.prog.funcs[F_slices_nextPowerOfTwo]? = some Try.f80 := Try.func80
theorem tmps_slices_nextPowerOfTwo : Try.f80.ntmps = 7 := Try.ntmps80
theorem ress_slices_nextPowerOfTwo : Try.f80.results = #[.tmp 2] := Try.results80
abbrev F_slices_xorshift_Next : FuncId := 81
instance can_slices_xorshift_Next : Callable Try.prog 81 := ⟨_, Try.func81, by kernel_rfl, by kernel_rfl⟩
theorem fun_slices_xorshift_Next : Try.prog.funcs[F_slices_xorshift_Next]? = some Try.f81 := Try.func81
theorem tmps_slices_xorshift_Next : Try.f81.ntmps = 33 := Try.ntmps81
theorem ress_slices_xorshift_Next : Try.f81.results = #[.tmp 2] := Try.results81
abbrev F_slices_medianAdjacentCmpFunc_impl_Move : FuncId := 82
instance can_slices_medianAdjacentCmpFunc_impl_Move : Callable Try.prog 82 := ⟨_, Try.func82, by kernel_rfl, by kernel_rfl⟩
theorem fun_slices_medianAdjacentCmpFunc_impl_Move : Try.prog.funcs[F_slices_medianAdjacentCmpFunc_impl_Move]? = some Try.f82 := Try.func82
theorem tmps_slices_medianAdjacentCmpFunc_impl_Move : Try.f82.ntmps = 18 := Try.ntmps82
theorem ress_slices_medianAdjacentCmpFunc_impl_Move : Try.f82.results = #[.tmp 8] := Try.results82
abbrev F_slices_medianCmpFunc_impl_Move : FuncId := 83
instance can_slices_medianCmpFunc_impl_Move : Callable Try.prog 83 := ⟨_, Try.func83, by kernel_rfl, by kernel_rfl⟩
theorem fun_slices_medianCmpFunc_impl_Move : Try.prog.funcs[F_slices_medianCmpFunc_impl_Move]? = some Try.f83 := Try.func83
theorem tmps_slices_medianCmpFunc_impl_Move : Try.f83.ntmps = 41 := Try.ntmps83
theorem ress_slices_medianCmpFunc_impl_Move : Try.f83.results = #[.tmp 12] := Try.results83
abbrev F_slices_order2CmpFunc_impl_Move : FuncId := 84
instance can_slices_order2CmpFunc_impl_Move : Callable Try.prog 84 := ⟨_, Try.func84, by kernel_rfl, by kernel_rfl⟩
theorem fun_slices_order2CmpFunc_impl_Move : Try.prog.funcs[F_slices_order2CmpFunc_impl_Move]? = some Try.f84 := Try.func84
theorem tmps_slices_order2CmpFunc_impl_Move : Try.f84.ntmps = 32 := Try.ntmps84
theorem ress_slices_order2CmpFunc_impl_Move : Try.f84.results = #[.tmp 10, .tmp 11] := Try.results84
theorem mixed_ : Try.prog.follows .mixedOrders = true := by kernel_rfl
end Go.Proofs.Ythbodgnoadlbcaa.Asl
