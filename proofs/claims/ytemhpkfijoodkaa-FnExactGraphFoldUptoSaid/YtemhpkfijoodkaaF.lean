/- Facts on the translation's types and functions, by name. Written by a program of this session. -/
import Derived.Test.YtemhpkfijoodkaaProg
import Derived.Test.YtemhpkfijoodkaaB6
namespace Go.Proofs.Ytemhpkfijoodkaa.Asl
open Go.RowKit
set_option linter.unusedVariables false
abbrev T_func1 : TypeId := 1
instance ty_func1 : Ty Try.prog 1 false 1 8 (.nilFunc) := ⟨by kernel_rfl, by kernel_rfl⟩
abbrev T_int64 : TypeId := 2
instance ty_int64 : Ty Try.prog 2 false 1 8 (.int .i64 0) := ⟨by kernel_rfl, by kernel_rfl⟩
instance un_int64 : Un Try.prog 2 (.int .i64) := ⟨by kernel_rfl⟩
abbrev T_int : TypeId := 3
instance ty_int : Ty Try.prog 3 false 1 8 (.int .i64 0) := ⟨by kernel_rfl, by kernel_rfl⟩
instance un_int : Un Try.prog 3 (.int .i64) := ⟨by kernel_rfl⟩
abbrev T_bool : TypeId := 4
instance ty_bool : Ty Try.prog 4 false 1 1 (.bool false) := ⟨by kernel_rfl, by kernel_rfl⟩
instance un_bool : Un Try.prog 4 (.bool) := ⟨by kernel_rfl⟩
abbrev T_uint8 : TypeId := 5
instance ty_uint8 : Ty Try.prog 5 false 1 1 (.int .u8 0) := ⟨by kernel_rfl, by kernel_rfl⟩
instance un_uint8 : Un Try.prog 5 (.int .u8) := ⟨by kernel_rfl⟩
abbrev T_string : TypeId := 9
instance ty_string : Ty Try.prog 9 false 1 16 (.string ⟨#[]⟩) := ⟨by kernel_rfl, by kernel_rfl⟩
instance un_string : Un Try.prog 9 (.string) := ⟨by kernel_rfl⟩
abbrev T_int32 : TypeId := 21
instance ty_int32 : Ty Try.prog 21 false 1 4 (.int .i32 0) := ⟨by kernel_rfl, by kernel_rfl⟩
instance un_int32 : Un Try.prog 21 (.int .i32) := ⟨by kernel_rfl⟩
abbrev T_s_s_laws_Move : TypeId := 22
instance ty_s_s_laws_Move : Ty Try.prog 22 false 1 24 (.slice none 0 0) := ⟨by kernel_rfl, by kernel_rfl⟩
instance un_s_s_laws_Move : Un Try.prog 22 (.slice 81) := ⟨by kernel_rfl⟩
abbrev T_laws_Graph : TypeId := 24
instance ty_laws_Graph : Ty Try.prog 24 true 1 24 (.agg #[(.slice none 0 0)]) := ⟨by kernel_rfl, by kernel_rfl⟩
abbrev T_func25 : TypeId := 25
instance ty_func25 : Ty Try.prog 25 false 1 8 (.nilFunc) := ⟨by kernel_rfl, by kernel_rfl⟩
abbrev T_func26 : TypeId := 26
instance ty_func26 : Ty Try.prog 26 false 1 8 (.nilFunc) := ⟨by kernel_rfl, by kernel_rfl⟩
abbrev T_s_s_impl_Move : TypeId := 27
instance ty_s_s_impl_Move : Ty Try.prog 27 false 1 24 (.slice none 0 0) := ⟨by kernel_rfl, by kernel_rfl⟩
instance un_s_s_impl_Move : Un Try.prog 27 (.slice 56) := ⟨by kernel_rfl⟩
abbrev T_impl_Graph : TypeId := 29
instance ty_impl_Graph : Ty Try.prog 29 true 1 24 (.agg #[(.slice none 0 0)]) := ⟨by kernel_rfl, by kernel_rfl⟩
abbrev T_func30 : TypeId := 30
instance ty_func30 : Ty Try.prog 30 false 1 8 (.nilFunc) := ⟨by kernel_rfl, by kernel_rfl⟩
abbrev T_func31 : TypeId := 31
instance ty_func31 : Ty Try.prog 31 false 1 8 (.nilFunc) := ⟨by kernel_rfl, by kernel_rfl⟩
abbrev T_func32 : TypeId := 32
instance ty_func32 : Ty Try.prog 32 false 1 8 (.nilFunc) := ⟨by kernel_rfl, by kernel_rfl⟩
abbrev T_func34 : TypeId := 34
instance ty_func34 : Ty Try.prog 34 false 1 8 (.nilFunc) := ⟨by kernel_rfl, by kernel_rfl⟩
abbrev T_func35 : TypeId := 35
instance ty_func35 : Ty Try.prog 35 false 1 8 (.nilFunc) := ⟨by kernel_rfl, by kernel_rfl⟩
abbrev T_func36 : TypeId := 36
instance ty_func36 : Ty Try.prog 36 false 1 8 (.nilFunc) := ⟨by kernel_rfl, by kernel_rfl⟩
abbrev T_s_int : TypeId := 37
instance ty_s_int : Ty Try.prog 37 false 1 24 (.slice none 0 0) := ⟨by kernel_rfl, by kernel_rfl⟩
instance un_s_int : Un Try.prog 37 (.slice 3) := ⟨by kernel_rfl⟩
abbrev T_func38 : TypeId := 38
instance ty_func38 : Ty Try.prog 38 false 1 8 (.nilFunc) := ⟨by kernel_rfl, by kernel_rfl⟩
abbrev T_func39 : TypeId := 39
instance ty_func39 : Ty Try.prog 39 false 1 8 (.nilFunc) := ⟨by kernel_rfl, by kernel_rfl⟩
abbrev T_func40 : TypeId := 40
instance ty_func40 : Ty Try.prog 40 false 1 8 (.nilFunc) := ⟨by kernel_rfl, by kernel_rfl⟩
abbrev T_s_s_bool : TypeId := 41
instance ty_s_s_bool : Ty Try.prog 41 false 1 24 (.slice none 0 0) := ⟨by kernel_rfl, by kernel_rfl⟩
instance un_s_s_bool : Un Try.prog 41 (.slice 67) := ⟨by kernel_rfl⟩
abbrev T_func42 : TypeId := 42
instance ty_func42 : Ty Try.prog 42 false 1 8 (.nilFunc) := ⟨by kernel_rfl, by kernel_rfl⟩
abbrev T_func43 : TypeId := 43
instance ty_func43 : Ty Try.prog 43 false 1 8 (.nilFunc) := ⟨by kernel_rfl, by kernel_rfl⟩
abbrev T_func44 : TypeId := 44
instance ty_func44 : Ty Try.prog 44 false 1 8 (.nilFunc) := ⟨by kernel_rfl, by kernel_rfl⟩
abbrev T_func45 : TypeId := 45
instance ty_func45 : Ty Try.prog 45 false 1 8 (.nilFunc) := ⟨by kernel_rfl, by kernel_rfl⟩
abbrev T_func46 : TypeId := 46
instance ty_func46 : Ty Try.prog 46 false 1 8 (.nilFunc) := ⟨by kernel_rfl, by kernel_rfl⟩
abbrev T_func47 : TypeId := 47
instance ty_func47 : Ty Try.prog 47 false 1 8 (.nilFunc) := ⟨by kernel_rfl, by kernel_rfl⟩
abbrev T_func48 : TypeId := 48
instance ty_func48 : Ty Try.prog 48 false 1 8 (.nilFunc) := ⟨by kernel_rfl, by kernel_rfl⟩
abbrev T_s_s_int : TypeId := 49
instance ty_s_s_int : Ty Try.prog 49 false 1 24 (.slice none 0 0) := ⟨by kernel_rfl, by kernel_rfl⟩
instance un_s_s_int : Un Try.prog 49 (.slice 37) := ⟨by kernel_rfl⟩
abbrev T_func50 : TypeId := 50
instance ty_func50 : Ty Try.prog 50 false 1 8 (.nilFunc) := ⟨by kernel_rfl, by kernel_rfl⟩
abbrev T_func51 : TypeId := 51
instance ty_func51 : Ty Try.prog 51 false 1 8 (.nilFunc) := ⟨by kernel_rfl, by kernel_rfl⟩
abbrev T_func52 : TypeId := 52
instance ty_func52 : Ty Try.prog 52 false 1 8 (.nilFunc) := ⟨by kernel_rfl, by kernel_rfl⟩
abbrev T_func53 : TypeId := 53
instance ty_func53 : Ty Try.prog 53 false 1 8 (.nilFunc) := ⟨by kernel_rfl, by kernel_rfl⟩
abbrev T_func54 : TypeId := 54
instance ty_func54 : Ty Try.prog 54 false 1 8 (.nilFunc) := ⟨by kernel_rfl, by kernel_rfl⟩
abbrev T_func55 : TypeId := 55
instance ty_func55 : Ty Try.prog 55 false 1 8 (.nilFunc) := ⟨by kernel_rfl, by kernel_rfl⟩
abbrev T_s_impl_Move : TypeId := 56
instance ty_s_impl_Move : Ty Try.prog 56 false 1 24 (.slice none 0 0) := ⟨by kernel_rfl, by kernel_rfl⟩
instance un_s_impl_Move : Un Try.prog 56 (.slice 58) := ⟨by kernel_rfl⟩
abbrev T_impl_Move : TypeId := 58
instance ty_impl_Move : Ty Try.prog 58 true 2 16 (.agg #[(.int .i64 0), (.int .i64 0)]) := ⟨by kernel_rfl, by kernel_rfl⟩
abbrev T_func59 : TypeId := 59
instance ty_func59 : Ty Try.prog 59 false 1 8 (.nilFunc) := ⟨by kernel_rfl, by kernel_rfl⟩
abbrev T_func60 : TypeId := 60
instance ty_func60 : Ty Try.prog 60 false 1 8 (.nilFunc) := ⟨by kernel_rfl, by kernel_rfl⟩
abbrev T_func61 : TypeId := 61
instance ty_func61 : Ty Try.prog 61 false 1 8 (.nilFunc) := ⟨by kernel_rfl, by kernel_rfl⟩
abbrev T_func62 : TypeId := 62
instance ty_func62 : Ty Try.prog 62 false 1 8 (.nilFunc) := ⟨by kernel_rfl, by kernel_rfl⟩
abbrev T_func63 : TypeId := 63
instance ty_func63 : Ty Try.prog 63 false 1 8 (.nilFunc) := ⟨by kernel_rfl, by kernel_rfl⟩
abbrev T_func64 : TypeId := 64
instance ty_func64 : Ty Try.prog 64 false 1 8 (.nilFunc) := ⟨by kernel_rfl, by kernel_rfl⟩
abbrev T_func65 : TypeId := 65
instance ty_func65 : Ty Try.prog 65 false 1 8 (.nilFunc) := ⟨by kernel_rfl, by kernel_rfl⟩
abbrev T_func66 : TypeId := 66
instance ty_func66 : Ty Try.prog 66 false 1 8 (.nilFunc) := ⟨by kernel_rfl, by kernel_rfl⟩
abbrev T_s_bool : TypeId := 67
instance ty_s_bool : Ty Try.prog 67 false 1 24 (.slice none 0 0) := ⟨by kernel_rfl, by kernel_rfl⟩
instance un_s_bool : Un Try.prog 67 (.slice 4) := ⟨by kernel_rfl⟩
abbrev T_func68 : TypeId := 68
instance ty_func68 : Ty Try.prog 68 false 1 8 (.nilFunc) := ⟨by kernel_rfl, by kernel_rfl⟩
abbrev T_func69 : TypeId := 69
instance ty_func69 : Ty Try.prog 69 false 1 8 (.nilFunc) := ⟨by kernel_rfl, by kernel_rfl⟩
abbrev T_func70 : TypeId := 70
instance ty_func70 : Ty Try.prog 70 false 1 8 (.nilFunc) := ⟨by kernel_rfl, by kernel_rfl⟩
abbrev T_func71 : TypeId := 71
instance ty_func71 : Ty Try.prog 71 false 1 8 (.nilFunc) := ⟨by kernel_rfl, by kernel_rfl⟩
abbrev T_func72 : TypeId := 72
instance ty_func72 : Ty Try.prog 72 false 1 8 (.nilFunc) := ⟨by kernel_rfl, by kernel_rfl⟩
abbrev T_func73 : TypeId := 73
instance ty_func73 : Ty Try.prog 73 false 1 8 (.nilFunc) := ⟨by kernel_rfl, by kernel_rfl⟩
abbrev T_func74 : TypeId := 74
instance ty_func74 : Ty Try.prog 74 false 1 8 (.nilFunc) := ⟨by kernel_rfl, by kernel_rfl⟩
abbrev T_func75 : TypeId := 75
instance ty_func75 : Ty Try.prog 75 false 1 8 (.nilFunc) := ⟨by kernel_rfl, by kernel_rfl⟩
abbrev T_func76 : TypeId := 76
instance ty_func76 : Ty Try.prog 76 false 1 8 (.nilFunc) := ⟨by kernel_rfl, by kernel_rfl⟩
abbrev T_func77 : TypeId := 77
instance ty_func77 : Ty Try.prog 77 false 1 8 (.nilFunc) := ⟨by kernel_rfl, by kernel_rfl⟩
abbrev T_func78 : TypeId := 78
instance ty_func78 : Ty Try.prog 78 false 1 8 (.nilFunc) := ⟨by kernel_rfl, by kernel_rfl⟩
abbrev T_func79 : TypeId := 79
instance ty_func79 : Ty Try.prog 79 false 1 8 (.nilFunc) := ⟨by kernel_rfl, by kernel_rfl⟩
abbrev T_func80 : TypeId := 80
instance ty_func80 : Ty Try.prog 80 false 1 8 (.nilFunc) := ⟨by kernel_rfl, by kernel_rfl⟩
abbrev T_s_laws_Move : TypeId := 81
instance ty_s_laws_Move : Ty Try.prog 81 false 1 24 (.slice none 0 0) := ⟨by kernel_rfl, by kernel_rfl⟩
instance un_s_laws_Move : Un Try.prog 81 (.slice 97) := ⟨by kernel_rfl⟩
abbrev T_func82 : TypeId := 82
instance ty_func82 : Ty Try.prog 82 false 1 8 (.nilFunc) := ⟨by kernel_rfl, by kernel_rfl⟩
abbrev T_func83 : TypeId := 83
instance ty_func83 : Ty Try.prog 83 false 1 8 (.nilFunc) := ⟨by kernel_rfl, by kernel_rfl⟩
abbrev T_func84 : TypeId := 84
instance ty_func84 : Ty Try.prog 84 false 1 8 (.nilFunc) := ⟨by kernel_rfl, by kernel_rfl⟩
abbrev T_func85 : TypeId := 85
instance ty_func85 : Ty Try.prog 85 false 1 8 (.nilFunc) := ⟨by kernel_rfl, by kernel_rfl⟩
abbrev T_func86 : TypeId := 86
instance ty_func86 : Ty Try.prog 86 false 1 8 (.nilFunc) := ⟨by kernel_rfl, by kernel_rfl⟩
abbrev T_m_int_bool : TypeId := 87
instance ty_m_int_bool : Ty Try.prog 87 false 1 8 (.map none) := ⟨by kernel_rfl, by kernel_rfl⟩
instance un_m_int_bool : Un Try.prog 87 (.map 3 4) := ⟨by kernel_rfl⟩
abbrev T_func88 : TypeId := 88
instance ty_func88 : Ty Try.prog 88 false 1 8 (.nilFunc) := ⟨by kernel_rfl, by kernel_rfl⟩
abbrev T_func89 : TypeId := 89
instance ty_func89 : Ty Try.prog 89 false 1 8 (.nilFunc) := ⟨by kernel_rfl, by kernel_rfl⟩
abbrev T_uint : TypeId := 90
instance ty_uint : Ty Try.prog 90 false 1 8 (.int .u64 0) := ⟨by kernel_rfl, by kernel_rfl⟩
instance un_uint : Un Try.prog 90 (.int .u64) := ⟨by kernel_rfl⟩
abbrev T_func91 : TypeId := 91
instance ty_func91 : Ty Try.prog 91 false 1 8 (.nilFunc) := ⟨by kernel_rfl, by kernel_rfl⟩
abbrev T_func92 : TypeId := 92
instance ty_func92 : Ty Try.prog 92 false 1 8 (.nilFunc) := ⟨by kernel_rfl, by kernel_rfl⟩
abbrev T_func93 : TypeId := 93
instance ty_func93 : Ty Try.prog 93 false 1 8 (.nilFunc) := ⟨by kernel_rfl, by kernel_rfl⟩
abbrev T_func94 : TypeId := 94
instance ty_func94 : Ty Try.prog 94 false 1 8 (.nilFunc) := ⟨by kernel_rfl, by kernel_rfl⟩
abbrev T_func95 : TypeId := 95
instance ty_func95 : Ty Try.prog 95 false 1 8 (.nilFunc) := ⟨by kernel_rfl, by kernel_rfl⟩
abbrev T_func96 : TypeId := 96
instance ty_func96 : Ty Try.prog 96 false 1 8 (.nilFunc) := ⟨by kernel_rfl, by kernel_rfl⟩
abbrev T_laws_Move : TypeId := 97
instance ty_laws_Move : Ty Try.prog 97 true 2 16 (.agg #[(.int .i64 0), (.int .i64 0)]) := ⟨by kernel_rfl, by kernel_rfl⟩
abbrev T_func98 : TypeId := 98
instance ty_func98 : Ty Try.prog 98 false 1 8 (.nilFunc) := ⟨by kernel_rfl, by kernel_rfl⟩
abbrev T_slices_sortedHint : TypeId := 99
instance ty_slices_sortedHint : Ty Try.prog 99 false 1 8 (.int .i64 0) := ⟨by kernel_rfl, by kernel_rfl⟩
instance un_slices_sortedHint : Un Try.prog 99 (.int .i64) := ⟨by kernel_rfl⟩
abbrev T_func101 : TypeId := 101
instance ty_func101 : Ty Try.prog 101 false 1 8 (.nilFunc) := ⟨by kernel_rfl, by kernel_rfl⟩
abbrev T_func102 : TypeId := 102
instance ty_func102 : Ty Try.prog 102 false 1 8 (.nilFunc) := ⟨by kernel_rfl, by kernel_rfl⟩
abbrev T_func103 : TypeId := 103
instance ty_func103 : Ty Try.prog 103 false 1 8 (.nilFunc) := ⟨by kernel_rfl, by kernel_rfl⟩
abbrev T_func104 : TypeId := 104
instance ty_func104 : Ty Try.prog 104 false 1 8 (.nilFunc) := ⟨by kernel_rfl, by kernel_rfl⟩
abbrev T_func106 : TypeId := 106
instance ty_func106 : Ty Try.prog 106 false 1 8 (.nilFunc) := ⟨by kernel_rfl, by kernel_rfl⟩
abbrev T_func107 : TypeId := 107
instance ty_func107 : Ty Try.prog 107 false 1 8 (.nilFunc) := ⟨by kernel_rfl, by kernel_rfl⟩
abbrev T_uint32 : TypeId := 108
instance ty_uint32 : Ty Try.prog 108 false 1 4 (.int .u32 0) := ⟨by kernel_rfl, by kernel_rfl⟩
instance un_uint32 : Un Try.prog 108 (.int .u32) := ⟨by kernel_rfl⟩
abbrev T_func109 : TypeId := 109
instance ty_func109 : Ty Try.prog 109 false 1 8 (.nilFunc) := ⟨by kernel_rfl, by kernel_rfl⟩
abbrev T_uint64 : TypeId := 110
instance ty_uint64 : Ty Try.prog 110 false 1 8 (.int .u64 0) := ⟨by kernel_rfl, by kernel_rfl⟩
instance un_uint64 : Un Try.prog 110 (.int .u64) := ⟨by kernel_rfl⟩
abbrev T_func111 : TypeId := 111
instance ty_func111 : Ty Try.prog 111 false 1 8 (.nilFunc) := ⟨by kernel_rfl, by kernel_rfl⟩
abbrev T_func112 : TypeId := 112
instance ty_func112 : Ty Try.prog 112 false 1 8 (.nilFunc) := ⟨by kernel_rfl, by kernel_rfl⟩
abbrev T_func113 : TypeId := 113
instance ty_func113 : Ty Try.prog 113 false 1 8 (.nilFunc) := ⟨by kernel_rfl, by kernel_rfl⟩
abbrev T_func114 : TypeId := 114
instance ty_func114 : Ty Try.prog 114 false 1 8 (.nilFunc) := ⟨by kernel_rfl, by kernel_rfl⟩
abbrev T_slices_xorshift : TypeId := 115
instance ty_slices_xorshift : Ty Try.prog 115 false 1 8 (.int .u64 0) := ⟨by kernel_rfl, by kernel_rfl⟩
instance un_slices_xorshift : Un Try.prog 115 (.int .u64) := ⟨by kernel_rfl⟩
abbrev T_func116 : TypeId := 116
instance ty_func116 : Ty Try.prog 116 false 1 8 (.nilFunc) := ⟨by kernel_rfl, by kernel_rfl⟩
abbrev T_func117 : TypeId := 117
instance ty_func117 : Ty Try.prog 117 false 1 8 (.nilFunc) := ⟨by kernel_rfl, by kernel_rfl⟩
abbrev T_func118 : TypeId := 118
instance ty_func118 : Ty Try.prog 118 false 1 8 (.nilFunc) := ⟨by kernel_rfl, by kernel_rfl⟩
abbrev T_p_int : TypeId := 119
instance ty_p_int : Ty Try.prog 119 false 1 8 (.pointer none) := ⟨by kernel_rfl, by kernel_rfl⟩
instance un_p_int : Un Try.prog 119 (.pointer 3) := ⟨by kernel_rfl⟩
abbrev T_func120 : TypeId := 120
instance ty_func120 : Ty Try.prog 120 false 1 8 (.nilFunc) := ⟨by kernel_rfl, by kernel_rfl⟩
abbrev T_func121 : TypeId := 121
instance ty_func121 : Ty Try.prog 121 false 1 8 (.nilFunc) := ⟨by kernel_rfl, by kernel_rfl⟩
abbrev T_func122 : TypeId := 122
instance ty_func122 : Ty Try.prog 122 false 1 8 (.nilFunc) := ⟨by kernel_rfl, by kernel_rfl⟩
abbrev T_func123 : TypeId := 123
instance ty_func123 : Ty Try.prog 123 false 1 8 (.nilFunc) := ⟨by kernel_rfl, by kernel_rfl⟩
abbrev T_func124 : TypeId := 124
instance ty_func124 : Ty Try.prog 124 false 1 8 (.nilFunc) := ⟨by kernel_rfl, by kernel_rfl⟩
abbrev T_func125 : TypeId := 125
instance ty_func125 : Ty Try.prog 125 false 1 8 (.nilFunc) := ⟨by kernel_rfl, by kernel_rfl⟩
abbrev T_func126 : TypeId := 126
instance ty_func126 : Ty Try.prog 126 false 1 8 (.nilFunc) := ⟨by kernel_rfl, by kernel_rfl⟩
abbrev T_p_slices_xorshift : TypeId := 127
instance ty_p_slices_xorshift : Ty Try.prog 127 false 1 8 (.pointer none) := ⟨by kernel_rfl, by kernel_rfl⟩
instance un_p_slices_xorshift : Un Try.prog 127 (.pointer 115) := ⟨by kernel_rfl⟩
abbrev T_func129 : TypeId := 129
instance ty_func129 : Ty Try.prog 129 false 1 8 (.nilFunc) := ⟨by kernel_rfl, by kernel_rfl⟩
abbrev T_func130 : TypeId := 130
instance ty_func130 : Ty Try.prog 130 false 1 8 (.nilFunc) := ⟨by kernel_rfl, by kernel_rfl⟩
abbrev T_func131 : TypeId := 131
instance ty_func131 : Ty Try.prog 131 false 1 8 (.nilFunc) := ⟨by kernel_rfl, by kernel_rfl⟩
abbrev T_func132 : TypeId := 132
instance ty_func132 : Ty Try.prog 132 false 1 8 (.nilFunc) := ⟨by kernel_rfl, by kernel_rfl⟩
abbrev T_func133 : TypeId := 133
instance ty_func133 : Ty Try.prog 133 false 1 8 (.nilFunc) := ⟨by kernel_rfl, by kernel_rfl⟩
abbrev T_func139 : TypeId := 139
instance ty_func139 : Ty Try.prog 139 false 1 8 (.nilFunc) := ⟨by kernel_rfl, by kernel_rfl⟩
abbrev T_func142 : TypeId := 142
instance ty_func142 : Ty Try.prog 142 false 1 8 (.nilFunc) := ⟨by kernel_rfl, by kernel_rfl⟩
abbrev T_p_uint8 : TypeId := 143
instance ty_p_uint8 : Ty Try.prog 143 false 1 8 (.pointer none) := ⟨by kernel_rfl, by kernel_rfl⟩
instance un_p_uint8 : Un Try.prog 143 (.pointer 5) := ⟨by kernel_rfl⟩


instance fld_laws_Graph_0 : FieldAt Try.prog 24 0 0 := ⟨_, _, Try.underlying24, rfl, rfl, _, _, _, _, ty_s_s_laws_Move, by decide⟩
instance str_laws_Graph : StructAt Try.prog 24 [(0, 1)] := ⟨_, Try.underlying24, fun w => by simp [ty_s_s_laws_Move.sizeOf]⟩



instance fld_impl_Graph_0 : FieldAt Try.prog 29 0 0 := ⟨_, _, Try.underlying29, rfl, rfl, _, _, _, _, ty_s_s_impl_Move, by decide⟩
instance str_impl_Graph : StructAt Try.prog 29 [(0, 1)] := ⟨_, Try.underlying29, fun w => by simp [ty_s_s_impl_Move.sizeOf]⟩























instance fld_impl_Move_0 : FieldAt Try.prog 58 0 0 := ⟨_, _, Try.underlying58, rfl, rfl, _, _, _, _, ty_int, by decide⟩
instance fld_impl_Move_1 : FieldAt Try.prog 58 1 1 := ⟨_, _, Try.underlying58, rfl, rfl, _, _, _, _, ty_int, by decide⟩
instance eqmv_impl_Move : EqMv Try.prog 58 := ⟨⟨_, _, Try.underlying58, rfl, rfl, by decide, by decide, ⟨_, _, _, ty_int⟩, ⟨_, _, _, ty_int⟩, ⟨.i64, by kernel_rfl⟩, ⟨.i64, by kernel_rfl⟩⟩, by kernel_rfl, by kernel_rfl⟩
instance str_impl_Move : StructAt Try.prog 58 [(0, 1), (1, 1)] := ⟨_, Try.underlying58, fun w => by simp [ty_int.sizeOf]⟩



































instance fld_laws_Move_0 : FieldAt Try.prog 97 0 0 := ⟨_, _, Try.underlying97, rfl, rfl, _, _, _, _, ty_int, by decide⟩
instance fld_laws_Move_1 : FieldAt Try.prog 97 1 1 := ⟨_, _, Try.underlying97, rfl, rfl, _, _, _, _, ty_int, by decide⟩
instance eqmv_laws_Move : EqMv Try.prog 97 := ⟨⟨_, _, Try.underlying97, rfl, rfl, by decide, by decide, ⟨_, _, _, ty_int⟩, ⟨_, _, _, ty_int⟩, ⟨.i64, by kernel_rfl⟩, ⟨.i64, by kernel_rfl⟩⟩, by kernel_rfl, by kernel_rfl⟩
instance str_laws_Move : StructAt Try.prog 97 [(0, 1), (1, 1)] := ⟨_, Try.underlying97, fun w => by simp [ty_int.sizeOf]⟩





























abbrev F_laws_FnExactGraphOk : FuncId := 3
instance can_laws_FnExactGraphOk : Callable Try.prog 3 := ⟨_, Try.func3, by kernel_rfl, by kernel_rfl⟩
theorem fun_laws_FnExactGraphOk : Try.prog.funcs[F_laws_FnExactGraphOk]? = some Try.f3 := Try.func3
theorem tmps_laws_FnExactGraphOk : Try.f3.ntmps = 27 := Try.ntmps3
theorem ress_laws_FnExactGraphOk : Try.f3.results = #[.tmp 2] := Try.results3
abbrev F_laws_FnExactGraphBoth : FuncId := 4
instance can_laws_FnExactGraphBoth : Callable Try.prog 4 := ⟨_, Try.func4, by kernel_rfl, by kernel_rfl⟩
theorem fun_laws_FnExactGraphBoth : Try.prog.funcs[F_laws_FnExactGraphBoth]? = some Try.f4 := Try.func4
theorem tmps_laws_FnExactGraphBoth : Try.f4.ntmps = 119 := Try.ntmps4
theorem ress_laws_FnExactGraphBoth : Try.f4.results = #[.tmp 4] := Try.results4
abbrev F_laws_FnExactGraphLoops : FuncId := 5
instance can_laws_FnExactGraphLoops : Callable Try.prog 5 := ⟨_, Try.func5, by kernel_rfl, by kernel_rfl⟩
theorem fun_laws_FnExactGraphLoops : Try.prog.funcs[F_laws_FnExactGraphLoops]? = some Try.f5 := Try.func5
theorem tmps_laws_FnExactGraphLoops : Try.f5.ntmps = 69 := Try.ntmps5
theorem ress_laws_FnExactGraphLoops : Try.f5.results = #[.tmp 2] := Try.results5
abbrev F_laws_FnExactAlikeRelation : FuncId := 6
instance can_laws_FnExactAlikeRelation : Callable Try.prog 6 := ⟨_, Try.func6, by kernel_rfl, by kernel_rfl⟩
theorem fun_laws_FnExactAlikeRelation : Try.prog.funcs[F_laws_FnExactAlikeRelation]? = some Try.f6 := Try.func6
theorem tmps_laws_FnExactAlikeRelation : Try.f6.ntmps = 45 := Try.ntmps6
theorem ress_laws_FnExactAlikeRelation : Try.f6.results = #[.tmp 4] := Try.results6
abbrev F_laws_FnExactGraphReach : FuncId := 7
instance can_laws_FnExactGraphReach : Callable Try.prog 7 := ⟨_, Try.func7, by kernel_rfl, by kernel_rfl⟩
theorem fun_laws_FnExactGraphReach : Try.prog.funcs[F_laws_FnExactGraphReach]? = some Try.f7 := Try.func7
theorem tmps_laws_FnExactGraphReach : Try.f7.ntmps = 69 := Try.ntmps7
theorem ress_laws_FnExactGraphReach : Try.f7.results = #[.tmp 2] := Try.results7
abbrev F_laws_FnExactGraphPart : FuncId := 8
instance can_laws_FnExactGraphPart : Callable Try.prog 8 := ⟨_, Try.func8, by kernel_rfl, by kernel_rfl⟩
theorem fun_laws_FnExactGraphPart : Try.prog.funcs[F_laws_FnExactGraphPart]? = some Try.f8 := Try.func8
theorem tmps_laws_FnExactGraphPart : Try.f8.ntmps = 101 := Try.ntmps8
theorem ress_laws_FnExactGraphPart : Try.f8.results = #[.tmp 4] := Try.results8
abbrev F_laws_FnExactAlikeClasses : FuncId := 9
instance can_laws_FnExactAlikeClasses : Callable Try.prog 9 := ⟨_, Try.func9, by kernel_rfl, by kernel_rfl⟩
theorem fun_laws_FnExactAlikeClasses : Try.prog.funcs[F_laws_FnExactAlikeClasses]? = some Try.f9 := Try.func9
theorem tmps_laws_FnExactAlikeClasses : Try.f9.ntmps = 69 := Try.ntmps9
theorem ress_laws_FnExactAlikeClasses : Try.f9.results = #[.tmp 2] := Try.results9
abbrev F_laws_FnExactAlikeRounds : FuncId := 10
instance can_laws_FnExactAlikeRounds : Callable Try.prog 10 := ⟨_, Try.func10, by kernel_rfl, by kernel_rfl⟩
theorem fun_laws_FnExactAlikeRounds : Try.prog.funcs[F_laws_FnExactAlikeRounds]? = some Try.f10 := Try.func10
theorem tmps_laws_FnExactAlikeRounds : Try.f10.ntmps = 69 := Try.ntmps10
theorem ress_laws_FnExactAlikeRounds : Try.f10.results = #[.tmp 2] := Try.results10
abbrev F_laws_FnExactGraphFold : FuncId := 11
instance can_laws_FnExactGraphFold : Callable Try.prog 11 := ⟨_, Try.func11, by kernel_rfl, by kernel_rfl⟩
theorem fun_laws_FnExactGraphFold : Try.prog.funcs[F_laws_FnExactGraphFold]? = some Try.f11 := Try.func11
theorem tmps_laws_FnExactGraphFold : Try.f11.ntmps = 96 := Try.ntmps11
theorem ress_laws_FnExactGraphFold : Try.f11.results = #[.tmp 2] := Try.results11
abbrev F_laws_szGraph : FuncId := 12
instance can_laws_szGraph : Callable Try.prog 12 := ⟨_, Try.func12, by kernel_rfl, by kernel_rfl⟩
theorem fun_laws_szGraph : Try.prog.funcs[F_laws_szGraph]? = some Try.f12 := Try.func12
theorem tmps_laws_szGraph : Try.f12.ntmps = 12 := Try.ntmps12
theorem ress_laws_szGraph : Try.f12.results = #[.tmp 4] := Try.results12
abbrev F_spec_GraphOk : FuncId := 13
instance can_spec_GraphOk : Callable Try.prog 13 := ⟨_, Try.func13, by kernel_rfl, by kernel_rfl⟩
theorem fun_spec_GraphOk : Try.prog.funcs[F_spec_GraphOk]? = some Try.f13 := Try.func13
theorem tmps_spec_GraphOk : Try.f13.ntmps = 68 := Try.ntmps13
theorem ress_spec_GraphOk : Try.f13.results = #[.tmp 2] := Try.results13
abbrev F_laws_toGraph : FuncId := 14
instance can_laws_toGraph : Callable Try.prog 14 := ⟨_, Try.func14, by kernel_rfl, by kernel_rfl⟩
theorem fun_laws_toGraph : Try.prog.funcs[F_laws_toGraph]? = some Try.f14 := Try.func14
theorem tmps_laws_toGraph : Try.f14.ntmps = 9 := Try.ntmps14
theorem ress_laws_toGraph : Try.f14.results = #[.cell 2 29] := Try.results14
abbrev F_impl_GraphOk : FuncId := 15
instance can_impl_GraphOk : Callable Try.prog 15 := ⟨_, Try.func15, by kernel_rfl, by kernel_rfl⟩
theorem fun_impl_GraphOk : Try.prog.funcs[F_impl_GraphOk]? = some Try.f15 := Try.func15
theorem tmps_impl_GraphOk : Try.f15.ntmps = 64 := Try.ntmps15
theorem ress_impl_GraphOk : Try.f15.results = #[.tmp 2] := Try.results15
abbrev F_laws_eqGraph : FuncId := 16
instance can_laws_eqGraph : Callable Try.prog 16 := ⟨_, Try.func16, by kernel_rfl, by kernel_rfl⟩
theorem fun_laws_eqGraph : Try.prog.funcs[F_laws_eqGraph]? = some Try.f16 := Try.func16
theorem tmps_laws_eqGraph : Try.f16.ntmps = 11 := Try.ntmps16
theorem ress_laws_eqGraph : Try.f16.results = #[.tmp 4] := Try.results16
abbrev F_spec_GraphBoth : FuncId := 17
instance can_spec_GraphBoth : Callable Try.prog 17 := ⟨_, Try.func17, by kernel_rfl, by kernel_rfl⟩
theorem fun_spec_GraphBoth : Try.prog.funcs[F_spec_GraphBoth]? = some Try.f17 := Try.func17
theorem tmps_spec_GraphBoth : Try.f17.ntmps = 28 := Try.ntmps17
theorem ress_spec_GraphBoth : Try.f17.results = #[.cell 4 29, .tmp 5] := Try.results17
abbrev F_impl_GraphBoth : FuncId := 18
instance can_impl_GraphBoth : Callable Try.prog 18 := ⟨_, Try.func18, by kernel_rfl, by kernel_rfl⟩
theorem fun_impl_GraphBoth : Try.prog.funcs[F_impl_GraphBoth]? = some Try.f18 := Try.func18
theorem tmps_impl_GraphBoth : Try.f18.ntmps = 65 := Try.ntmps18
theorem ress_impl_GraphBoth : Try.f18.results = #[.cell 4 29, .tmp 5] := Try.results18
abbrev F_laws_markGraph : FuncId := 19
instance can_laws_markGraph : Callable Try.prog 19 := ⟨_, Try.func19, by kernel_rfl, by kernel_rfl⟩
theorem fun_laws_markGraph : Try.prog.funcs[F_laws_markGraph]? = some Try.f19 := Try.func19
theorem tmps_laws_markGraph : Try.f19.ntmps = 10 := Try.ntmps19
theorem ress_laws_markGraph : Try.f19.results = #[.tmp 4] := Try.results19
abbrev F_laws_heldGraph : FuncId := 20
instance can_laws_heldGraph : Callable Try.prog 20 := ⟨_, Try.func20, by kernel_rfl, by kernel_rfl⟩
theorem fun_laws_heldGraph : Try.prog.funcs[F_laws_heldGraph]? = some Try.f20 := Try.func20
theorem tmps_laws_heldGraph : Try.f20.ntmps = 12 := Try.ntmps20
theorem ress_laws_heldGraph : Try.f20.results = #[.tmp 4] := Try.results20
abbrev F_spec_GraphLoops : FuncId := 21
instance can_spec_GraphLoops : Callable Try.prog 21 := ⟨_, Try.func21, by kernel_rfl, by kernel_rfl⟩
theorem fun_spec_GraphLoops : Try.prog.funcs[F_spec_GraphLoops]? = some Try.f21 := Try.func21
theorem tmps_spec_GraphLoops : Try.f21.ntmps = 28 := Try.ntmps21
theorem ress_spec_GraphLoops : Try.f21.results = #[.tmp 2] := Try.results21
abbrev F_impl_GraphLoops : FuncId := 22
instance can_impl_GraphLoops : Callable Try.prog 22 := ⟨_, Try.func22, by kernel_rfl, by kernel_rfl⟩
theorem fun_impl_GraphLoops : Try.prog.funcs[F_impl_GraphLoops]? = some Try.f22 := Try.func22
theorem tmps_impl_GraphLoops : Try.f22.ntmps = 26 := Try.ntmps22
theorem ress_impl_GraphLoops : Try.f22.results = #[.tmp 2] := Try.results22
abbrev F_laws_eqIntS : FuncId := 23
instance can_laws_eqIntS : Callable Try.prog 23 := ⟨_, Try.func23, by kernel_rfl, by kernel_rfl⟩
theorem fun_laws_eqIntS : Try.prog.funcs[F_laws_eqIntS]? = some Try.f23 := Try.func23
theorem tmps_laws_eqIntS : Try.f23.ntmps = 26 := Try.ntmps23
theorem ress_laws_eqIntS : Try.f23.results = #[.tmp 4] := Try.results23
abbrev F_laws_markIntS : FuncId := 24
instance can_laws_markIntS : Callable Try.prog 24 := ⟨_, Try.func24, by kernel_rfl, by kernel_rfl⟩
theorem fun_laws_markIntS : Try.prog.funcs[F_laws_markIntS]? = some Try.f24 := Try.func24
theorem tmps_laws_markIntS : Try.f24.ntmps = 19 := Try.ntmps24
theorem ress_laws_markIntS : Try.f24.results = #[.tmp 4] := Try.results24
abbrev F_laws_heldIntS : FuncId := 25
instance can_laws_heldIntS : Callable Try.prog 25 := ⟨_, Try.func25, by kernel_rfl, by kernel_rfl⟩
theorem fun_laws_heldIntS : Try.prog.funcs[F_laws_heldIntS]? = some Try.f25 := Try.func25
theorem tmps_laws_heldIntS : Try.f25.ntmps = 21 := Try.ntmps25
theorem ress_laws_heldIntS : Try.f25.results = #[.tmp 4] := Try.results25
abbrev F_laws_szBoolSS : FuncId := 26
instance can_laws_szBoolSS : Callable Try.prog 26 := ⟨_, Try.func26, by kernel_rfl, by kernel_rfl⟩
theorem fun_laws_szBoolSS : Try.prog.funcs[F_laws_szBoolSS]? = some Try.f26 := Try.func26
theorem tmps_laws_szBoolSS : Try.f26.ntmps = 27 := Try.ntmps26
theorem ress_laws_szBoolSS : Try.f26.results = #[.tmp 4] := Try.results26
abbrev F_spec_AlikeRelation : FuncId := 27
instance can_spec_AlikeRelation : Callable Try.prog 27 := ⟨_, Try.func27, by kernel_rfl, by kernel_rfl⟩
theorem fun_spec_AlikeRelation : Try.prog.funcs[F_spec_AlikeRelation]? = some Try.f27 := Try.func27
theorem tmps_spec_AlikeRelation : Try.f27.ntmps = 68 := Try.ntmps27
theorem ress_spec_AlikeRelation : Try.f27.results = #[.tmp 4] := Try.results27
abbrev F_laws_toBoolSS : FuncId := 28
instance can_laws_toBoolSS : Callable Try.prog 28 := ⟨_, Try.func28, by kernel_rfl, by kernel_rfl⟩
theorem fun_laws_toBoolSS : Try.prog.funcs[F_laws_toBoolSS]? = some Try.f28 := Try.func28
theorem tmps_laws_toBoolSS : Try.f28.ntmps = 23 := Try.ntmps28
theorem ress_laws_toBoolSS : Try.f28.results = #[.tmp 2] := Try.results28
abbrev F_impl_AlikeRelation : FuncId := 29
instance can_impl_AlikeRelation : Callable Try.prog 29 := ⟨_, Try.func29, by kernel_rfl, by kernel_rfl⟩
theorem fun_impl_AlikeRelation : Try.prog.funcs[F_impl_AlikeRelation]? = some Try.f29 := Try.func29
theorem tmps_impl_AlikeRelation : Try.f29.ntmps = 73 := Try.ntmps29
theorem ress_impl_AlikeRelation : Try.f29.results = #[.tmp 4] := Try.results29
abbrev F_laws_eqBoolSS : FuncId := 30
instance can_laws_eqBoolSS : Callable Try.prog 30 := ⟨_, Try.func30, by kernel_rfl, by kernel_rfl⟩
theorem fun_laws_eqBoolSS : Try.prog.funcs[F_laws_eqBoolSS]? = some Try.f30 := Try.func30
theorem tmps_laws_eqBoolSS : Try.f30.ntmps = 27 := Try.ntmps30
theorem ress_laws_eqBoolSS : Try.f30.results = #[.tmp 4] := Try.results30
abbrev F_spec_GraphReach : FuncId := 31
instance can_spec_GraphReach : Callable Try.prog 31 := ⟨_, Try.func31, by kernel_rfl, by kernel_rfl⟩
theorem fun_spec_GraphReach : Try.prog.funcs[F_spec_GraphReach]? = some Try.f31 := Try.func31
theorem tmps_spec_GraphReach : Try.f31.ntmps = 38 := Try.ntmps31
theorem ress_spec_GraphReach : Try.f31.results = #[.tmp 2] := Try.results31
abbrev F_impl_GraphReach : FuncId := 32
instance can_impl_GraphReach : Callable Try.prog 32 := ⟨_, Try.func32, by kernel_rfl, by kernel_rfl⟩
theorem fun_impl_GraphReach : Try.prog.funcs[F_impl_GraphReach]? = some Try.f32 := Try.func32
theorem tmps_impl_GraphReach : Try.f32.ntmps = 12 := Try.ntmps32
theorem ress_impl_GraphReach : Try.f32.results = #[.tmp 2] := Try.results32
abbrev F_spec_GraphPart : FuncId := 33
instance can_spec_GraphPart : Callable Try.prog 33 := ⟨_, Try.func33, by kernel_rfl, by kernel_rfl⟩
theorem fun_spec_GraphPart : Try.prog.funcs[F_spec_GraphPart]? = some Try.f33 := Try.func33
theorem tmps_spec_GraphPart : Try.f33.ntmps = 22 := Try.ntmps33
theorem ress_spec_GraphPart : Try.f33.results = #[.cell 4 29, .tmp 5] := Try.results33
abbrev F_impl_GraphPart : FuncId := 34
instance can_impl_GraphPart : Callable Try.prog 34 := ⟨_, Try.func34, by kernel_rfl, by kernel_rfl⟩
theorem fun_impl_GraphPart : Try.prog.funcs[F_impl_GraphPart]? = some Try.f34 := Try.func34
theorem tmps_impl_GraphPart : Try.f34.ntmps = 69 := Try.ntmps34
theorem ress_impl_GraphPart : Try.f34.results = #[.cell 4 29, .tmp 5] := Try.results34
abbrev F_spec_AlikeClasses : FuncId := 35
instance can_spec_AlikeClasses : Callable Try.prog 35 := ⟨_, Try.func35, by kernel_rfl, by kernel_rfl⟩
theorem fun_spec_AlikeClasses : Try.prog.funcs[F_spec_AlikeClasses]? = some Try.f35 := Try.func35
theorem tmps_spec_AlikeClasses : Try.f35.ntmps = 9 := Try.ntmps35
theorem ress_spec_AlikeClasses : Try.f35.results = #[.tmp 2] := Try.results35
abbrev F_impl_AlikeClasses : FuncId := 36
instance can_impl_AlikeClasses : Callable Try.prog 36 := ⟨_, Try.func36, by kernel_rfl, by kernel_rfl⟩
theorem fun_impl_AlikeClasses : Try.prog.funcs[F_impl_AlikeClasses]? = some Try.f36 := Try.func36
theorem tmps_impl_AlikeClasses : Try.f36.ntmps = 8 := Try.ntmps36
theorem ress_impl_AlikeClasses : Try.f36.results = #[.tmp 2] := Try.results36
abbrev F_spec_AlikeRounds : FuncId := 37
instance can_spec_AlikeRounds : Callable Try.prog 37 := ⟨_, Try.func37, by kernel_rfl, by kernel_rfl⟩
theorem fun_spec_AlikeRounds : Try.prog.funcs[F_spec_AlikeRounds]? = some Try.f37 := Try.func37
theorem tmps_spec_AlikeRounds : Try.f37.ntmps = 9 := Try.ntmps37
theorem ress_spec_AlikeRounds : Try.f37.results = #[.tmp 2] := Try.results37
abbrev F_impl_AlikeRounds : FuncId := 38
instance can_impl_AlikeRounds : Callable Try.prog 38 := ⟨_, Try.func38, by kernel_rfl, by kernel_rfl⟩
theorem fun_impl_AlikeRounds : Try.prog.funcs[F_impl_AlikeRounds]? = some Try.f38 := Try.func38
theorem tmps_impl_AlikeRounds : Try.f38.ntmps = 8 := Try.ntmps38
theorem ress_impl_AlikeRounds : Try.f38.results = #[.tmp 2] := Try.results38
abbrev F_laws_eqIntSS : FuncId := 39
instance can_laws_eqIntSS : Callable Try.prog 39 := ⟨_, Try.func39, by kernel_rfl, by kernel_rfl⟩
theorem fun_laws_eqIntSS : Try.prog.funcs[F_laws_eqIntSS]? = some Try.f39 := Try.func39
theorem tmps_laws_eqIntSS : Try.f39.ntmps = 27 := Try.ntmps39
theorem ress_laws_eqIntSS : Try.f39.results = #[.tmp 4] := Try.results39
abbrev F_laws_markIntSS : FuncId := 40
instance can_laws_markIntSS : Callable Try.prog 40 := ⟨_, Try.func40, by kernel_rfl, by kernel_rfl⟩
theorem fun_laws_markIntSS : Try.prog.funcs[F_laws_markIntSS]? = some Try.f40 := Try.func40
theorem tmps_laws_markIntSS : Try.f40.ntmps = 19 := Try.ntmps40
theorem ress_laws_markIntSS : Try.f40.results = #[.tmp 4] := Try.results40
abbrev F_laws_heldIntSS : FuncId := 41
instance can_laws_heldIntSS : Callable Try.prog 41 := ⟨_, Try.func41, by kernel_rfl, by kernel_rfl⟩
theorem fun_laws_heldIntSS : Try.prog.funcs[F_laws_heldIntSS]? = some Try.f41 := Try.func41
theorem tmps_laws_heldIntSS : Try.f41.ntmps = 21 := Try.ntmps41
theorem ress_laws_heldIntSS : Try.f41.results = #[.tmp 4] := Try.results41
abbrev F_spec_GraphFold : FuncId := 42
instance can_spec_GraphFold : Callable Try.prog 42 := ⟨_, Try.func42, by kernel_rfl, by kernel_rfl⟩
theorem fun_spec_GraphFold : Try.prog.funcs[F_spec_GraphFold]? = some Try.f42 := Try.func42
theorem tmps_spec_GraphFold : Try.f42.ntmps = 12 := Try.ntmps42
theorem ress_spec_GraphFold : Try.f42.results = #[.cell 2 29, .tmp 3] := Try.results42
abbrev F_impl_GraphFold : FuncId := 43
instance can_impl_GraphFold : Callable Try.prog 43 := ⟨_, Try.func43, by kernel_rfl, by kernel_rfl⟩
theorem fun_impl_GraphFold : Try.prog.funcs[F_impl_GraphFold]? = some Try.f43 := Try.func43
theorem tmps_impl_GraphFold : Try.f43.ntmps = 77 := Try.ntmps43
theorem ress_impl_GraphFold : Try.f43.results = #[.cell 2 29, .tmp 3] := Try.results43
abbrev F_laws_szMoveSS : FuncId := 44
instance can_laws_szMoveSS : Callable Try.prog 44 := ⟨_, Try.func44, by kernel_rfl, by kernel_rfl⟩
theorem fun_laws_szMoveSS : Try.prog.funcs[F_laws_szMoveSS]? = some Try.f44 := Try.func44
theorem tmps_laws_szMoveSS : Try.f44.ntmps = 27 := Try.ntmps44
theorem ress_laws_szMoveSS : Try.f44.results = #[.tmp 4] := Try.results44
abbrev F_spec_l6In : FuncId := 45
instance can_spec_l6In : Callable Try.prog 45 := ⟨_, Try.func45, by kernel_rfl, by kernel_rfl⟩
theorem fun_spec_l6In : Try.prog.funcs[F_spec_l6In]? = some Try.f45 := Try.func45
theorem tmps_spec_l6In : Try.f45.ntmps = 15 := Try.ntmps45
theorem ress_spec_l6In : Try.f45.results = #[.tmp 6] := Try.results45
abbrev F_spec_ActOk : FuncId := 46
instance can_spec_ActOk : Callable Try.prog 46 := ⟨_, Try.func46, by kernel_rfl, by kernel_rfl⟩
theorem fun_spec_ActOk : Try.prog.funcs[F_spec_ActOk]? = some Try.f46 := Try.func46
theorem tmps_spec_ActOk : Try.f46.ntmps = 5 := Try.ntmps46
theorem ress_spec_ActOk : Try.f46.results = #[.tmp 2] := Try.results46
abbrev F_spec_l3Less : FuncId := 47
instance can_spec_l3Less : Callable Try.prog 47 := ⟨_, Try.func47, by kernel_rfl, by kernel_rfl⟩
theorem fun_spec_l3Less : Try.prog.funcs[F_spec_l3Less]? = some Try.f47 := Try.func47
theorem tmps_spec_l3Less : Try.f47.ntmps = 24 := Try.ntmps47
theorem ress_spec_l3Less : Try.f47.results = #[.tmp 4] := Try.results47
abbrev F_laws_toMoveSS : FuncId := 48
instance can_laws_toMoveSS : Callable Try.prog 48 := ⟨_, Try.func48, by kernel_rfl, by kernel_rfl⟩
theorem fun_laws_toMoveSS : Try.prog.funcs[F_laws_toMoveSS]? = some Try.f48 := Try.func48
theorem tmps_laws_toMoveSS : Try.f48.ntmps = 23 := Try.ntmps48
theorem ress_laws_toMoveSS : Try.f48.results = #[.tmp 2] := Try.results48
abbrev F_impl_ActOk : FuncId := 49
instance can_impl_ActOk : Callable Try.prog 49 := ⟨_, Try.func49, by kernel_rfl, by kernel_rfl⟩
theorem fun_impl_ActOk : Try.prog.funcs[F_impl_ActOk]? = some Try.f49 := Try.func49
theorem tmps_impl_ActOk : Try.f49.ntmps = 9 := Try.ntmps49
theorem ress_impl_ActOk : Try.f49.results = #[.tmp 2] := Try.results49
abbrev F_impl_byMove : FuncId := 50
instance can_impl_byMove : Callable Try.prog 50 := ⟨_, Try.func50, by kernel_rfl, by kernel_rfl⟩
theorem fun_impl_byMove : Try.prog.funcs[F_impl_byMove]? = some Try.f50 := Try.func50
theorem tmps_impl_byMove : Try.f50.ntmps = 19 := Try.ntmps50
theorem ress_impl_byMove : Try.f50.results = #[.tmp 4] := Try.results50
abbrev F_laws_eqMoveSS : FuncId := 51
instance can_laws_eqMoveSS : Callable Try.prog 51 := ⟨_, Try.func51, by kernel_rfl, by kernel_rfl⟩
theorem fun_laws_eqMoveSS : Try.prog.funcs[F_laws_eqMoveSS]? = some Try.f51 := Try.func51
theorem tmps_laws_eqMoveSS : Try.f51.ntmps = 27 := Try.ntmps51
theorem ress_laws_eqMoveSS : Try.f51.results = #[.tmp 4] := Try.results51
abbrev F_spec_l4Both : FuncId := 52
instance can_spec_l4Both : Callable Try.prog 52 := ⟨_, Try.func52, by kernel_rfl, by kernel_rfl⟩
theorem fun_spec_l4Both : Try.prog.funcs[F_spec_l4Both]? = some Try.f52 := Try.func52
theorem tmps_spec_l4Both : Try.f52.ntmps = 83 := Try.ntmps52
theorem ress_spec_l4Both : Try.f52.results = #[.cell 4 29] := Try.results52
abbrev F_impl_shifted : FuncId := 53
instance can_impl_shifted : Callable Try.prog 53 := ⟨_, Try.func53, by kernel_rfl, by kernel_rfl⟩
theorem fun_impl_shifted : Try.prog.funcs[F_impl_shifted]? = some Try.f53 := Try.func53
theorem tmps_impl_shifted : Try.f53.ntmps = 27 := Try.ntmps53
theorem ress_impl_shifted : Try.f53.results = #[.tmp 4] := Try.results53
abbrev F_laws_markMoveSS : FuncId := 54
instance can_laws_markMoveSS : Callable Try.prog 54 := ⟨_, Try.func54, by kernel_rfl, by kernel_rfl⟩
theorem fun_laws_markMoveSS : Try.prog.funcs[F_laws_markMoveSS]? = some Try.f54 := Try.func54
theorem tmps_laws_markMoveSS : Try.f54.ntmps = 19 := Try.ntmps54
theorem ress_laws_markMoveSS : Try.f54.results = #[.tmp 4] := Try.results54
abbrev F_laws_heldMoveSS : FuncId := 55
instance can_laws_heldMoveSS : Callable Try.prog 55 := ⟨_, Try.func55, by kernel_rfl, by kernel_rfl⟩
theorem fun_laws_heldMoveSS : Try.prog.funcs[F_laws_heldMoveSS]? = some Try.f55 := Try.func55
theorem tmps_laws_heldMoveSS : Try.f55.ntmps = 21 := Try.ntmps55
theorem ress_laws_heldMoveSS : Try.f55.results = #[.tmp 4] := Try.results55
abbrev F_spec_l5Loops : FuncId := 56
instance can_spec_l5Loops : Callable Try.prog 56 := ⟨_, Try.func56, by kernel_rfl, by kernel_rfl⟩
theorem fun_spec_l5Loops : Try.prog.funcs[F_spec_l5Loops]? = some Try.f56 := Try.func56
theorem tmps_spec_l5Loops : Try.f56.ntmps = 78 := Try.ntmps56
theorem ress_spec_l5Loops : Try.f56.results = #[.tmp 2] := Try.results56
abbrev F_impl_loops : FuncId := 57
instance can_impl_loops : Callable Try.prog 57 := ⟨_, Try.func57, by kernel_rfl, by kernel_rfl⟩
theorem fun_impl_loops : Try.prog.funcs[F_impl_loops]? = some Try.f57 := Try.func57
theorem tmps_impl_loops : Try.f57.ntmps = 45 := Try.ntmps57
theorem ress_impl_loops : Try.f57.results = #[.tmp 2] := Try.results57
abbrev F_laws_szBoolS : FuncId := 58
instance can_laws_szBoolS : Callable Try.prog 58 := ⟨_, Try.func58, by kernel_rfl, by kernel_rfl⟩
theorem fun_laws_szBoolS : Try.prog.funcs[F_laws_szBoolS]? = some Try.f58 := Try.func58
theorem tmps_laws_szBoolS : Try.f58.ntmps = 12 := Try.ntmps58
theorem ress_laws_szBoolS : Try.f58.results = #[.tmp 4] := Try.results58
abbrev F_spec_l4Follows : FuncId := 59
instance can_spec_l4Follows : Callable Try.prog 59 := ⟨_, Try.func59, by kernel_rfl, by kernel_rfl⟩
theorem fun_spec_l4Follows : Try.prog.funcs[F_spec_l4Follows]? = some Try.f59 := Try.func59
theorem tmps_spec_l4Follows : Try.f59.ntmps = 91 := Try.ntmps59
theorem ress_spec_l4Follows : Try.f59.results = #[.tmp 10] := Try.results59
abbrev F_laws_toBoolS : FuncId := 60
instance can_laws_toBoolS : Callable Try.prog 60 := ⟨_, Try.func60, by kernel_rfl, by kernel_rfl⟩
theorem fun_laws_toBoolS : Try.prog.funcs[F_laws_toBoolS]? = some Try.f60 := Try.func60
theorem tmps_laws_toBoolS : Try.f60.ntmps = 22 := Try.ntmps60
theorem ress_laws_toBoolS : Try.f60.results = #[.tmp 2] := Try.results60
abbrev F_impl_tableOk : FuncId := 61
instance can_impl_tableOk : Callable Try.prog 61 := ⟨_, Try.func61, by kernel_rfl, by kernel_rfl⟩
theorem fun_impl_tableOk : Try.prog.funcs[F_impl_tableOk]? = some Try.f61 := Try.func61
theorem tmps_impl_tableOk : Try.f61.ntmps = 31 := Try.ntmps61
theorem ress_impl_tableOk : Try.f61.results = #[.tmp 4] := Try.results61
abbrev F_slices_ContainsFunc_impl_Move_impl_Move : FuncId := 62
instance can_slices_ContainsFunc_impl_Move_impl_Move : Callable Try.prog 62 := ⟨_, Try.func62, by kernel_rfl, by kernel_rfl⟩
theorem fun_slices_ContainsFunc_impl_Move_impl_Move : Try.prog.funcs[F_slices_ContainsFunc_impl_Move_impl_Move]? = some Try.f62 := Try.func62
theorem tmps_slices_ContainsFunc_impl_Move_impl_Move : Try.f62.ntmps = 9 := Try.ntmps62
theorem ress_slices_ContainsFunc_impl_Move_impl_Move : Try.f62.results = #[.tmp 4] := Try.results62
abbrev F_impl_AlikeRelation_1 : FuncId := 63
instance can_impl_AlikeRelation_1 : Callable Try.prog 63 := ⟨_, Try.func63, by kernel_rfl, by kernel_rfl⟩
theorem fun_impl_AlikeRelation_1 : Try.prog.funcs[F_impl_AlikeRelation_1]? = some Try.f63 := Try.func63
theorem tmps_impl_AlikeRelation_1 : Try.f63.ntmps = 21 := Try.ntmps63
theorem ress_impl_AlikeRelation_1 : Try.f63.results = #[.tmp 4] := Try.results63
abbrev F_impl_AlikeRelation_2 : FuncId := 64
instance can_impl_AlikeRelation_2 : Callable Try.prog 64 := ⟨_, Try.func64, by kernel_rfl, by kernel_rfl⟩
theorem fun_impl_AlikeRelation_2 : Try.prog.funcs[F_impl_AlikeRelation_2]? = some Try.f64 := Try.func64
theorem tmps_impl_AlikeRelation_2 : Try.f64.ntmps = 21 := Try.ntmps64
theorem ress_impl_AlikeRelation_2 : Try.f64.results = #[.tmp 4] := Try.results64
abbrev F_laws_eqBoolS : FuncId := 65
instance can_laws_eqBoolS : Callable Try.prog 65 := ⟨_, Try.func65, by kernel_rfl, by kernel_rfl⟩
theorem fun_laws_eqBoolS : Try.prog.funcs[F_laws_eqBoolS]? = some Try.f65 := Try.func65
theorem tmps_laws_eqBoolS : Try.f65.ntmps = 26 := Try.ntmps65
theorem ress_laws_eqBoolS : Try.f65.results = #[.tmp 4] := Try.results65
abbrev F_spec_l3From : FuncId := 66
instance can_spec_l3From : Callable Try.prog 66 := ⟨_, Try.func66, by kernel_rfl, by kernel_rfl⟩
theorem fun_spec_l3From : Try.prog.funcs[F_spec_l3From]? = some Try.f66 := Try.func66
theorem tmps_spec_l3From : Try.f66.ntmps = 64 := Try.ntmps66
theorem ress_spec_l3From : Try.f66.results = #[.tmp 4] := Try.results66
abbrev F_impl_reached : FuncId := 67
instance can_impl_reached : Callable Try.prog 67 := ⟨_, Try.func67, by kernel_rfl, by kernel_rfl⟩
theorem fun_impl_reached : Try.prog.funcs[F_impl_reached]? = some Try.f67 := Try.func67
theorem tmps_impl_reached : Try.f67.ntmps = 49 := Try.ntmps67
theorem ress_impl_reached : Try.f67.results = #[.tmp 4] := Try.results67
abbrev F_slices_Sort_int_int : FuncId := 68
instance can_slices_Sort_int_int : Callable Try.prog 68 := ⟨_, Try.func68, by kernel_rfl, by kernel_rfl⟩
theorem fun_slices_Sort_int_int : Try.prog.funcs[F_slices_Sort_int_int]? = some Try.f68 := Try.func68
theorem tmps_slices_Sort_int_int : Try.f68.ntmps = 11 := Try.ntmps68
theorem ress_slices_Sort_int_int : Try.f68.results = #[] := Try.results68
abbrev F_spec_l3Part : FuncId := 69
instance can_spec_l3Part : Callable Try.prog 69 := ⟨_, Try.func69, by kernel_rfl, by kernel_rfl⟩
theorem fun_spec_l3Part : Try.prog.funcs[F_spec_l3Part]? = some Try.f69 := Try.func69
theorem tmps_spec_l3Part : Try.f69.ntmps = 84 := Try.ntmps69
theorem ress_spec_l3Part : Try.f69.results = #[.cell 4 29] := Try.results69
abbrev F_slices_Index_int_int : FuncId := 70
instance can_slices_Index_int_int : Callable Try.prog 70 := ⟨_, Try.func70, by kernel_rfl, by kernel_rfl⟩
theorem fun_slices_Index_int_int : Try.prog.funcs[F_slices_Index_int_int]? = some Try.f70 := Try.func70
theorem tmps_slices_Index_int_int : Try.f70.ntmps = 19 := Try.ntmps70
theorem ress_slices_Index_int_int : Try.f70.results = #[.tmp 4] := Try.results70
abbrev F_impl_tidy : FuncId := 71
instance can_impl_tidy : Callable Try.prog 71 := ⟨_, Try.func71, by kernel_rfl, by kernel_rfl⟩
theorem fun_impl_tidy : Try.prog.funcs[F_impl_tidy]? = some Try.f71 := Try.func71
theorem tmps_impl_tidy : Try.f71.ntmps = 7 := Try.ntmps71
theorem ress_impl_tidy : Try.f71.results = #[.tmp 2] := Try.results71
abbrev F_spec_l4Classes : FuncId := 72
instance can_spec_l4Classes : Callable Try.prog 72 := ⟨_, Try.func72, by kernel_rfl, by kernel_rfl⟩
theorem fun_spec_l4Classes : Try.prog.funcs[F_spec_l4Classes]? = some Try.f72 := Try.func72
theorem tmps_spec_l4Classes : Try.f72.ntmps = 12 := Try.ntmps72
theorem ress_spec_l4Classes : Try.f72.results = #[.tmp 2] := Try.results72
abbrev F_impl_alikeClasses : FuncId := 73
instance can_impl_alikeClasses : Callable Try.prog 73 := ⟨_, Try.func73, by kernel_rfl, by kernel_rfl⟩
theorem fun_impl_alikeClasses : Try.prog.funcs[F_impl_alikeClasses]? = some Try.f73 := Try.func73
theorem tmps_impl_alikeClasses : Try.f73.ntmps = 13 := Try.ntmps73
theorem ress_impl_alikeClasses : Try.f73.results = #[.tmp 2] := Try.results73
abbrev F_spec_l4Rounds : FuncId := 74
instance can_spec_l4Rounds : Callable Try.prog 74 := ⟨_, Try.func74, by kernel_rfl, by kernel_rfl⟩
theorem fun_spec_l4Rounds : Try.prog.funcs[F_spec_l4Rounds]? = some Try.f74 := Try.func74
theorem tmps_spec_l4Rounds : Try.f74.ntmps = 31 := Try.ntmps74
theorem ress_spec_l4Rounds : Try.f74.results = #[.tmp 2] := Try.results74
abbrev F_impl_alikeRounds : FuncId := 75
instance can_impl_alikeRounds : Callable Try.prog 75 := ⟨_, Try.func75, by kernel_rfl, by kernel_rfl⟩
theorem fun_impl_alikeRounds : Try.prog.funcs[F_impl_alikeRounds]? = some Try.f75 := Try.func75
theorem tmps_impl_alikeRounds : Try.f75.ntmps = 8 := Try.ntmps75
theorem ress_impl_alikeRounds : Try.f75.results = #[.tmp 2] := Try.results75
abbrev F_spec_l4Fold : FuncId := 76
instance can_spec_l4Fold : Callable Try.prog 76 := ⟨_, Try.func76, by kernel_rfl, by kernel_rfl⟩
theorem fun_spec_l4Fold : Try.prog.funcs[F_spec_l4Fold]? = some Try.f76 := Try.func76
theorem tmps_spec_l4Fold : Try.f76.ntmps = 100 := Try.ntmps76
theorem ress_spec_l4Fold : Try.f76.results = #[.cell 4 29] := Try.results76
abbrev F_laws_szMoveS : FuncId := 77
instance can_laws_szMoveS : Callable Try.prog 77 := ⟨_, Try.func77, by kernel_rfl, by kernel_rfl⟩
theorem fun_laws_szMoveS : Try.prog.funcs[F_laws_szMoveS]? = some Try.f77 := Try.func77
theorem tmps_laws_szMoveS : Try.f77.ntmps = 12 := Try.ntmps77
theorem ress_laws_szMoveS : Try.f77.results = #[.tmp 4] := Try.results77
abbrev F_laws_toMoveS : FuncId := 78
instance can_laws_toMoveS : Callable Try.prog 78 := ⟨_, Try.func78, by kernel_rfl, by kernel_rfl⟩
theorem fun_laws_toMoveS : Try.prog.funcs[F_laws_toMoveS]? = some Try.f78 := Try.func78
theorem tmps_laws_toMoveS : Try.f78.ntmps = 23 := Try.ntmps78
theorem ress_laws_toMoveS : Try.f78.results = #[.tmp 2] := Try.results78
abbrev F_cmp_Compare_int : FuncId := 79
instance can_cmp_Compare_int : Callable Try.prog 79 := ⟨_, Try.func79, by kernel_rfl, by kernel_rfl⟩
theorem fun_cmp_Compare_int : Try.prog.funcs[F_cmp_Compare_int]? = some Try.f79 := Try.func79
theorem tmps_cmp_Compare_int : Try.f79.ntmps = 20 := Try.ntmps79
theorem ress_cmp_Compare_int : Try.f79.results = #[.tmp 4] := Try.results79
abbrev F_laws_eqMoveS : FuncId := 80
instance can_laws_eqMoveS : Callable Try.prog 80 := ⟨_, Try.func80, by kernel_rfl, by kernel_rfl⟩
theorem fun_laws_eqMoveS : Try.prog.funcs[F_laws_eqMoveS]? = some Try.f80 := Try.func80
theorem tmps_laws_eqMoveS : Try.f80.ntmps = 27 := Try.ntmps80
theorem ress_laws_eqMoveS : Try.f80.results = #[.tmp 4] := Try.results80
abbrev F_laws_markMoveS : FuncId := 81
instance can_laws_markMoveS : Callable Try.prog 81 := ⟨_, Try.func81, by kernel_rfl, by kernel_rfl⟩
theorem fun_laws_markMoveS : Try.prog.funcs[F_laws_markMoveS]? = some Try.f81 := Try.func81
theorem tmps_laws_markMoveS : Try.f81.ntmps = 27 := Try.ntmps81
theorem ress_laws_markMoveS : Try.f81.results = #[.tmp 4] := Try.results81
abbrev F_laws_heldMoveS : FuncId := 82
instance can_laws_heldMoveS : Callable Try.prog 82 := ⟨_, Try.func82, by kernel_rfl, by kernel_rfl⟩
theorem fun_laws_heldMoveS : Try.prog.funcs[F_laws_heldMoveS]? = some Try.f82 := Try.func82
theorem tmps_laws_heldMoveS : Try.f82.ntmps = 31 := Try.ntmps82
theorem ress_laws_heldMoveS : Try.f82.results = #[.tmp 4] := Try.results82
abbrev F_impl_loops_1 : FuncId := 83
instance can_impl_loops_1 : Callable Try.prog 83 := ⟨_, Try.func83, by kernel_rfl, by kernel_rfl⟩
theorem fun_impl_loops_1 : Try.prog.funcs[F_impl_loops_1]? = some Try.f83 := Try.func83
theorem tmps_impl_loops_1 : Try.f83.ntmps = 14 := Try.ntmps83
theorem ress_impl_loops_1 : Try.f83.results = #[.tmp 3] := Try.results83
abbrev F_slices_IndexFunc_impl_Move_impl_Move : FuncId := 84
instance can_slices_IndexFunc_impl_Move_impl_Move : Callable Try.prog 84 := ⟨_, Try.func84, by kernel_rfl, by kernel_rfl⟩
theorem fun_slices_IndexFunc_impl_Move_impl_Move : Try.prog.funcs[F_slices_IndexFunc_impl_Move_impl_Move]? = some Try.f84 := Try.func84
theorem tmps_slices_IndexFunc_impl_Move_impl_Move : Try.f84.ntmps = 19 := Try.ntmps84
theorem ress_slices_IndexFunc_impl_Move_impl_Move : Try.f84.results = #[.tmp 4] := Try.results84
abbrev F_slices_pdqsortOrdered_int : FuncId := 85
instance can_slices_pdqsortOrdered_int : Callable Try.prog 85 := ⟨_, Try.func85, by kernel_rfl, by kernel_rfl⟩
theorem fun_slices_pdqsortOrdered_int : Try.prog.funcs[F_slices_pdqsortOrdered_int]? = some Try.f85 := Try.func85
theorem tmps_slices_pdqsortOrdered_int : Try.f85.ntmps = 134 := Try.ntmps85
theorem ress_slices_pdqsortOrdered_int : Try.f85.results = #[] := Try.results85
abbrev F_bits_Len : FuncId := 86
instance can_bits_Len : Callable Try.prog 86 := ⟨_, Try.func86, by kernel_rfl, by kernel_rfl⟩
theorem fun_bits_Len : Try.prog.funcs[F_bits_Len]? = some Try.f86 := Try.func86
theorem tmps_bits_Len : Try.f86.ntmps = 8 := Try.ntmps86
theorem ress_bits_Len : Try.f86.results = #[.tmp 2] := Try.results86
abbrev F_spec_l3Sorted : FuncId := 87
instance can_spec_l3Sorted : Callable Try.prog 87 := ⟨_, Try.func87, by kernel_rfl, by kernel_rfl⟩
theorem fun_spec_l3Sorted : Try.prog.funcs[F_spec_l3Sorted]? = some Try.f87 := Try.func87
theorem tmps_spec_l3Sorted : Try.f87.ntmps = 74 := Try.ntmps87
theorem ress_spec_l3Sorted : Try.f87.results = #[.tmp 2] := Try.results87
abbrev F_slices_SortFunc_impl_Move_impl_Move : FuncId := 88
instance can_slices_SortFunc_impl_Move_impl_Move : Callable Try.prog 88 := ⟨_, Try.func88, by kernel_rfl, by kernel_rfl⟩
theorem fun_slices_SortFunc_impl_Move_impl_Move : Try.prog.funcs[F_slices_SortFunc_impl_Move_impl_Move]? = some Try.f88 := Try.func88
theorem tmps_slices_SortFunc_impl_Move_impl_Move : Try.f88.ntmps = 14 := Try.ntmps88
theorem ress_slices_SortFunc_impl_Move_impl_Move : Try.f88.results = #[] := Try.results88
abbrev F_slices_Compact_impl_Move_impl_Move : FuncId := 89
instance can_slices_Compact_impl_Move_impl_Move : Callable Try.prog 89 := ⟨_, Try.func89, by kernel_rfl, by kernel_rfl⟩
theorem fun_slices_Compact_impl_Move_impl_Move : Try.prog.funcs[F_slices_Compact_impl_Move_impl_Move]? = some Try.f89 := Try.func89
theorem tmps_slices_Compact_impl_Move_impl_Move : Try.f89.ntmps = 61 := Try.ntmps89
theorem ress_slices_Compact_impl_Move_impl_Move : Try.f89.results = #[.tmp 2] := Try.results89
abbrev F_slices_Clone_int_int : FuncId := 90
instance can_slices_Clone_int_int : Callable Try.prog 90 := ⟨_, Try.func90, by kernel_rfl, by kernel_rfl⟩
theorem fun_slices_Clone_int_int : Try.prog.funcs[F_slices_Clone_int_int]? = some Try.f90 := Try.func90
theorem tmps_slices_Clone_int_int : Try.f90.ntmps = 8 := Try.ntmps90
theorem ress_slices_Clone_int_int : Try.f90.results = #[.tmp 2] := Try.results90
abbrev F_spec_l4Next : FuncId := 91
instance can_spec_l4Next : Callable Try.prog 91 := ⟨_, Try.func91, by kernel_rfl, by kernel_rfl⟩
theorem fun_spec_l4Next : Try.prog.funcs[F_spec_l4Next]? = some Try.f91 := Try.func91
theorem tmps_spec_l4Next : Try.f91.ntmps = 52 := Try.ntmps91
theorem ress_spec_l4Next : Try.f91.results = #[.tmp 4] := Try.results91
abbrev F_spec_l4Same : FuncId := 92
instance can_spec_l4Same : Callable Try.prog 92 := ⟨_, Try.func92, by kernel_rfl, by kernel_rfl⟩
theorem fun_spec_l4Same : Try.prog.funcs[F_spec_l4Same]? = some Try.f92 := Try.func92
theorem tmps_spec_l4Same : Try.f92.ntmps = 26 := Try.ntmps92
theorem ress_spec_l4Same : Try.f92.results = #[.tmp 4] := Try.results92
abbrev F_impl_rounds : FuncId := 93
instance can_impl_rounds : Callable Try.prog 93 := ⟨_, Try.func93, by kernel_rfl, by kernel_rfl⟩
theorem fun_impl_rounds : Try.prog.funcs[F_impl_rounds]? = some Try.f93 := Try.func93
theorem tmps_impl_rounds : Try.f93.ntmps = 28 := Try.ntmps93
theorem ress_impl_rounds : Try.f93.results = #[.tmp 4] := Try.results93
abbrev F_impl_alikeRounds_1 : FuncId := 94
instance can_impl_alikeRounds_1 : Callable Try.prog 94 := ⟨_, Try.func94, by kernel_rfl, by kernel_rfl⟩
theorem fun_impl_alikeRounds_1 : Try.prog.funcs[F_impl_alikeRounds_1]? = some Try.f94 := Try.func94
theorem tmps_impl_alikeRounds_1 : Try.f94.ntmps = 34 := Try.ntmps94
theorem ress_impl_alikeRounds_1 : Try.f94.results = #[.tmp 5] := Try.results94
abbrev F_laws_toMove : FuncId := 95
instance can_laws_toMove : Callable Try.prog 95 := ⟨_, Try.func95, by kernel_rfl, by kernel_rfl⟩
theorem fun_laws_toMove : Try.prog.funcs[F_laws_toMove]? = some Try.f95 := Try.func95
theorem tmps_laws_toMove : Try.f95.ntmps = 11 := Try.ntmps95
theorem ress_laws_toMove : Try.f95.results = #[.cell 2 58] := Try.results95
abbrev F_cmp_isNaN_int : FuncId := 96
instance can_cmp_isNaN_int : Callable Try.prog 96 := ⟨_, Try.func96, by kernel_rfl, by kernel_rfl⟩
theorem fun_cmp_isNaN_int : Try.prog.funcs[F_cmp_isNaN_int]? = some Try.f96 := Try.func96
theorem tmps_cmp_isNaN_int : Try.f96.ntmps = 6 := Try.ntmps96
theorem ress_cmp_isNaN_int : Try.f96.results = #[.tmp 2] := Try.results96
abbrev F_laws_eqMove : FuncId := 97
instance can_laws_eqMove : Callable Try.prog 97 := ⟨_, Try.func97, by kernel_rfl, by kernel_rfl⟩
theorem fun_laws_eqMove : Try.prog.funcs[F_laws_eqMove]? = some Try.f97 := Try.func97
theorem tmps_laws_eqMove : Try.f97.ntmps = 15 := Try.ntmps97
theorem ress_laws_eqMove : Try.f97.results = #[.tmp 4] := Try.results97
abbrev F_slices_insertionSortOrdered_int : FuncId := 98
instance can_slices_insertionSortOrdered_int : Callable Try.prog 98 := ⟨_, Try.func98, by kernel_rfl, by kernel_rfl⟩
theorem fun_slices_insertionSortOrdered_int : Try.prog.funcs[F_slices_insertionSortOrdered_int]? = some Try.f98 := Try.func98
theorem tmps_slices_insertionSortOrdered_int : Try.f98.ntmps = 49 := Try.ntmps98
theorem ress_slices_insertionSortOrdered_int : Try.f98.results = #[] := Try.results98
abbrev F_slices_heapSortOrdered_int : FuncId := 99
instance can_slices_heapSortOrdered_int : Callable Try.prog 99 := ⟨_, Try.func99, by kernel_rfl, by kernel_rfl⟩
theorem fun_slices_heapSortOrdered_int : Try.prog.funcs[F_slices_heapSortOrdered_int]? = some Try.f99 := Try.func99
theorem tmps_slices_heapSortOrdered_int : Try.f99.ntmps = 56 := Try.ntmps99
theorem ress_slices_heapSortOrdered_int : Try.f99.results = #[] := Try.results99
abbrev F_slices_breakPatternsOrdered_int : FuncId := 100
instance can_slices_breakPatternsOrdered_int : Callable Try.prog 100 := ⟨_, Try.func100, by kernel_rfl, by kernel_rfl⟩
theorem fun_slices_breakPatternsOrdered_int : Try.prog.funcs[F_slices_breakPatternsOrdered_int]? = some Try.f100 := Try.func100
theorem tmps_slices_breakPatternsOrdered_int : Try.f100.ntmps = 65 := Try.ntmps100
theorem ress_slices_breakPatternsOrdered_int : Try.f100.results = #[] := Try.results100
abbrev F_slices_choosePivotOrdered_int : FuncId := 101
instance can_slices_choosePivotOrdered_int : Callable Try.prog 101 := ⟨_, Try.func101, by kernel_rfl, by kernel_rfl⟩
theorem fun_slices_choosePivotOrdered_int : Try.prog.funcs[F_slices_choosePivotOrdered_int]? = some Try.f101 := Try.func101
theorem tmps_slices_choosePivotOrdered_int : Try.f101.ntmps = 57 := Try.ntmps101
theorem ress_slices_choosePivotOrdered_int : Try.f101.results = #[.tmp 6, .tmp 7] := Try.results101
abbrev F_slices_reverseRangeOrdered_int : FuncId := 102
instance can_slices_reverseRangeOrdered_int : Callable Try.prog 102 := ⟨_, Try.func102, by kernel_rfl, by kernel_rfl⟩
theorem fun_slices_reverseRangeOrdered_int : Try.prog.funcs[F_slices_reverseRangeOrdered_int]? = some Try.f102 := Try.func102
theorem tmps_slices_reverseRangeOrdered_int : Try.f102.ntmps = 32 := Try.ntmps102
theorem ress_slices_reverseRangeOrdered_int : Try.f102.results = #[] := Try.results102
abbrev F_slices_partialInsertionSortOrdered_int : FuncId := 103
instance can_slices_partialInsertionSortOrdered_int : Callable Try.prog 103 := ⟨_, Try.func103, by kernel_rfl, by kernel_rfl⟩
theorem fun_slices_partialInsertionSortOrdered_int : Try.prog.funcs[F_slices_partialInsertionSortOrdered_int]? = some Try.f103 := Try.func103
theorem tmps_slices_partialInsertionSortOrdered_int : Try.f103.ntmps = 133 := Try.ntmps103
theorem ress_slices_partialInsertionSortOrdered_int : Try.f103.results = #[.tmp 6] := Try.results103
abbrev F_cmp_Less_int : FuncId := 104
instance can_cmp_Less_int : Callable Try.prog 104 := ⟨_, Try.func104, by kernel_rfl, by kernel_rfl⟩
theorem fun_cmp_Less_int : Try.prog.funcs[F_cmp_Less_int]? = some Try.f104 := Try.func104
theorem tmps_cmp_Less_int : Try.f104.ntmps = 17 := Try.ntmps104
theorem ress_cmp_Less_int : Try.f104.results = #[.tmp 4] := Try.results104
abbrev F_slices_partitionEqualOrdered_int : FuncId := 105
instance can_slices_partitionEqualOrdered_int : Callable Try.prog 105 := ⟨_, Try.func105, by kernel_rfl, by kernel_rfl⟩
theorem fun_slices_partitionEqualOrdered_int : Try.prog.funcs[F_slices_partitionEqualOrdered_int]? = some Try.f105 := Try.func105
theorem tmps_slices_partitionEqualOrdered_int : Try.f105.ntmps = 84 := Try.ntmps105
theorem ress_slices_partitionEqualOrdered_int : Try.f105.results = #[.tmp 8] := Try.results105
abbrev F_slices_partitionOrdered_int : FuncId := 106
instance can_slices_partitionOrdered_int : Callable Try.prog 106 := ⟨_, Try.func106, by kernel_rfl, by kernel_rfl⟩
theorem fun_slices_partitionOrdered_int : Try.prog.funcs[F_slices_partitionOrdered_int]? = some Try.f106 := Try.func106
theorem tmps_slices_partitionOrdered_int : Try.f106.ntmps = 168 := Try.ntmps106
theorem ress_slices_partitionOrdered_int : Try.f106.results = #[.tmp 8, .tmp 9] := Try.results106
abbrev F_bits_Len32 : FuncId := 107
instance can_bits_Len32 : Callable Try.prog 107 := ⟨_, Try.func107, by kernel_rfl, by kernel_rfl⟩
theorem fun_bits_Len32 : Try.prog.funcs[F_bits_Len32]? = some Try.f107 := Try.func107
theorem tmps_bits_Len32 : Try.f107.ntmps = 19 := Try.ntmps107
theorem ress_bits_Len32 : Try.f107.results = #[.tmp 2] := Try.results107
abbrev F_bits_Len64 : FuncId := 108
instance can_bits_Len64 : Callable Try.prog 108 := ⟨_, Try.func108, by kernel_rfl, by kernel_rfl⟩
theorem fun_bits_Len64 : Try.prog.funcs[F_bits_Len64]? = some Try.f108 := Try.func108
theorem tmps_bits_Len64 : Try.f108.ntmps = 25 := Try.ntmps108
theorem ress_bits_Len64 : Try.f108.results = #[.tmp 2] := Try.results108
abbrev F_slices_pdqsortCmpFunc_impl_Move : FuncId := 109
instance can_slices_pdqsortCmpFunc_impl_Move : Callable Try.prog 109 := ⟨_, Try.func109, by kernel_rfl, by kernel_rfl⟩
theorem fun_slices_pdqsortCmpFunc_impl_Move : Try.prog.funcs[F_slices_pdqsortCmpFunc_impl_Move]? = some Try.f109 := Try.func109
theorem tmps_slices_pdqsortCmpFunc_impl_Move : Try.f109.ntmps = 148 := Try.ntmps109
theorem ress_slices_pdqsortCmpFunc_impl_Move : Try.f109.results = #[] := Try.results109
abbrev F_spec_l4Covers : FuncId := 110
instance can_spec_l4Covers : Callable Try.prog 110 := ⟨_, Try.func110, by kernel_rfl, by kernel_rfl⟩
theorem fun_spec_l4Covers : Try.prog.funcs[F_spec_l4Covers]? = some Try.f110 := Try.func110
theorem tmps_spec_l4Covers : Try.f110.ntmps = 41 := Try.ntmps110
theorem ress_spec_l4Covers : Try.f110.results = #[.tmp 8] := Try.results110
abbrev F_impl_refine : FuncId := 111
instance can_impl_refine : Callable Try.prog 111 := ⟨_, Try.func111, by kernel_rfl, by kernel_rfl⟩
theorem fun_impl_refine : Try.prog.funcs[F_impl_refine]? = some Try.f111 := Try.func111
theorem tmps_impl_refine : Try.f111.ntmps = 61 := Try.ntmps111
theorem ress_impl_refine : Try.f111.results = #[.tmp 4] := Try.results111
abbrev F_impl_rounds_1 : FuncId := 112
instance can_impl_rounds_1 : Callable Try.prog 112 := ⟨_, Try.func112, by kernel_rfl, by kernel_rfl⟩
theorem fun_impl_rounds_1 : Try.prog.funcs[F_impl_rounds_1]? = some Try.f112 := Try.func112
theorem tmps_impl_rounds_1 : Try.f112.ntmps = 9 := Try.ntmps112
theorem ress_impl_rounds_1 : Try.f112.results = #[.tmp 4] := Try.results112
abbrev F_slices_Equal_int_int : FuncId := 113
instance can_slices_Equal_int_int : Callable Try.prog 113 := ⟨_, Try.func113, by kernel_rfl, by kernel_rfl⟩
theorem fun_slices_Equal_int_int : Try.prog.funcs[F_slices_Equal_int_int]? = some Try.f113 := Try.func113
theorem tmps_slices_Equal_int_int : Try.f113.ntmps = 26 := Try.ntmps113
theorem ress_slices_Equal_int_int : Try.f113.results = #[.tmp 4] := Try.results113
abbrev F_slices_siftDownOrdered_int : FuncId := 114
instance can_slices_siftDownOrdered_int : Callable Try.prog 114 := ⟨_, Try.func114, by kernel_rfl, by kernel_rfl⟩
theorem fun_slices_siftDownOrdered_int : Try.prog.funcs[F_slices_siftDownOrdered_int]? = some Try.f114 := Try.func114
theorem tmps_slices_siftDownOrdered_int : Try.f114.ntmps = 76 := Try.ntmps114
theorem ress_slices_siftDownOrdered_int : Try.f114.results = #[] := Try.results114
abbrev F_slices_nextPowerOfTwo : FuncId := 115
instance can_slices_nextPowerOfTwo : Callable Try.prog 115 := ⟨_, Try.func115, by kernel_rfl, by kernel_rfl⟩
theorem fun_slices_nextPowerOfTwo : Try.prog.funcs[F_slices_nextPowerOfTwo]? = some Try.f115 := Try.func115
theorem tmps_slices_nextPowerOfTwo : Try.f115.ntmps = 7 := Try.ntmps115
theorem ress_slices_nextPowerOfTwo : Try.f115.results = #[.tmp 2] := Try.results115
abbrev F_slices_xorshift_Next : FuncId := 116
instance can_slices_xorshift_Next : Callable Try.prog 116 := ⟨_, Try.func116, by kernel_rfl, by kernel_rfl⟩
theorem fun_slices_xorshift_Next : Try.prog.funcs[F_slices_xorshift_Next]? = some Try.f116 := Try.func116
theorem tmps_slices_xorshift_Next : Try.f116.ntmps = 33 := Try.ntmps116
theorem ress_slices_xorshift_Next : Try.f116.results = #[.tmp 2] := Try.results116
abbrev F_slices_medianAdjacentOrdered_int : FuncId := 117
instance can_slices_medianAdjacentOrdered_int : Callable Try.prog 117 := ⟨_, Try.func117, by kernel_rfl, by kernel_rfl⟩
theorem fun_slices_medianAdjacentOrdered_int : Try.prog.funcs[F_slices_medianAdjacentOrdered_int]? = some Try.f117 := Try.func117
theorem tmps_slices_medianAdjacentOrdered_int : Try.f117.ntmps = 15 := Try.ntmps117
theorem ress_slices_medianAdjacentOrdered_int : Try.f117.results = #[.tmp 6] := Try.results117
abbrev F_slices_medianOrdered_int : FuncId := 118
instance can_slices_medianOrdered_int : Callable Try.prog 118 := ⟨_, Try.func118, by kernel_rfl, by kernel_rfl⟩
theorem fun_slices_medianOrdered_int : Try.prog.funcs[F_slices_medianOrdered_int]? = some Try.f118 := Try.func118
theorem tmps_slices_medianOrdered_int : Try.f118.ntmps = 36 := Try.ntmps118
theorem ress_slices_medianOrdered_int : Try.f118.results = #[.tmp 10] := Try.results118
abbrev F_slices_insertionSortCmpFunc_impl_Move : FuncId := 119
instance can_slices_insertionSortCmpFunc_impl_Move : Callable Try.prog 119 := ⟨_, Try.func119, by kernel_rfl, by kernel_rfl⟩
theorem fun_slices_insertionSortCmpFunc_impl_Move : Try.prog.funcs[F_slices_insertionSortCmpFunc_impl_Move]? = some Try.f119 := Try.func119
theorem tmps_slices_insertionSortCmpFunc_impl_Move : Try.f119.ntmps = 53 := Try.ntmps119
theorem ress_slices_insertionSortCmpFunc_impl_Move : Try.f119.results = #[] := Try.results119
abbrev F_slices_heapSortCmpFunc_impl_Move : FuncId := 120
instance can_slices_heapSortCmpFunc_impl_Move : Callable Try.prog 120 := ⟨_, Try.func120, by kernel_rfl, by kernel_rfl⟩
theorem fun_slices_heapSortCmpFunc_impl_Move : Try.prog.funcs[F_slices_heapSortCmpFunc_impl_Move]? = some Try.f120 := Try.func120
theorem tmps_slices_heapSortCmpFunc_impl_Move : Try.f120.ntmps = 60 := Try.ntmps120
theorem ress_slices_heapSortCmpFunc_impl_Move : Try.f120.results = #[] := Try.results120
abbrev F_slices_breakPatternsCmpFunc_impl_Move : FuncId := 121
instance can_slices_breakPatternsCmpFunc_impl_Move : Callable Try.prog 121 := ⟨_, Try.func121, by kernel_rfl, by kernel_rfl⟩
theorem fun_slices_breakPatternsCmpFunc_impl_Move : Try.prog.funcs[F_slices_breakPatternsCmpFunc_impl_Move]? = some Try.f121 := Try.func121
theorem tmps_slices_breakPatternsCmpFunc_impl_Move : Try.f121.ntmps = 67 := Try.ntmps121
theorem ress_slices_breakPatternsCmpFunc_impl_Move : Try.f121.results = #[] := Try.results121
abbrev F_slices_choosePivotCmpFunc_impl_Move : FuncId := 122
instance can_slices_choosePivotCmpFunc_impl_Move : Callable Try.prog 122 := ⟨_, Try.func122, by kernel_rfl, by kernel_rfl⟩
theorem fun_slices_choosePivotCmpFunc_impl_Move : Try.prog.funcs[F_slices_choosePivotCmpFunc_impl_Move]? = some Try.f122 := Try.func122
theorem tmps_slices_choosePivotCmpFunc_impl_Move : Try.f122.ntmps = 63 := Try.ntmps122
theorem ress_slices_choosePivotCmpFunc_impl_Move : Try.f122.results = #[.tmp 8, .tmp 9] := Try.results122
abbrev F_slices_reverseRangeCmpFunc_impl_Move : FuncId := 123
instance can_slices_reverseRangeCmpFunc_impl_Move : Callable Try.prog 123 := ⟨_, Try.func123, by kernel_rfl, by kernel_rfl⟩
theorem fun_slices_reverseRangeCmpFunc_impl_Move : Try.prog.funcs[F_slices_reverseRangeCmpFunc_impl_Move]? = some Try.f123 := Try.func123
theorem tmps_slices_reverseRangeCmpFunc_impl_Move : Try.f123.ntmps = 34 := Try.ntmps123
theorem ress_slices_reverseRangeCmpFunc_impl_Move : Try.f123.results = #[] := Try.results123
abbrev F_slices_partialInsertionSortCmpFunc_impl_Move : FuncId := 124
instance can_slices_partialInsertionSortCmpFunc_impl_Move : Callable Try.prog 124 := ⟨_, Try.func124, by kernel_rfl, by kernel_rfl⟩
theorem fun_slices_partialInsertionSortCmpFunc_impl_Move : Try.prog.funcs[F_slices_partialInsertionSortCmpFunc_impl_Move]? = some Try.f124 := Try.func124
theorem tmps_slices_partialInsertionSortCmpFunc_impl_Move : Try.f124.ntmps = 141 := Try.ntmps124
theorem ress_slices_partialInsertionSortCmpFunc_impl_Move : Try.f124.results = #[.tmp 8] := Try.results124
abbrev F_slices_partitionEqualCmpFunc_impl_Move : FuncId := 125
instance can_slices_partitionEqualCmpFunc_impl_Move : Callable Try.prog 125 := ⟨_, Try.func125, by kernel_rfl, by kernel_rfl⟩
theorem fun_slices_partitionEqualCmpFunc_impl_Move : Try.prog.funcs[F_slices_partitionEqualCmpFunc_impl_Move]? = some Try.f125 := Try.func125
theorem tmps_slices_partitionEqualCmpFunc_impl_Move : Try.f125.ntmps = 90 := Try.ntmps125
theorem ress_slices_partitionEqualCmpFunc_impl_Move : Try.f125.results = #[.tmp 10] := Try.results125
abbrev F_slices_partitionCmpFunc_impl_Move : FuncId := 126
instance can_slices_partitionCmpFunc_impl_Move : Callable Try.prog 126 := ⟨_, Try.func126, by kernel_rfl, by kernel_rfl⟩
theorem fun_slices_partitionCmpFunc_impl_Move : Try.prog.funcs[F_slices_partitionCmpFunc_impl_Move]? = some Try.f126 := Try.func126
theorem tmps_slices_partitionCmpFunc_impl_Move : Try.f126.ntmps = 178 := Try.ntmps126
theorem ress_slices_partitionCmpFunc_impl_Move : Try.f126.results = #[.tmp 10, .tmp 11] := Try.results126
abbrev F_spec_l4Has : FuncId := 127
instance can_spec_l4Has : Callable Try.prog 127 := ⟨_, Try.func127, by kernel_rfl, by kernel_rfl⟩
theorem fun_spec_l4Has : Try.prog.funcs[F_spec_l4Has]? = some Try.f127 := Try.func127
theorem tmps_spec_l4Has : Try.f127.ntmps = 44 := Try.ntmps127
theorem ress_spec_l4Has : Try.f127.results = #[.tmp 10] := Try.results127
abbrev F_slices_Equal_impl_Move_impl_Move : FuncId := 128
instance can_slices_Equal_impl_Move_impl_Move : Callable Try.prog 128 := ⟨_, Try.func128, by kernel_rfl, by kernel_rfl⟩
theorem fun_slices_Equal_impl_Move_impl_Move : Try.prog.funcs[F_slices_Equal_impl_Move_impl_Move]? = some Try.f128 := Try.func128
theorem tmps_slices_Equal_impl_Move_impl_Move : Try.f128.ntmps = 26 := Try.ntmps128
theorem ress_slices_Equal_impl_Move_impl_Move : Try.f128.results = #[.tmp 4] := Try.results128
abbrev F_slices_order2Ordered_int : FuncId := 129
instance can_slices_order2Ordered_int : Callable Try.prog 129 := ⟨_, Try.func129, by kernel_rfl, by kernel_rfl⟩
theorem fun_slices_order2Ordered_int : Try.prog.funcs[F_slices_order2Ordered_int]? = some Try.f129 := Try.func129
theorem tmps_slices_order2Ordered_int : Try.f129.ntmps = 28 := Try.ntmps129
theorem ress_slices_order2Ordered_int : Try.f129.results = #[.tmp 8, .tmp 9] := Try.results129
abbrev F_slices_siftDownCmpFunc_impl_Move : FuncId := 130
instance can_slices_siftDownCmpFunc_impl_Move : Callable Try.prog 130 := ⟨_, Try.func130, by kernel_rfl, by kernel_rfl⟩
theorem fun_slices_siftDownCmpFunc_impl_Move : Try.prog.funcs[F_slices_siftDownCmpFunc_impl_Move]? = some Try.f130 := Try.func130
theorem tmps_slices_siftDownCmpFunc_impl_Move : Try.f130.ntmps = 82 := Try.ntmps130
theorem ress_slices_siftDownCmpFunc_impl_Move : Try.f130.results = #[] := Try.results130
abbrev F_slices_medianAdjacentCmpFunc_impl_Move : FuncId := 131
instance can_slices_medianAdjacentCmpFunc_impl_Move : Callable Try.prog 131 := ⟨_, Try.func131, by kernel_rfl, by kernel_rfl⟩
theorem fun_slices_medianAdjacentCmpFunc_impl_Move : Try.prog.funcs[F_slices_medianAdjacentCmpFunc_impl_Move]? = some Try.f131 := Try.func131
theorem tmps_slices_medianAdjacentCmpFunc_impl_Move : Try.f131.ntmps = 18 := Try.ntmps131
theorem ress_slices_medianAdjacentCmpFunc_impl_Move : Try.f131.results = #[.tmp 8] := Try.results131
abbrev F_slices_medianCmpFunc_impl_Move : FuncId := 132
instance can_slices_medianCmpFunc_impl_Move : Callable Try.prog 132 := ⟨_, Try.func132, by kernel_rfl, by kernel_rfl⟩
theorem fun_slices_medianCmpFunc_impl_Move : Try.prog.funcs[F_slices_medianCmpFunc_impl_Move]? = some Try.f132 := Try.func132
theorem tmps_slices_medianCmpFunc_impl_Move : Try.f132.ntmps = 41 := Try.ntmps132
theorem ress_slices_medianCmpFunc_impl_Move : Try.f132.results = #[.tmp 12] := Try.results132
abbrev F_slices_order2CmpFunc_impl_Move : FuncId := 133
instance can_slices_order2CmpFunc_impl_Move : Callable Try.prog 133 := ⟨_, Try.func133, by kernel_rfl, by kernel_rfl⟩
theorem fun_slices_order2CmpFunc_impl_Move : Try.prog.funcs[F_slices_order2CmpFunc_impl_Move]? = some Try.f133 := Try.func133
theorem tmps_slices_order2CmpFunc_impl_Move : Try.f133.ntmps = 32 := Try.ntmps133
theorem ress_slices_order2CmpFunc_impl_Move : Try.f133.results = #[.tmp 10, .tmp 11] := Try.results133
theorem mixed_ : Try.prog.follows .mixedOrders = true := by kernel_rfl
end Go.Proofs.Ytemhpkfijoodkaa.Asl
