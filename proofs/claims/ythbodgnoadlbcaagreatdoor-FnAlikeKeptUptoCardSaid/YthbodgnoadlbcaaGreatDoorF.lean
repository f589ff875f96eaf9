/- Facts on the translation's types and functions, by name. Written by a program of this session. -/
import Derived.Test.YthbodgnoadlbcaaGreatDoorProg
import Derived.Test.YthbodgnoadlbcaaGreatDoorB6
namespace Go.Proofs.YthbodgnoadlbcaaGreatDoor.Asl
open Go.RowKit
set_option linter.unusedVariables false
abbrev T_func1 : TypeId := 1
instance ty_func1 : Ty Tryz.prog 1 false 1 8 (.nilFunc) := ⟨by kernel_rfl, by kernel_rfl⟩
abbrev T_int64 : TypeId := 2
instance ty_int64 : Ty Tryz.prog 2 false 1 8 (.int .i64 0) := ⟨by kernel_rfl, by kernel_rfl⟩
instance un_int64 : Un Tryz.prog 2 (.int .i64) := ⟨by kernel_rfl⟩
abbrev T_int : TypeId := 3
instance ty_int : Ty Tryz.prog 3 false 1 8 (.int .i64 0) := ⟨by kernel_rfl, by kernel_rfl⟩
instance un_int : Un Tryz.prog 3 (.int .i64) := ⟨by kernel_rfl⟩
abbrev T_bool : TypeId := 4
instance ty_bool : Ty Tryz.prog 4 false 1 1 (.bool false) := ⟨by kernel_rfl, by kernel_rfl⟩
instance un_bool : Un Tryz.prog 4 (.bool) := ⟨by kernel_rfl⟩
abbrev T_uint8 : TypeId := 5
instance ty_uint8 : Ty Tryz.prog 5 false 1 1 (.int .u8 0) := ⟨by kernel_rfl, by kernel_rfl⟩
instance un_uint8 : Un Tryz.prog 5 (.int .u8) := ⟨by kernel_rfl⟩
abbrev T_string : TypeId := 9
instance ty_string : Ty Tryz.prog 9 false 1 16 (.string ⟨#[]⟩) := ⟨by kernel_rfl, by kernel_rfl⟩
instance un_string : Un Tryz.prog 9 (.string) := ⟨by kernel_rfl⟩
abbrev T_int32 : TypeId := 21
instance ty_int32 : Ty Tryz.prog 21 false 1 4 (.int .i32 0) := ⟨by kernel_rfl, by kernel_rfl⟩
instance un_int32 : Un Tryz.prog 21 (.int .i32) := ⟨by kernel_rfl⟩
abbrev T_s_uint8 : TypeId := 22
instance ty_s_uint8 : Ty Tryz.prog 22 false 1 24 (.slice none 0 0) := ⟨by kernel_rfl, by kernel_rfl⟩
instance un_s_uint8 : Un Tryz.prog 22 (.slice 5) := ⟨by kernel_rfl⟩
abbrev T_s_impl_Term : TypeId := 23
instance ty_s_impl_Term : Ty Tryz.prog 23 false 1 24 (.slice none 0 0) := ⟨by kernel_rfl, by kernel_rfl⟩
instance un_s_impl_Term : Un Tryz.prog 23 (.slice 25) := ⟨by kernel_rfl⟩
abbrev T_impl_Term : TypeId := 25
instance ty_impl_Term : Ty Tryz.prog 25 true 3 40 (.agg #[(.int .i64 0), (.int .i64 0), (.slice none 0 0)]) := ⟨by kernel_rfl, by kernel_rfl⟩
abbrev T_func27 : TypeId := 27
instance ty_func27 : Ty Tryz.prog 27 false 1 8 (.nilFunc) := ⟨by kernel_rfl, by kernel_rfl⟩
abbrev T_s_s_impl_Move : TypeId := 28
instance ty_s_s_impl_Move : Ty Tryz.prog 28 false 1 24 (.slice none 0 0) := ⟨by kernel_rfl, by kernel_rfl⟩
instance un_s_s_impl_Move : Un Tryz.prog 28 (.slice 40) := ⟨by kernel_rfl⟩
abbrev T_impl_Graph : TypeId := 30
instance ty_impl_Graph : Ty Tryz.prog 30 true 1 24 (.agg #[(.slice none 0 0)]) := ⟨by kernel_rfl, by kernel_rfl⟩
abbrev T_func32 : TypeId := 32
instance ty_func32 : Ty Tryz.prog 32 false 1 8 (.nilFunc) := ⟨by kernel_rfl, by kernel_rfl⟩
abbrev T_func33 : TypeId := 33
instance ty_func33 : Ty Tryz.prog 33 false 1 8 (.nilFunc) := ⟨by kernel_rfl, by kernel_rfl⟩
abbrev T_s_impl_Step : TypeId := 34
instance ty_s_impl_Step : Ty Tryz.prog 34 false 1 24 (.slice none 0 0) := ⟨by kernel_rfl, by kernel_rfl⟩
instance un_s_impl_Step : Un Tryz.prog 34 (.slice 44) := ⟨by kernel_rfl⟩
abbrev T_func36 : TypeId := 36
instance ty_func36 : Ty Tryz.prog 36 false 1 8 (.nilFunc) := ⟨by kernel_rfl, by kernel_rfl⟩
abbrev T_func37 : TypeId := 37
instance ty_func37 : Ty Tryz.prog 37 false 1 8 (.nilFunc) := ⟨by kernel_rfl, by kernel_rfl⟩
abbrev T_s_int : TypeId := 38
instance ty_s_int : Ty Tryz.prog 38 false 1 24 (.slice none 0 0) := ⟨by kernel_rfl, by kernel_rfl⟩
instance un_s_int : Un Tryz.prog 38 (.slice 3) := ⟨by kernel_rfl⟩
abbrev T_func39 : TypeId := 39
instance ty_func39 : Ty Tryz.prog 39 false 1 8 (.nilFunc) := ⟨by kernel_rfl, by kernel_rfl⟩
abbrev T_s_impl_Move : TypeId := 40
instance ty_s_impl_Move : Ty Tryz.prog 40 false 1 24 (.slice none 0 0) := ⟨by kernel_rfl, by kernel_rfl⟩
instance un_s_impl_Move : Un Tryz.prog 40 (.slice 42) := ⟨by kernel_rfl⟩
abbrev T_impl_Move : TypeId := 42
instance ty_impl_Move : Ty Tryz.prog 42 true 2 16 (.agg #[(.int .i64 0), (.int .i64 0)]) := ⟨by kernel_rfl, by kernel_rfl⟩
abbrev T_impl_Step : TypeId := 44
instance ty_impl_Step : Ty Tryz.prog 44 true 4 48 (.agg #[(.int .i64 0), (.int .i64 0), (.int .i64 0), (.slice none 0 0)]) := ⟨by kernel_rfl, by kernel_rfl⟩
abbrev T_func45 : TypeId := 45
instance ty_func45 : Ty Tryz.prog 45 false 1 8 (.nilFunc) := ⟨by kernel_rfl, by kernel_rfl⟩
abbrev T_s_laws_Term : TypeId := 46
instance ty_s_laws_Term : Ty Tryz.prog 46 false 1 24 (.slice none 0 0) := ⟨by kernel_rfl, by kernel_rfl⟩
instance un_s_laws_Term : Un Tryz.prog 46 (.slice 48) := ⟨by kernel_rfl⟩
abbrev T_laws_Term : TypeId := 48
instance ty_laws_Term : Ty Tryz.prog 48 true 3 40 (.agg #[(.int .i64 0), (.int .i64 0), (.slice none 0 0)]) := ⟨by kernel_rfl, by kernel_rfl⟩
abbrev T_func49 : TypeId := 49
instance ty_func49 : Ty Tryz.prog 49 false 1 8 (.nilFunc) := ⟨by kernel_rfl, by kernel_rfl⟩
abbrev T_func50 : TypeId := 50
instance ty_func50 : Ty Tryz.prog 50 false 1 8 (.nilFunc) := ⟨by kernel_rfl, by kernel_rfl⟩
abbrev T_func52 : TypeId := 52
instance ty_func52 : Ty Tryz.prog 52 false 1 8 (.nilFunc) := ⟨by kernel_rfl, by kernel_rfl⟩
abbrev T_func53 : TypeId := 53
instance ty_func53 : Ty Tryz.prog 53 false 1 8 (.nilFunc) := ⟨by kernel_rfl, by kernel_rfl⟩
abbrev T_func54 : TypeId := 54
instance ty_func54 : Ty Tryz.prog 54 false 1 8 (.nilFunc) := ⟨by kernel_rfl, by kernel_rfl⟩
abbrev T_func55 : TypeId := 55
instance ty_func55 : Ty Tryz.prog 55 false 1 8 (.nilFunc) := ⟨by kernel_rfl, by kernel_rfl⟩
abbrev T_func56 : TypeId := 56
instance ty_func56 : Ty Tryz.prog 56 false 1 8 (.nilFunc) := ⟨by kernel_rfl, by kernel_rfl⟩
abbrev T_func57 : TypeId := 57
instance ty_func57 : Ty Tryz.prog 57 false 1 8 (.nilFunc) := ⟨by kernel_rfl, by kernel_rfl⟩
abbrev T_func59 : TypeId := 59
instance ty_func59 : Ty Tryz.prog 59 false 1 8 (.nilFunc) := ⟨by kernel_rfl, by kernel_rfl⟩
abbrev T_func60 : TypeId := 60
instance ty_func60 : Ty Tryz.prog 60 false 1 8 (.nilFunc) := ⟨by kernel_rfl, by kernel_rfl⟩
abbrev T_s_s_impl_Term : TypeId := 61
instance ty_s_s_impl_Term : Ty Tryz.prog 61 false 1 24 (.slice none 0 0) := ⟨by kernel_rfl, by kernel_rfl⟩
instance un_s_s_impl_Term : Un Tryz.prog 61 (.slice 23) := ⟨by kernel_rfl⟩
abbrev T_p_spec_l6Rd : TypeId := 62
instance ty_p_spec_l6Rd : Ty Tryz.prog 62 false 1 8 (.pointer none) := ⟨by kernel_rfl, by kernel_rfl⟩
instance un_p_spec_l6Rd : Un Tryz.prog 62 (.pointer 82) := ⟨by kernel_rfl⟩
abbrev T_func63 : TypeId := 63
instance ty_func63 : Ty Tryz.prog 63 false 1 8 (.nilFunc) := ⟨by kernel_rfl, by kernel_rfl⟩
abbrev T_func64 : TypeId := 64
instance ty_func64 : Ty Tryz.prog 64 false 1 8 (.nilFunc) := ⟨by kernel_rfl, by kernel_rfl⟩
abbrev T_func65 : TypeId := 65
instance ty_func65 : Ty Tryz.prog 65 false 1 8 (.nilFunc) := ⟨by kernel_rfl, by kernel_rfl⟩
abbrev T_func66 : TypeId := 66
instance ty_func66 : Ty Tryz.prog 66 false 1 8 (.nilFunc) := ⟨by kernel_rfl, by kernel_rfl⟩
abbrev T_func67 : TypeId := 67
instance ty_func67 : Ty Tryz.prog 67 false 1 8 (.nilFunc) := ⟨by kernel_rfl, by kernel_rfl⟩
abbrev T_func68 : TypeId := 68
instance ty_func68 : Ty Tryz.prog 68 false 1 8 (.nilFunc) := ⟨by kernel_rfl, by kernel_rfl⟩
abbrev T_func69 : TypeId := 69
instance ty_func69 : Ty Tryz.prog 69 false 1 8 (.nilFunc) := ⟨by kernel_rfl, by kernel_rfl⟩
abbrev T_func70 : TypeId := 70
instance ty_func70 : Ty Tryz.prog 70 false 1 8 (.nilFunc) := ⟨by kernel_rfl, by kernel_rfl⟩
abbrev T_func71 : TypeId := 71
instance ty_func71 : Ty Tryz.prog 71 false 1 8 (.nilFunc) := ⟨by kernel_rfl, by kernel_rfl⟩
abbrev T_func72 : TypeId := 72
instance ty_func72 : Ty Tryz.prog 72 false 1 8 (.nilFunc) := ⟨by kernel_rfl, by kernel_rfl⟩
abbrev T_func73 : TypeId := 73
instance ty_func73 : Ty Tryz.prog 73 false 1 8 (.nilFunc) := ⟨by kernel_rfl, by kernel_rfl⟩
abbrev T_func74 : TypeId := 74
instance ty_func74 : Ty Tryz.prog 74 false 1 8 (.nilFunc) := ⟨by kernel_rfl, by kernel_rfl⟩
abbrev T_func75 : TypeId := 75
instance ty_func75 : Ty Tryz.prog 75 false 1 8 (.nilFunc) := ⟨by kernel_rfl, by kernel_rfl⟩
abbrev T_func76 : TypeId := 76
instance ty_func76 : Ty Tryz.prog 76 false 1 8 (.nilFunc) := ⟨by kernel_rfl, by kernel_rfl⟩
abbrev T_func77 : TypeId := 77
instance ty_func77 : Ty Tryz.prog 77 false 1 8 (.nilFunc) := ⟨by kernel_rfl, by kernel_rfl⟩
abbrev T_func79 : TypeId := 79
instance ty_func79 : Ty Tryz.prog 79 false 1 8 (.nilFunc) := ⟨by kernel_rfl, by kernel_rfl⟩
abbrev T_func80 : TypeId := 80
instance ty_func80 : Ty Tryz.prog 80 false 1 8 (.nilFunc) := ⟨by kernel_rfl, by kernel_rfl⟩
abbrev T_spec_l6Rd : TypeId := 82
instance ty_spec_l6Rd : Ty Tryz.prog 82 true 2 32 (.agg #[(.slice none 0 0), (.int .i64 0)]) := ⟨by kernel_rfl, by kernel_rfl⟩
abbrev T_func83 : TypeId := 83
instance ty_func83 : Ty Tryz.prog 83 false 1 8 (.nilFunc) := ⟨by kernel_rfl, by kernel_rfl⟩
abbrev T_func84 : TypeId := 84
instance ty_func84 : Ty Tryz.prog 84 false 1 8 (.nilFunc) := ⟨by kernel_rfl, by kernel_rfl⟩
abbrev T_func85 : TypeId := 85
instance ty_func85 : Ty Tryz.prog 85 false 1 8 (.nilFunc) := ⟨by kernel_rfl, by kernel_rfl⟩
abbrev T_func86 : TypeId := 86
instance ty_func86 : Ty Tryz.prog 86 false 1 8 (.nilFunc) := ⟨by kernel_rfl, by kernel_rfl⟩
abbrev T_func87 : TypeId := 87
instance ty_func87 : Ty Tryz.prog 87 false 1 8 (.nilFunc) := ⟨by kernel_rfl, by kernel_rfl⟩
abbrev T_m_string_int : TypeId := 88
instance ty_m_string_int : Ty Tryz.prog 88 false 1 8 (.map none) := ⟨by kernel_rfl, by kernel_rfl⟩
instance un_m_string_int : Un Tryz.prog 88 (.map 9 3) := ⟨by kernel_rfl⟩
abbrev T_func91 : TypeId := 91
instance ty_func91 : Ty Tryz.prog 91 false 1 8 (.nilFunc) := ⟨by kernel_rfl, by kernel_rfl⟩
abbrev T_func92 : TypeId := 92
instance ty_func92 : Ty Tryz.prog 92 false 1 8 (.nilFunc) := ⟨by kernel_rfl, by kernel_rfl⟩
abbrev T_func93 : TypeId := 93
instance ty_func93 : Ty Tryz.prog 93 false 1 8 (.nilFunc) := ⟨by kernel_rfl, by kernel_rfl⟩
abbrev T_func94 : TypeId := 94
instance ty_func94 : Ty Tryz.prog 94 false 1 8 (.nilFunc) := ⟨by kernel_rfl, by kernel_rfl⟩
abbrev T_s_string : TypeId := 95
instance ty_s_string : Ty Tryz.prog 95 false 1 24 (.slice none 0 0) := ⟨by kernel_rfl, by kernel_rfl⟩
instance un_s_string : Un Tryz.prog 95 (.slice 9) := ⟨by kernel_rfl⟩
abbrev T_func96 : TypeId := 96
instance ty_func96 : Ty Tryz.prog 96 false 1 8 (.nilFunc) := ⟨by kernel_rfl, by kernel_rfl⟩
abbrev T_func97 : TypeId := 97
instance ty_func97 : Ty Tryz.prog 97 false 1 8 (.nilFunc) := ⟨by kernel_rfl, by kernel_rfl⟩
abbrev T_m_int_bool : TypeId := 98
instance ty_m_int_bool : Ty Tryz.prog 98 false 1 8 (.map none) := ⟨by kernel_rfl, by kernel_rfl⟩
instance un_m_int_bool : Un Tryz.prog 98 (.map 3 4) := ⟨by kernel_rfl⟩
abbrev T_func99 : TypeId := 99
instance ty_func99 : Ty Tryz.prog 99 false 1 8 (.nilFunc) := ⟨by kernel_rfl, by kernel_rfl⟩
abbrev T_func100 : TypeId := 100
instance ty_func100 : Ty Tryz.prog 100 false 1 8 (.nilFunc) := ⟨by kernel_rfl, by kernel_rfl⟩
abbrev T_uint : TypeId := 101
instance ty_uint : Ty Tryz.prog 101 false 1 8 (.int .u64 0) := ⟨by kernel_rfl, by kernel_rfl⟩
instance un_uint : Un Tryz.prog 101 (.int .u64) := ⟨by kernel_rfl⟩
abbrev T_func102 : TypeId := 102
instance ty_func102 : Ty Tryz.prog 102 false 1 8 (.nilFunc) := ⟨by kernel_rfl, by kernel_rfl⟩
abbrev T_s_s_int : TypeId := 103
instance ty_s_s_int : Ty Tryz.prog 103 false 1 24 (.slice none 0 0) := ⟨by kernel_rfl, by kernel_rfl⟩
instance un_s_s_int : Un Tryz.prog 103 (.slice 38) := ⟨by kernel_rfl⟩
abbrev T_func104 : TypeId := 104
instance ty_func104 : Ty Tryz.prog 104 false 1 8 (.nilFunc) := ⟨by kernel_rfl, by kernel_rfl⟩
abbrev T_func105 : TypeId := 105
instance ty_func105 : Ty Tryz.prog 105 false 1 8 (.nilFunc) := ⟨by kernel_rfl, by kernel_rfl⟩
abbrev T_func106 : TypeId := 106
instance ty_func106 : Ty Tryz.prog 106 false 1 8 (.nilFunc) := ⟨by kernel_rfl, by kernel_rfl⟩
abbrev T_func107 : TypeId := 107
instance ty_func107 : Ty Tryz.prog 107 false 1 8 (.nilFunc) := ⟨by kernel_rfl, by kernel_rfl⟩
abbrev T_func108 : TypeId := 108
instance ty_func108 : Ty Tryz.prog 108 false 1 8 (.nilFunc) := ⟨by kernel_rfl, by kernel_rfl⟩
abbrev T_func109 : TypeId := 109
instance ty_func109 : Ty Tryz.prog 109 false 1 8 (.nilFunc) := ⟨by kernel_rfl, by kernel_rfl⟩
abbrev T_func110 : TypeId := 110
instance ty_func110 : Ty Tryz.prog 110 false 1 8 (.nilFunc) := ⟨by kernel_rfl, by kernel_rfl⟩
abbrev T_func111 : TypeId := 111
instance ty_func111 : Ty Tryz.prog 111 false 1 8 (.nilFunc) := ⟨by kernel_rfl, by kernel_rfl⟩
abbrev T_func112 : TypeId := 112
instance ty_func112 : Ty Tryz.prog 112 false 1 8 (.nilFunc) := ⟨by kernel_rfl, by kernel_rfl⟩
abbrev T_func113 : TypeId := 113
instance ty_func113 : Ty Tryz.prog 113 false 1 8 (.nilFunc) := ⟨by kernel_rfl, by kernel_rfl⟩
abbrev T_func114 : TypeId := 114
instance ty_func114 : Ty Tryz.prog 114 false 1 8 (.nilFunc) := ⟨by kernel_rfl, by kernel_rfl⟩
abbrev T_slices_sortedHint : TypeId := 115
instance ty_slices_sortedHint : Ty Tryz.prog 115 false 1 8 (.int .i64 0) := ⟨by kernel_rfl, by kernel_rfl⟩
instance un_slices_sortedHint : Un Tryz.prog 115 (.int .i64) := ⟨by kernel_rfl⟩
abbrev T_func117 : TypeId := 117
instance ty_func117 : Ty Tryz.prog 117 false 1 8 (.nilFunc) := ⟨by kernel_rfl, by kernel_rfl⟩
abbrev T_func118 : TypeId := 118
instance ty_func118 : Ty Tryz.prog 118 false 1 8 (.nilFunc) := ⟨by kernel_rfl, by kernel_rfl⟩
abbrev T_func119 : TypeId := 119
instance ty_func119 : Ty Tryz.prog 119 false 1 8 (.nilFunc) := ⟨by kernel_rfl, by kernel_rfl⟩
abbrev T_func120 : TypeId := 120
instance ty_func120 : Ty Tryz.prog 120 false 1 8 (.nilFunc) := ⟨by kernel_rfl, by kernel_rfl⟩
abbrev T_func121 : TypeId := 121
instance ty_func121 : Ty Tryz.prog 121 false 1 8 (.nilFunc) := ⟨by kernel_rfl, by kernel_rfl⟩
abbrev T_func122 : TypeId := 122
instance ty_func122 : Ty Tryz.prog 122 false 1 8 (.nilFunc) := ⟨by kernel_rfl, by kernel_rfl⟩
abbrev T_uint32 : TypeId := 123
instance ty_uint32 : Ty Tryz.prog 123 false 1 4 (.int .u32 0) := ⟨by kernel_rfl, by kernel_rfl⟩
instance un_uint32 : Un Tryz.prog 123 (.int .u32) := ⟨by kernel_rfl⟩
abbrev T_func124 : TypeId := 124
instance ty_func124 : Ty Tryz.prog 124 false 1 8 (.nilFunc) := ⟨by kernel_rfl, by kernel_rfl⟩
abbrev T_uint64 : TypeId := 125
instance ty_uint64 : Ty Tryz.prog 125 false 1 8 (.int .u64 0) := ⟨by kernel_rfl, by kernel_rfl⟩
instance un_uint64 : Un Tryz.prog 125 (.int .u64) := ⟨by kernel_rfl⟩
abbrev T_func126 : TypeId := 126
instance ty_func126 : Ty Tryz.prog 126 false 1 8 (.nilFunc) := ⟨by kernel_rfl, by kernel_rfl⟩
abbrev T_func127 : TypeId := 127
instance ty_func127 : Ty Tryz.prog 127 false 1 8 (.nilFunc) := ⟨by kernel_rfl, by kernel_rfl⟩
abbrev T_func128 : TypeId := 128
instance ty_func128 : Ty Tryz.prog 128 false 1 8 (.nilFunc) := ⟨by kernel_rfl, by kernel_rfl⟩
abbrev T_func129 : TypeId := 129
instance ty_func129 : Ty Tryz.prog 129 false 1 8 (.nilFunc) := ⟨by kernel_rfl, by kernel_rfl⟩
abbrev T_func130 : TypeId := 130
instance ty_func130 : Ty Tryz.prog 130 false 1 8 (.nilFunc) := ⟨by kernel_rfl, by kernel_rfl⟩
abbrev T_func131 : TypeId := 131
instance ty_func131 : Ty Tryz.prog 131 false 1 8 (.nilFunc) := ⟨by kernel_rfl, by kernel_rfl⟩
abbrev T_func132 : TypeId := 132
instance ty_func132 : Ty Tryz.prog 132 false 1 8 (.nilFunc) := ⟨by kernel_rfl, by kernel_rfl⟩
abbrev T_func133 : TypeId := 133
instance ty_func133 : Ty Tryz.prog 133 false 1 8 (.nilFunc) := ⟨by kernel_rfl, by kernel_rfl⟩
abbrev T_slices_xorshift : TypeId := 134
instance ty_slices_xorshift : Ty Tryz.prog 134 false 1 8 (.int .u64 0) := ⟨by kernel_rfl, by kernel_rfl⟩
instance un_slices_xorshift : Un Tryz.prog 134 (.int .u64) := ⟨by kernel_rfl⟩
abbrev T_func135 : TypeId := 135
instance ty_func135 : Ty Tryz.prog 135 false 1 8 (.nilFunc) := ⟨by kernel_rfl, by kernel_rfl⟩
abbrev T_func136 : TypeId := 136
instance ty_func136 : Ty Tryz.prog 136 false 1 8 (.nilFunc) := ⟨by kernel_rfl, by kernel_rfl⟩
abbrev T_func137 : TypeId := 137
instance ty_func137 : Ty Tryz.prog 137 false 1 8 (.nilFunc) := ⟨by kernel_rfl, by kernel_rfl⟩
abbrev T_p_int : TypeId := 138
instance ty_p_int : Ty Tryz.prog 138 false 1 8 (.pointer none) := ⟨by kernel_rfl, by kernel_rfl⟩
instance un_p_int : Un Tryz.prog 138 (.pointer 3) := ⟨by kernel_rfl⟩
abbrev T_func139 : TypeId := 139
instance ty_func139 : Ty Tryz.prog 139 false 1 8 (.nilFunc) := ⟨by kernel_rfl, by kernel_rfl⟩
abbrev T_func140 : TypeId := 140
instance ty_func140 : Ty Tryz.prog 140 false 1 8 (.nilFunc) := ⟨by kernel_rfl, by kernel_rfl⟩
abbrev T_func141 : TypeId := 141
instance ty_func141 : Ty Tryz.prog 141 false 1 8 (.nilFunc) := ⟨by kernel_rfl, by kernel_rfl⟩
abbrev T_func142 : TypeId := 142
instance ty_func142 : Ty Tryz.prog 142 false 1 8 (.nilFunc) := ⟨by kernel_rfl, by kernel_rfl⟩
abbrev T_func143 : TypeId := 143
instance ty_func143 : Ty Tryz.prog 143 false 1 8 (.nilFunc) := ⟨by kernel_rfl, by kernel_rfl⟩
abbrev T_func144 : TypeId := 144
instance ty_func144 : Ty Tryz.prog 144 false 1 8 (.nilFunc) := ⟨by kernel_rfl, by kernel_rfl⟩
abbrev T_func145 : TypeId := 145
instance ty_func145 : Ty Tryz.prog 145 false 1 8 (.nilFunc) := ⟨by kernel_rfl, by kernel_rfl⟩
abbrev T_func146 : TypeId := 146
instance ty_func146 : Ty Tryz.prog 146 false 1 8 (.nilFunc) := ⟨by kernel_rfl, by kernel_rfl⟩
abbrev T_func147 : TypeId := 147
instance ty_func147 : Ty Tryz.prog 147 false 1 8 (.nilFunc) := ⟨by kernel_rfl, by kernel_rfl⟩
abbrev T_a24_uint8 : TypeId := 148
instance ty_a24_uint8 : Ty Tryz.prog 148 true 24 24 (.agg #[(.int .u8 0), (.int .u8 0), (.int .u8 0), (.int .u8 0), (.int .u8 0), (.int .u8 0), (.int .u8 0), (.int .u8 0), (.int .u8 0), (.int .u8 0), (.int .u8 0), (.int .u8 0), (.int .u8 0), (.int .u8 0), (.int .u8 0), (.int .u8 0), (.int .u8 0), (.int .u8 0), (.int .u8 0), (.int .u8 0), (.int .u8 0), (.int .u8 0), (.int .u8 0), (.int .u8 0)]) := ⟨by kernel_rfl, by kernel_rfl⟩
instance un_a24_uint8 : Un Tryz.prog 148 (.array 24 5) := ⟨by kernel_rfl⟩
abbrev T_func149 : TypeId := 149
instance ty_func149 : Ty Tryz.prog 149 false 1 8 (.nilFunc) := ⟨by kernel_rfl, by kernel_rfl⟩
abbrev T_func151 : TypeId := 151
instance ty_func151 : Ty Tryz.prog 151 false 1 8 (.nilFunc) := ⟨by kernel_rfl, by kernel_rfl⟩
abbrev T_p_slices_xorshift : TypeId := 152
instance ty_p_slices_xorshift : Ty Tryz.prog 152 false 1 8 (.pointer none) := ⟨by kernel_rfl, by kernel_rfl⟩
instance un_p_slices_xorshift : Un Tryz.prog 152 (.pointer 134) := ⟨by kernel_rfl⟩
abbrev T_func154 : TypeId := 154
instance ty_func154 : Ty Tryz.prog 154 false 1 8 (.nilFunc) := ⟨by kernel_rfl, by kernel_rfl⟩
abbrev T_func155 : TypeId := 155
instance ty_func155 : Ty Tryz.prog 155 false 1 8 (.nilFunc) := ⟨by kernel_rfl, by kernel_rfl⟩
abbrev T_func156 : TypeId := 156
instance ty_func156 : Ty Tryz.prog 156 false 1 8 (.nilFunc) := ⟨by kernel_rfl, by kernel_rfl⟩
abbrev T_func157 : TypeId := 157
instance ty_func157 : Ty Tryz.prog 157 false 1 8 (.nilFunc) := ⟨by kernel_rfl, by kernel_rfl⟩
abbrev T_func158 : TypeId := 158
instance ty_func158 : Ty Tryz.prog 158 false 1 8 (.nilFunc) := ⟨by kernel_rfl, by kernel_rfl⟩
abbrev T_func159 : TypeId := 159
instance ty_func159 : Ty Tryz.prog 159 false 1 8 (.nilFunc) := ⟨by kernel_rfl, by kernel_rfl⟩
abbrev T_a20_uint64 : TypeId := 160
instance ty_a20_uint64 : Ty Tryz.prog 160 true 20 160 (.agg #[(.int .u64 0), (.int .u64 0), (.int .u64 0), (.int .u64 0), (.int .u64 0), (.int .u64 0), (.int .u64 0), (.int .u64 0), (.int .u64 0), (.int .u64 0), (.int .u64 0), (.int .u64 0), (.int .u64 0), (.int .u64 0), (.int .u64 0), (.int .u64 0), (.int .u64 0), (.int .u64 0), (.int .u64 0), (.int .u64 0)]) := ⟨by kernel_rfl, by kernel_rfl⟩
instance un_a20_uint64 : Un Tryz.prog 160 (.array 20 125) := ⟨by kernel_rfl⟩
abbrev T_a65_uint8 : TypeId := 161
instance ty_a65_uint8 : Ty Tryz.prog 161 true 65 65 (.agg #[(.int .u8 0), (.int .u8 0), (.int .u8 0), (.int .u8 0), (.int .u8 0), (.int .u8 0), (.int .u8 0), (.int .u8 0), (.int .u8 0), (.int .u8 0), (.int .u8 0), (.int .u8 0), (.int .u8 0), (.int .u8 0), (.int .u8 0), (.int .u8 0), (.int .u8 0), (.int .u8 0), (.int .u8 0), (.int .u8 0), (.int .u8 0), (.int .u8 0), (.int .u8 0), (.int .u8 0), (.int .u8 0), (.int .u8 0), (.int .u8 0), (.int .u8 0), (.int .u8 0), (.int .u8 0), (.int .u8 0), (.int .u8 0), (.int .u8 0), (.int .u8 0), (.int .u8 0), (.int .u8 0), (.int .u8 0), (.int .u8 0), (.int .u8 0), (.int .u8 0), (.int .u8 0), (.int .u8 0), (.int .u8 0), (.int .u8 0), (.int .u8 0), (.int .u8 0), (.int .u8 0), (.int .u8 0), (.int .u8 0), (.int .u8 0), (.int .u8 0), (.int .u8 0), (.int .u8 0), (.int .u8 0), (.int .u8 0), (.int .u8 0), (.int .u8 0), (.int .u8 0), (.int .u8 0), (.int .u8 0), (.int .u8 0), (.int .u8 0), (.int .u8 0), (.int .u8 0), (.int .u8 0)]) := ⟨by kernel_rfl, by kernel_rfl⟩
instance un_a65_uint8 : Un Tryz.prog 161 (.array 65 5) := ⟨by kernel_rfl⟩
abbrev T_func162 : TypeId := 162
instance ty_func162 : Ty Tryz.prog 162 false 1 8 (.nilFunc) := ⟨by kernel_rfl, by kernel_rfl⟩
abbrev T_a32_uint8 : TypeId := 163
instance ty_a32_uint8 : Ty Tryz.prog 163 true 32 32 (.agg #[(.int .u8 0), (.int .u8 0), (.int .u8 0), (.int .u8 0), (.int .u8 0), (.int .u8 0), (.int .u8 0), (.int .u8 0), (.int .u8 0), (.int .u8 0), (.int .u8 0), (.int .u8 0), (.int .u8 0), (.int .u8 0), (.int .u8 0), (.int .u8 0), (.int .u8 0), (.int .u8 0), (.int .u8 0), (.int .u8 0), (.int .u8 0), (.int .u8 0), (.int .u8 0), (.int .u8 0), (.int .u8 0), (.int .u8 0), (.int .u8 0), (.int .u8 0), (.int .u8 0), (.int .u8 0), (.int .u8 0), (.int .u8 0)]) := ⟨by kernel_rfl, by kernel_rfl⟩
instance un_a32_uint8 : Un Tryz.prog 163 (.array 32 5) := ⟨by kernel_rfl⟩
abbrev T_a64_uint8 : TypeId := 164
instance ty_a64_uint8 : Ty Tryz.prog 164 true 64 64 (.agg #[(.int .u8 0), (.int .u8 0), (.int .u8 0), (.int .u8 0), (.int .u8 0), (.int .u8 0), (.int .u8 0), (.int .u8 0), (.int .u8 0), (.int .u8 0), (.int .u8 0), (.int .u8 0), (.int .u8 0), (.int .u8 0), (.int .u8 0), (.int .u8 0), (.int .u8 0), (.int .u8 0), (.int .u8 0), (.int .u8 0), (.int .u8 0), (.int .u8 0), (.int .u8 0), (.int .u8 0), (.int .u8 0), (.int .u8 0), (.int .u8 0), (.int .u8 0), (.int .u8 0), (.int .u8 0), (.int .u8 0), (.int .u8 0), (.int .u8 0), (.int .u8 0), (.int .u8 0), (.int .u8 0), (.int .u8 0), (.int .u8 0), (.int .u8 0), (.int .u8 0), (.int .u8 0), (.int .u8 0), (.int .u8 0), (.int .u8 0), (.int .u8 0), (.int .u8 0), (.int .u8 0), (.int .u8 0), (.int .u8 0), (.int .u8 0), (.int .u8 0), (.int .u8 0), (.int .u8 0), (.int .u8 0), (.int .u8 0), (.int .u8 0), (.int .u8 0), (.int .u8 0), (.int .u8 0), (.int .u8 0), (.int .u8 0), (.int .u8 0), (.int .u8 0), (.int .u8 0)]) := ⟨by kernel_rfl, by kernel_rfl⟩
instance un_a64_uint8 : Un Tryz.prog 164 (.array 64 5) := ⟨by kernel_rfl⟩
abbrev T_func165 : TypeId := 165
instance ty_func165 : Ty Tryz.prog 165 false 1 8 (.nilFunc) := ⟨by kernel_rfl, by kernel_rfl⟩
abbrev T_func171 : TypeId := 171
instance ty_func171 : Ty Tryz.prog 171 false 1 8 (.nilFunc) := ⟨by kernel_rfl, by kernel_rfl⟩
abbrev T_func174 : TypeId := 174
instance ty_func174 : Ty Tryz.prog 174 false 1 8 (.nilFunc) := ⟨by kernel_rfl, by kernel_rfl⟩
abbrev T_p_uint8 : TypeId := 175
instance ty_p_uint8 : Ty Tryz.prog 175 false 1 8 (.pointer none) := ⟨by kernel_rfl, by kernel_rfl⟩
instance un_p_uint8 : Un Tryz.prog 175 (.pointer 5) := ⟨by kernel_rfl⟩


instance fld_impl_Term_0 : FieldAt Tryz.prog 25 0 0 := ⟨_, _, Tryz.underlying25, rfl, rfl, _, _, _, _, ty_int, by decide⟩
instance fld_impl_Term_1 : FieldAt Tryz.prog 25 1 1 := ⟨_, _, Tryz.underlying25, rfl, rfl, _, _, _, _, ty_int, by decide⟩
instance fld_impl_Term_2 : FieldAt Tryz.prog 25 2 2 := ⟨_, _, Tryz.underlying25, rfl, rfl, _, _, _, _, ty_s_impl_Term, by decide⟩
instance str_impl_Term : StructAt Tryz.prog 25 [(0, 1), (1, 1), (2, 1)] := ⟨_, Tryz.underlying25, fun w => by simp [ty_int.sizeOf, ty_s_impl_Term.sizeOf]⟩


instance fld_impl_Graph_0 : FieldAt Tryz.prog 30 0 0 := ⟨_, _, Tryz.underlying30, rfl, rfl, _, _, _, _, ty_s_s_impl_Move, by decide⟩
instance str_impl_Graph : StructAt Tryz.prog 30 [(0, 1)] := ⟨_, Tryz.underlying30, fun w => by simp [ty_s_s_impl_Move.sizeOf]⟩






instance fld_impl_Move_0 : FieldAt Tryz.prog 42 0 0 := ⟨_, _, Tryz.underlying42, rfl, rfl, _, _, _, _, ty_int, by decide⟩
instance fld_impl_Move_1 : FieldAt Tryz.prog 42 1 1 := ⟨_, _, Tryz.underlying42, rfl, rfl, _, _, _, _, ty_int, by decide⟩
instance eqmv_impl_Move : EqMv Tryz.prog 42 := ⟨⟨_, _, Tryz.underlying42, rfl, rfl, by decide, by decide, ⟨_, _, _, ty_int⟩, ⟨_, _, _, ty_int⟩, ⟨.i64, by kernel_rfl⟩, ⟨.i64, by kernel_rfl⟩⟩, by kernel_rfl, by kernel_rfl⟩
instance str_impl_Move : StructAt Tryz.prog 42 [(0, 1), (1, 1)] := ⟨_, Tryz.underlying42, fun w => by simp [ty_int.sizeOf]⟩

instance fld_impl_Step_0 : FieldAt Tryz.prog 44 0 0 := ⟨_, _, Tryz.underlying44, rfl, rfl, _, _, _, _, ty_int, by decide⟩
instance fld_impl_Step_1 : FieldAt Tryz.prog 44 1 1 := ⟨_, _, Tryz.underlying44, rfl, rfl, _, _, _, _, ty_impl_Term, by decide⟩
instance str_impl_Step : StructAt Tryz.prog 44 [(0, 1), (1, 3)] := ⟨_, Tryz.underlying44, fun w => by simp [ty_impl_Term.sizeOf, ty_int.sizeOf]⟩


instance fld_laws_Term_0 : FieldAt Tryz.prog 48 0 0 := ⟨_, _, Tryz.underlying48, rfl, rfl, _, _, _, _, ty_int, by decide⟩
instance fld_laws_Term_1 : FieldAt Tryz.prog 48 1 1 := ⟨_, _, Tryz.underlying48, rfl, rfl, _, _, _, _, ty_int, by decide⟩
instance fld_laws_Term_2 : FieldAt Tryz.prog 48 2 2 := ⟨_, _, Tryz.underlying48, rfl, rfl, _, _, _, _, ty_s_laws_Term, by decide⟩
instance str_laws_Term : StructAt Tryz.prog 48 [(0, 1), (1, 1), (2, 1)] := ⟨_, Tryz.underlying48, fun w => by simp [ty_int.sizeOf, ty_s_laws_Term.sizeOf]⟩




























instance fld_spec_l6Rd_0 : FieldAt Tryz.prog 82 0 0 := ⟨_, _, Tryz.underlying82, rfl, rfl, _, _, _, _, ty_s_uint8, by decide⟩
instance fld_spec_l6Rd_1 : FieldAt Tryz.prog 82 1 1 := ⟨_, _, Tryz.underlying82, rfl, rfl, _, _, _, _, ty_int, by decide⟩
instance str_spec_l6Rd : StructAt Tryz.prog 82 [(0, 1), (1, 1)] := ⟨_, Tryz.underlying82, fun w => by simp [ty_int.sizeOf, ty_s_uint8.sizeOf]⟩
































































abbrev F_laws_FnGraphOf : FuncId := 3
instance can_laws_FnGraphOf : Callable Tryz.prog 3 := ⟨_, Tryz.func3, by kernel_rfl, by kernel_rfl⟩
theorem fun_laws_FnGraphOf : Tryz.prog.funcs[F_laws_FnGraphOf]? = some Tryz.f3 := Tryz.func3
theorem tmps_laws_FnGraphOf : Tryz.f3.ntmps = 114 := Tryz.ntmps3
theorem ress_laws_FnGraphOf : Tryz.f3.results = #[.tmp 2] := Tryz.results3
abbrev F_laws_FnExactTermsAlike : FuncId := 4
instance can_laws_FnExactTermsAlike : Callable Tryz.prog 4 := ⟨_, Tryz.func4, by kernel_rfl, by kernel_rfl⟩
theorem fun_laws_FnExactTermsAlike : Tryz.prog.funcs[F_laws_FnExactTermsAlike]? = some Tryz.f4 := Tryz.func4
theorem tmps_laws_FnExactTermsAlike : Tryz.f4.ntmps = 76 := Tryz.ntmps4
theorem ress_laws_FnExactTermsAlike : Tryz.f4.results = #[.tmp 6] := Tryz.results4
abbrev F_laws_FnTermsAlike : FuncId := 5
instance can_laws_FnTermsAlike : Callable Tryz.prog 5 := ⟨_, Tryz.func5, by kernel_rfl, by kernel_rfl⟩
theorem fun_laws_FnTermsAlike : Tryz.prog.funcs[F_laws_FnTermsAlike]? = some Tryz.f5 := Tryz.func5
theorem tmps_laws_FnTermsAlike : Tryz.f5.ntmps = 74 := Tryz.ntmps5
theorem ress_laws_FnTermsAlike : Tryz.f5.results = #[.tmp 2] := Tryz.results5
abbrev F_laws_FnAlikeKept : FuncId := 6
instance can_laws_FnAlikeKept : Callable Tryz.prog 6 := ⟨_, Tryz.func6, by kernel_rfl, by kernel_rfl⟩
theorem fun_laws_FnAlikeKept : Tryz.prog.funcs[F_laws_FnAlikeKept]? = some Tryz.f6 := Tryz.func6
theorem tmps_laws_FnAlikeKept : Tryz.f6.ntmps = 108 := Tryz.ntmps6
theorem ress_laws_FnAlikeKept : Tryz.f6.results = #[.tmp 2] := Tryz.results6
abbrev F_spec_DrawGraphOf : FuncId := 7
instance can_spec_DrawGraphOf : Callable Tryz.prog 7 := ⟨_, Tryz.func7, by kernel_rfl, by kernel_rfl⟩
theorem fun_spec_DrawGraphOf : Tryz.prog.funcs[F_spec_DrawGraphOf]? = some Tryz.f7 := Tryz.func7
theorem tmps_spec_DrawGraphOf : Tryz.f7.ntmps = 16 := Tryz.ntmps7
theorem ress_spec_DrawGraphOf : Tryz.f7.results = #[.cell 2 25, .tmp 3] := Tryz.results7
abbrev F_impl_GraphOf : FuncId := 8
instance can_impl_GraphOf : Callable Tryz.prog 8 := ⟨_, Tryz.func8, by kernel_rfl, by kernel_rfl⟩
theorem fun_impl_GraphOf : Tryz.prog.funcs[F_impl_GraphOf]? = some Tryz.f8 := Tryz.func8
theorem tmps_impl_GraphOf : Tryz.f8.ntmps = 22 := Tryz.ntmps8
theorem ress_impl_GraphOf : Tryz.f8.results = #[.cell 4 30, .tmp 5] := Tryz.results8
abbrev F_spec_GraphOf : FuncId := 9
instance can_spec_GraphOf : Callable Tryz.prog 9 := ⟨_, Tryz.func9, by kernel_rfl, by kernel_rfl⟩
theorem fun_spec_GraphOf : Tryz.prog.funcs[F_spec_GraphOf]? = some Tryz.f9 := Tryz.func9
theorem tmps_spec_GraphOf : Tryz.f9.ntmps = 16 := Tryz.ntmps9
theorem ress_spec_GraphOf : Tryz.f9.results = #[.cell 4 30, .tmp 5] := Tryz.results9
abbrev F_laws_mnGraph : FuncId := 10
instance can_laws_mnGraph : Callable Tryz.prog 10 := ⟨_, Tryz.func10, by kernel_rfl, by kernel_rfl⟩
theorem fun_laws_mnGraph : Tryz.prog.funcs[F_laws_mnGraph]? = some Tryz.f10 := Tryz.func10
theorem tmps_laws_mnGraph : Tryz.f10.ntmps = 61 := Tryz.ntmps10
theorem ress_laws_mnGraph : Tryz.f10.results = #[.tmp 4] := Tryz.results10
abbrev F_impl_TermSteps : FuncId := 11
instance can_impl_TermSteps : Callable Tryz.prog 11 := ⟨_, Tryz.func11, by kernel_rfl, by kernel_rfl⟩
theorem fun_impl_TermSteps : Tryz.prog.funcs[F_impl_TermSteps]? = some Tryz.f11 := Tryz.func11
theorem tmps_impl_TermSteps : Tryz.f11.ntmps = 38 := Tryz.ntmps11
theorem ress_impl_TermSteps : Tryz.f11.results = #[.tmp 4, .tmp 5] := Tryz.results11
abbrev F_impl_GraphOk : FuncId := 12
instance can_impl_GraphOk : Callable Tryz.prog 12 := ⟨_, Tryz.func12, by kernel_rfl, by kernel_rfl⟩
theorem fun_impl_GraphOk : Tryz.prog.funcs[F_impl_GraphOk]? = some Tryz.f12 := Tryz.func12
theorem tmps_impl_GraphOk : Tryz.f12.ntmps = 64 := Tryz.ntmps12
theorem ress_impl_GraphOk : Tryz.f12.results = #[.tmp 2] := Tryz.results12
abbrev F_impl_GraphReach : FuncId := 13
instance can_impl_GraphReach : Callable Tryz.prog 13 := ⟨_, Tryz.func13, by kernel_rfl, by kernel_rfl⟩
theorem fun_impl_GraphReach : Tryz.prog.funcs[F_impl_GraphReach]? = some Tryz.f13 := Tryz.func13
theorem tmps_impl_GraphReach : Tryz.f13.ntmps = 12 := Tryz.ntmps13
theorem ress_impl_GraphReach : Tryz.f13.results = #[.tmp 2] := Tryz.results13
abbrev F_laws_szTerm : FuncId := 14
instance can_laws_szTerm : Callable Tryz.prog 14 := ⟨_, Tryz.func14, by kernel_rfl, by kernel_rfl⟩
theorem fun_laws_szTerm : Tryz.prog.funcs[F_laws_szTerm]? = some Tryz.f14 := Tryz.func14
theorem tmps_laws_szTerm : Tryz.f14.ntmps = 12 := Tryz.ntmps14
theorem ress_laws_szTerm : Tryz.f14.results = #[.tmp 4] := Tryz.results14
abbrev F_laws_szTermS : FuncId := 15
instance can_laws_szTermS : Callable Tryz.prog 15 := ⟨_, Tryz.func15, by kernel_rfl, by kernel_rfl⟩
theorem fun_laws_szTermS : Tryz.prog.funcs[F_laws_szTermS]? = some Tryz.f15 := Tryz.func15
theorem tmps_laws_szTermS : Tryz.f15.ntmps = 27 := Tryz.ntmps15
theorem ress_laws_szTermS : Tryz.f15.results = #[.tmp 4] := Tryz.results15
abbrev F_spec_TermsAlike : FuncId := 16
instance can_spec_TermsAlike : Callable Tryz.prog 16 := ⟨_, Tryz.func16, by kernel_rfl, by kernel_rfl⟩
theorem fun_spec_TermsAlike : Tryz.prog.funcs[F_spec_TermsAlike]? = some Tryz.f16 := Tryz.func16
theorem tmps_spec_TermsAlike : Tryz.f16.ntmps = 27 := Tryz.ntmps16
theorem ress_spec_TermsAlike : Tryz.f16.results = #[.tmp 6, .tmp 7] := Tryz.results16
abbrev F_laws_toTerm : FuncId := 17
instance can_laws_toTerm : Callable Tryz.prog 17 := ⟨_, Tryz.func17, by kernel_rfl, by kernel_rfl⟩
theorem fun_laws_toTerm : Tryz.prog.funcs[F_laws_toTerm]? = some Tryz.f17 := Tryz.func17
theorem tmps_laws_toTerm : Tryz.f17.ntmps = 15 := Tryz.ntmps17
theorem ress_laws_toTerm : Tryz.f17.results = #[.cell 2 25] := Tryz.results17
abbrev F_laws_toTermS : FuncId := 18
instance can_laws_toTermS : Callable Tryz.prog 18 := ⟨_, Tryz.func18, by kernel_rfl, by kernel_rfl⟩
theorem fun_laws_toTermS : Tryz.prog.funcs[F_laws_toTermS]? = some Tryz.f18 := Tryz.func18
theorem tmps_laws_toTermS : Tryz.f18.ntmps = 23 := Tryz.ntmps18
theorem ress_laws_toTermS : Tryz.f18.results = #[.tmp 2] := Tryz.results18
abbrev F_impl_TermsAlike : FuncId := 19
instance can_impl_TermsAlike : Callable Tryz.prog 19 := ⟨_, Tryz.func19, by kernel_rfl, by kernel_rfl⟩
theorem fun_impl_TermsAlike : Tryz.prog.funcs[F_impl_TermsAlike]? = some Tryz.f19 := Tryz.func19
theorem tmps_impl_TermsAlike : Tryz.f19.ntmps = 32 := Tryz.ntmps19
theorem ress_impl_TermsAlike : Tryz.f19.results = #[.tmp 6, .tmp 7] := Tryz.results19
abbrev F_laws_eqTerm : FuncId := 20
instance can_laws_eqTerm : Callable Tryz.prog 20 := ⟨_, Tryz.func20, by kernel_rfl, by kernel_rfl⟩
theorem fun_laws_eqTerm : Tryz.prog.funcs[F_laws_eqTerm]? = some Tryz.f20 := Tryz.func20
theorem tmps_laws_eqTerm : Tryz.f20.ntmps = 21 := Tryz.ntmps20
theorem ress_laws_eqTerm : Tryz.f20.results = #[.tmp 4] := Tryz.results20
abbrev F_laws_eqTermS : FuncId := 21
instance can_laws_eqTermS : Callable Tryz.prog 21 := ⟨_, Tryz.func21, by kernel_rfl, by kernel_rfl⟩
theorem fun_laws_eqTermS : Tryz.prog.funcs[F_laws_eqTermS]? = some Tryz.f21 := Tryz.func21
theorem tmps_laws_eqTermS : Tryz.f21.ntmps = 27 := Tryz.ntmps21
theorem ress_laws_eqTermS : Tryz.f21.results = #[.tmp 4] := Tryz.results21
abbrev F_spec_DrawTermsAlike : FuncId := 22
instance can_spec_DrawTermsAlike : Callable Tryz.prog 22 := ⟨_, Tryz.func22, by kernel_rfl, by kernel_rfl⟩
theorem fun_spec_DrawTermsAlike : Tryz.prog.funcs[F_spec_DrawTermsAlike]? = some Tryz.f22 := Tryz.func22
theorem tmps_spec_DrawTermsAlike : Tryz.f22.ntmps = 20 := Tryz.ntmps22
theorem ress_spec_DrawTermsAlike : Tryz.f22.results = #[.cell 2 25, .cell 3 25, .tmp 4] := Tryz.results22
abbrev F_laws_mnPut : FuncId := 23
instance can_laws_mnPut : Callable Tryz.prog 23 := ⟨_, Tryz.func23, by kernel_rfl, by kernel_rfl⟩
theorem fun_laws_mnPut : Tryz.prog.funcs[F_laws_mnPut]? = some Tryz.f23 := Tryz.func23
theorem tmps_laws_mnPut : Tryz.f23.ntmps = 11 := Tryz.ntmps23
theorem ress_laws_mnPut : Tryz.f23.results = #[.cell 6 25] := Tryz.results23
abbrev F_spec_l6Open : FuncId := 24
instance can_spec_l6Open : Callable Tryz.prog 24 := ⟨_, Tryz.func24, by kernel_rfl, by kernel_rfl⟩
theorem fun_spec_l6Open : Tryz.prog.funcs[F_spec_l6Open]? = some Tryz.f24 := Tryz.func24
theorem tmps_spec_l6Open : Tryz.f24.ntmps = 11 := Tryz.ntmps24
theorem ress_spec_l6Open : Tryz.f24.results = #[.tmp 2] := Tryz.results24
abbrev F_spec_l91Called : FuncId := 25
instance can_spec_l91Called : Callable Tryz.prog 25 := ⟨_, Tryz.func25, by kernel_rfl, by kernel_rfl⟩
theorem fun_spec_l91Called : Tryz.prog.funcs[F_spec_l91Called]? = some Tryz.f25 := Tryz.func25
theorem tmps_spec_l91Called : Tryz.f25.ntmps = 27 := Tryz.ntmps25
theorem ress_spec_l91Called : Tryz.f25.results = #[.cell 2 25, .tmp 3] := Tryz.results25
abbrev F_impl_DefsOk : FuncId := 26
instance can_impl_DefsOk : Callable Tryz.prog 26 := ⟨_, Tryz.func26, by kernel_rfl, by kernel_rfl⟩
theorem fun_impl_DefsOk : Tryz.prog.funcs[F_impl_DefsOk]? = some Tryz.f26 := Tryz.func26
theorem tmps_impl_DefsOk : Tryz.f26.ntmps = 12 := Tryz.ntmps26
theorem ress_impl_DefsOk : Tryz.f26.results = #[.tmp 2] := Tryz.results26
abbrev F_impl_TermFits : FuncId := 27
instance can_impl_TermFits : Callable Tryz.prog 27 := ⟨_, Tryz.func27, by kernel_rfl, by kernel_rfl⟩
theorem fun_impl_TermFits : Tryz.prog.funcs[F_impl_TermFits]? = some Tryz.f27 := Tryz.func27
theorem tmps_impl_TermFits : Tryz.f27.ntmps = 20 := Tryz.ntmps27
theorem ress_impl_TermFits : Tryz.f27.results = #[.tmp 4] := Tryz.results27
abbrev F_impl_built_impl_Term : FuncId := 28
instance can_impl_built_impl_Term : Callable Tryz.prog 28 := ⟨_, Tryz.func28, by kernel_rfl, by kernel_rfl⟩
theorem fun_impl_built_impl_Term : Tryz.prog.funcs[F_impl_built_impl_Term]? = some Tryz.f28 := Tryz.func28
theorem tmps_impl_built_impl_Term : Tryz.f28.ntmps = 97 := Tryz.ntmps28
theorem ress_impl_built_impl_Term : Tryz.f28.results = #[.cell 6 30, .tmp 7] := Tryz.results28
abbrev F_impl_textOf : FuncId := 29
instance can_impl_textOf : Callable Tryz.prog 29 := ⟨_, Tryz.func29, by kernel_rfl, by kernel_rfl⟩
theorem fun_impl_textOf : Tryz.prog.funcs[F_impl_textOf]? = some Tryz.f29 := Tryz.func29
theorem tmps_impl_textOf : Tryz.f29.ntmps = 71 := Tryz.ntmps29
theorem ress_impl_textOf : Tryz.f29.results = #[.tmp 2] := Tryz.results29
abbrev F_impl_GraphOf_1 : FuncId := 30
instance can_impl_GraphOf_1 : Callable Tryz.prog 30 := ⟨_, Tryz.func30, by kernel_rfl, by kernel_rfl⟩
theorem fun_impl_GraphOf_1 : Tryz.prog.funcs[F_impl_GraphOf_1]? = some Tryz.f30 := Tryz.func30
theorem tmps_impl_GraphOf_1 : Tryz.f30.ntmps = 37 := Tryz.ntmps30
theorem ress_impl_GraphOf_1 : Tryz.f30.results = #[.tmp 3, .tmp 4, .tmp 5] := Tryz.results30
abbrev F_impl_stepsOf : FuncId := 31
instance can_impl_stepsOf : Callable Tryz.prog 31 := ⟨_, Tryz.func31, by kernel_rfl, by kernel_rfl⟩
theorem fun_impl_stepsOf : Tryz.prog.funcs[F_impl_stepsOf]? = some Tryz.f31 := Tryz.func31
theorem tmps_impl_stepsOf : Tryz.f31.ntmps = 183 := Tryz.ntmps31
theorem ress_impl_stepsOf : Tryz.f31.results = #[.tmp 4] := Tryz.results31
abbrev F_impl_termNodes : FuncId := 32
instance can_impl_termNodes : Callable Tryz.prog 32 := ⟨_, Tryz.func32, by kernel_rfl, by kernel_rfl⟩
theorem fun_impl_termNodes : Tryz.prog.funcs[F_impl_termNodes]? = some Tryz.f32 := Tryz.func32
theorem tmps_impl_termNodes : Tryz.f32.ntmps = 28 := Tryz.ntmps32
theorem ress_impl_termNodes : Tryz.f32.results = #[.tmp 4] := Tryz.results32
abbrev F_spec_l3Asked : FuncId := 33
instance can_spec_l3Asked : Callable Tryz.prog 33 := ⟨_, Tryz.func33, by kernel_rfl, by kernel_rfl⟩
theorem fun_spec_l3Asked : Tryz.prog.funcs[F_spec_l3Asked]? = some Tryz.f33 := Tryz.func33
theorem tmps_spec_l3Asked : Tryz.f33.ntmps = 13 := Tryz.ntmps33
theorem ress_spec_l3Asked : Tryz.f33.results = #[.tmp 4] := Tryz.results33
abbrev F_spec_l3Graph : FuncId := 34
instance can_spec_l3Graph : Callable Tryz.prog 34 := ⟨_, Tryz.func34, by kernel_rfl, by kernel_rfl⟩
theorem fun_spec_l3Graph : Tryz.prog.funcs[F_spec_l3Graph]? = some Tryz.f34 := Tryz.func34
theorem tmps_spec_l3Graph : Tryz.f34.ntmps = 106 := Tryz.ntmps34
theorem ress_spec_l3Graph : Tryz.f34.results = #[.cell 4 30, .tmp 5] := Tryz.results34
abbrev F_impl_copyTerm : FuncId := 35
instance can_impl_copyTerm : Callable Tryz.prog 35 := ⟨_, Tryz.func35, by kernel_rfl, by kernel_rfl⟩
theorem fun_impl_copyTerm : Tryz.prog.funcs[F_impl_copyTerm]? = some Tryz.f35 := Tryz.func35
theorem tmps_impl_copyTerm : Tryz.f35.ntmps = 27 := Tryz.ntmps35
theorem ress_impl_copyTerm : Tryz.f35.results = #[.cell 2 25] := Tryz.results35
abbrev F_impl_ActOk : FuncId := 36
instance can_impl_ActOk : Callable Tryz.prog 36 := ⟨_, Tryz.func36, by kernel_rfl, by kernel_rfl⟩
theorem fun_impl_ActOk : Tryz.prog.funcs[F_impl_ActOk]? = some Tryz.f36 := Tryz.func36
theorem tmps_impl_ActOk : Tryz.f36.ntmps = 9 := Tryz.ntmps36
theorem ress_impl_ActOk : Tryz.f36.results = #[.tmp 2] := Tryz.results36
abbrev F_impl_byMove : FuncId := 37
instance can_impl_byMove : Callable Tryz.prog 37 := ⟨_, Tryz.func37, by kernel_rfl, by kernel_rfl⟩
theorem fun_impl_byMove : Tryz.prog.funcs[F_impl_byMove]? = some Tryz.f37 := Tryz.func37
theorem tmps_impl_byMove : Tryz.f37.ntmps = 19 := Tryz.ntmps37
theorem ress_impl_byMove : Tryz.f37.results = #[.tmp 4] := Tryz.results37
abbrev F_impl_reached : FuncId := 38
instance can_impl_reached : Callable Tryz.prog 38 := ⟨_, Tryz.func38, by kernel_rfl, by kernel_rfl⟩
theorem fun_impl_reached : Tryz.prog.funcs[F_impl_reached]? = some Tryz.f38 := Tryz.func38
theorem tmps_impl_reached : Tryz.f38.ntmps = 49 := Tryz.ntmps38
theorem ress_impl_reached : Tryz.f38.results = #[.tmp 4] := Tryz.results38
abbrev F_slices_Sort_int_int : FuncId := 39
instance can_slices_Sort_int_int : Callable Tryz.prog 39 := ⟨_, Tryz.func39, by kernel_rfl, by kernel_rfl⟩
theorem fun_slices_Sort_int_int : Tryz.prog.funcs[F_slices_Sort_int_int]? = some Tryz.f39 := Tryz.func39
theorem tmps_slices_Sort_int_int : Tryz.f39.ntmps = 11 := Tryz.ntmps39
theorem ress_slices_Sort_int_int : Tryz.f39.results = #[] := Tryz.results39
abbrev F_spec_l4Pair : FuncId := 40
instance can_spec_l4Pair : Callable Tryz.prog 40 := ⟨_, Tryz.func40, by kernel_rfl, by kernel_rfl⟩
theorem fun_spec_l4Pair : Tryz.prog.funcs[F_spec_l4Pair]? = some Tryz.f40 := Tryz.func40
theorem tmps_spec_l4Pair : Tryz.f40.ntmps = 45 := Tryz.ntmps40
theorem ress_spec_l4Pair : Tryz.f40.results = #[.cell 6 30, .tmp 7, .tmp 8] := Tryz.results40
abbrev F_spec_l4Classes : FuncId := 41
instance can_spec_l4Classes : Callable Tryz.prog 41 := ⟨_, Tryz.func41, by kernel_rfl, by kernel_rfl⟩
theorem fun_spec_l4Classes : Tryz.prog.funcs[F_spec_l4Classes]? = some Tryz.f41 := Tryz.func41
theorem tmps_spec_l4Classes : Tryz.f41.ntmps = 12 := Tryz.ntmps41
theorem ress_spec_l4Classes : Tryz.f41.results = #[.tmp 2] := Tryz.results41
abbrev F_impl_bothOf : FuncId := 42
instance can_impl_bothOf : Callable Tryz.prog 42 := ⟨_, Tryz.func42, by kernel_rfl, by kernel_rfl⟩
theorem fun_impl_bothOf : Tryz.prog.funcs[F_impl_bothOf]? = some Tryz.f42 := Tryz.func42
theorem tmps_impl_bothOf : Tryz.f42.ntmps = 45 := Tryz.ntmps42
theorem ress_impl_bothOf : Tryz.f42.results = #[.cell 6 30, .tmp 7, .tmp 8] := Tryz.results42
abbrev F_impl_alikeClasses : FuncId := 43
instance can_impl_alikeClasses : Callable Tryz.prog 43 := ⟨_, Tryz.func43, by kernel_rfl, by kernel_rfl⟩
theorem fun_impl_alikeClasses : Tryz.prog.funcs[F_impl_alikeClasses]? = some Tryz.f43 := Tryz.func43
theorem tmps_impl_alikeClasses : Tryz.f43.ntmps = 13 := Tryz.ntmps43
theorem ress_impl_alikeClasses : Tryz.f43.results = #[.tmp 2] := Tryz.results43
abbrev F_spec_l91Pair : FuncId := 44
instance can_spec_l91Pair : Callable Tryz.prog 44 := ⟨_, Tryz.func44, by kernel_rfl, by kernel_rfl⟩
theorem fun_spec_l91Pair : Tryz.prog.funcs[F_spec_l91Pair]? = some Tryz.f44 := Tryz.func44
theorem tmps_spec_l91Pair : Tryz.f44.ntmps = 79 := Tryz.ntmps44
theorem ress_spec_l91Pair : Tryz.f44.results = #[.cell 2 25, .cell 3 25, .tmp 4] := Tryz.results44
abbrev F_spec_l91Defs : FuncId := 45
instance can_spec_l91Defs : Callable Tryz.prog 45 := ⟨_, Tryz.func45, by kernel_rfl, by kernel_rfl⟩
theorem fun_spec_l91Defs : Tryz.prog.funcs[F_spec_l91Defs]? = some Tryz.f45 := Tryz.func45
theorem tmps_spec_l91Defs : Tryz.f45.ntmps = 41 := Tryz.ntmps45
theorem ress_spec_l91Defs : Tryz.f45.results = #[.tmp 2] := Tryz.results45
abbrev F_spec_l91Term : FuncId := 46
instance can_spec_l91Term : Callable Tryz.prog 46 := ⟨_, Tryz.func46, by kernel_rfl, by kernel_rfl⟩
theorem fun_spec_l91Term : Tryz.prog.funcs[F_spec_l91Term]? = some Tryz.f46 := Tryz.func46
theorem tmps_spec_l91Term : Tryz.f46.ntmps = 34 := Tryz.ntmps46
theorem ress_spec_l91Term : Tryz.f46.results = #[.cell 4 25] := Tryz.results46
abbrev F_spec_l6Rd_pick : FuncId := 47
instance can_spec_l6Rd_pick : Callable Tryz.prog 47 := ⟨_, Tryz.func47, by kernel_rfl, by kernel_rfl⟩
theorem fun_spec_l6Rd_pick : Tryz.prog.funcs[F_spec_l6Rd_pick]? = some Tryz.f47 := Tryz.func47
theorem tmps_spec_l6Rd_pick : Tryz.f47.ntmps = 99 := Tryz.ntmps47
theorem ress_spec_l6Rd_pick : Tryz.f47.results = #[.tmp 4] := Tryz.results47
abbrev F_slices_ContainsFunc_impl_Term_impl_Term : FuncId := 48
instance can_slices_ContainsFunc_impl_Term_impl_Term : Callable Tryz.prog 48 := ⟨_, Tryz.func48, by kernel_rfl, by kernel_rfl⟩
theorem fun_slices_ContainsFunc_impl_Term_impl_Term : Tryz.prog.funcs[F_slices_ContainsFunc_impl_Term_impl_Term]? = some Tryz.f48 := Tryz.func48
theorem tmps_slices_ContainsFunc_impl_Term_impl_Term : Tryz.f48.ntmps = 9 := Tryz.ntmps48
theorem ress_slices_ContainsFunc_impl_Term_impl_Term : Tryz.f48.results = #[.tmp 4] := Tryz.results48
abbrev F_impl_DefsOk_1 : FuncId := 49
instance can_impl_DefsOk_1 : Callable Tryz.prog 49 := ⟨_, Tryz.func49, by kernel_rfl, by kernel_rfl⟩
theorem fun_impl_DefsOk_1 : Tryz.prog.funcs[F_impl_DefsOk_1]? = some Tryz.f49 := Tryz.func49
theorem tmps_impl_DefsOk_1 : Tryz.f49.ntmps = 13 := Tryz.ntmps49
theorem ress_impl_DefsOk_1 : Tryz.f49.results = #[.tmp 3] := Tryz.results49
abbrev F_impl_bare : FuncId := 50
instance can_impl_bare : Callable Tryz.prog 50 := ⟨_, Tryz.func50, by kernel_rfl, by kernel_rfl⟩
theorem fun_impl_bare : Tryz.prog.funcs[F_impl_bare]? = some Tryz.f50 := Tryz.func50
theorem tmps_impl_bare : Tryz.f50.ntmps = 16 := Tryz.ntmps50
theorem ress_impl_bare : Tryz.f50.results = #[.tmp 2] := Tryz.results50
abbrev F_impl_TermOk : FuncId := 51
instance can_impl_TermOk : Callable Tryz.prog 51 := ⟨_, Tryz.func51, by kernel_rfl, by kernel_rfl⟩
theorem fun_impl_TermOk : Tryz.prog.funcs[F_impl_TermOk]? = some Tryz.f51 := Tryz.func51
theorem tmps_impl_TermOk : Tryz.f51.ntmps = 10 := Tryz.ntmps51
theorem ress_impl_TermOk : Tryz.f51.results = #[.tmp 2] := Tryz.results51
abbrev F_impl_callsBelow : FuncId := 52
instance can_impl_callsBelow : Callable Tryz.prog 52 := ⟨_, Tryz.func52, by kernel_rfl, by kernel_rfl⟩
theorem fun_impl_callsBelow : Tryz.prog.funcs[F_impl_callsBelow]? = some Tryz.f52 := Tryz.func52
theorem tmps_impl_callsBelow : Tryz.f52.ntmps = 21 := Tryz.ntmps52
theorem ress_impl_callsBelow : Tryz.f52.results = #[.tmp 4] := Tryz.results52
abbrev F_impl_tidy : FuncId := 53
instance can_impl_tidy : Callable Tryz.prog 53 := ⟨_, Tryz.func53, by kernel_rfl, by kernel_rfl⟩
theorem fun_impl_tidy : Tryz.prog.funcs[F_impl_tidy]? = some Tryz.f53 := Tryz.func53
theorem tmps_impl_tidy : Tryz.f53.ntmps = 7 := Tryz.ntmps53
theorem ress_impl_tidy : Tryz.f53.results = #[.tmp 2] := Tryz.results53
abbrev F_impl_ActText : FuncId := 54
instance can_impl_ActText : Callable Tryz.prog 54 := ⟨_, Tryz.func54, by kernel_rfl, by kernel_rfl⟩
theorem fun_impl_ActText : Tryz.prog.funcs[F_impl_ActText]? = some Tryz.f54 := Tryz.func54
theorem tmps_impl_ActText : Tryz.f54.ntmps = 20 := Tryz.ntmps54
theorem ress_impl_ActText : Tryz.f54.results = #[.tmp 2] := Tryz.results54
abbrev F_impl_nameText : FuncId := 55
instance can_impl_nameText : Callable Tryz.prog 55 := ⟨_, Tryz.func55, by kernel_rfl, by kernel_rfl⟩
theorem fun_impl_nameText : Tryz.prog.funcs[F_impl_nameText]? = some Tryz.f55 := Tryz.func55
theorem tmps_impl_nameText : Tryz.f55.ntmps = 8 := Tryz.ntmps55
theorem ress_impl_nameText : Tryz.f55.results = #[.tmp 2] := Tryz.results55
abbrev F_strconv_Itoa : FuncId := 56
instance can_strconv_Itoa : Callable Tryz.prog 56 := ⟨_, Tryz.func56, by kernel_rfl, by kernel_rfl⟩
theorem fun_strconv_Itoa : Tryz.prog.funcs[F_strconv_Itoa]? = some Tryz.f56 := Tryz.func56
theorem tmps_strconv_Itoa : Tryz.f56.ntmps = 5 := Tryz.ntmps56
theorem ress_strconv_Itoa : Tryz.f56.results = #[.tmp 2] := Tryz.results56
abbrev F_impl_parOf : FuncId := 57
instance can_impl_parOf : Callable Tryz.prog 57 := ⟨_, Tryz.func57, by kernel_rfl, by kernel_rfl⟩
theorem fun_impl_parOf : Tryz.prog.funcs[F_impl_parOf]? = some Tryz.f57 := Tryz.func57
theorem tmps_impl_parOf : Tryz.f57.ntmps = 9 := Tryz.ntmps57
theorem ress_impl_parOf : Tryz.f57.results = #[.cell 4 25] := Tryz.results57
abbrev F_impl_nameOf : FuncId := 58
instance can_impl_nameOf : Callable Tryz.prog 58 := ⟨_, Tryz.func58, by kernel_rfl, by kernel_rfl⟩
theorem fun_impl_nameOf : Tryz.prog.funcs[F_impl_nameOf]? = some Tryz.f58 := Tryz.func58
theorem tmps_impl_nameOf : Tryz.f58.ntmps = 8 := Tryz.ntmps58
theorem ress_impl_nameOf : Tryz.f58.results = #[.tmp 2] := Tryz.results58
abbrev F_impl_hideOf : FuncId := 59
instance can_impl_hideOf : Callable Tryz.prog 59 := ⟨_, Tryz.func59, by kernel_rfl, by kernel_rfl⟩
theorem fun_impl_hideOf : Tryz.prog.funcs[F_impl_hideOf]? = some Tryz.f59 := Tryz.func59
theorem tmps_impl_hideOf : Tryz.f59.ntmps = 9 := Tryz.ntmps59
theorem ress_impl_hideOf : Tryz.f59.results = #[.cell 4 25] := Tryz.results59
abbrev F_spec_DefsOk : FuncId := 60
instance can_spec_DefsOk : Callable Tryz.prog 60 := ⟨_, Tryz.func60, by kernel_rfl, by kernel_rfl⟩
theorem fun_spec_DefsOk : Tryz.prog.funcs[F_spec_DefsOk]? = some Tryz.f60 := Tryz.func60
theorem tmps_spec_DefsOk : Tryz.f60.ntmps = 29 := Tryz.ntmps60
theorem ress_spec_DefsOk : Tryz.f60.results = #[.tmp 2] := Tryz.results60
abbrev F_spec_TermFits : FuncId := 61
instance can_spec_TermFits : Callable Tryz.prog 61 := ⟨_, Tryz.func61, by kernel_rfl, by kernel_rfl⟩
theorem fun_spec_TermFits : Tryz.prog.funcs[F_spec_TermFits]? = some Tryz.f61 := Tryz.func61
theorem tmps_spec_TermFits : Tryz.f61.ntmps = 17 := Tryz.ntmps61
theorem ress_spec_TermFits : Tryz.f61.results = #[.tmp 4] := Tryz.results61
abbrev F_spec_l2Text : FuncId := 62
instance can_spec_l2Text : Callable Tryz.prog 62 := ⟨_, Tryz.func62, by kernel_rfl, by kernel_rfl⟩
theorem fun_spec_l2Text : Tryz.prog.funcs[F_spec_l2Text]? = some Tryz.f62 := Tryz.func62
theorem tmps_spec_l2Text : Tryz.f62.ntmps = 58 := Tryz.ntmps62
theorem ress_spec_l2Text : Tryz.f62.results = #[.tmp 2] := Tryz.results62
abbrev F_spec_l3Steps : FuncId := 63
instance can_spec_l3Steps : Callable Tryz.prog 63 := ⟨_, Tryz.func63, by kernel_rfl, by kernel_rfl⟩
theorem fun_spec_l3Steps : Tryz.prog.funcs[F_spec_l3Steps]? = some Tryz.f63 := Tryz.func63
theorem tmps_spec_l3Steps : Tryz.f63.ntmps = 217 := Tryz.ntmps63
theorem ress_spec_l3Steps : Tryz.f63.results = #[.tmp 4] := Tryz.results63
abbrev F_spec_l2Nodes : FuncId := 64
instance can_spec_l2Nodes : Callable Tryz.prog 64 := ⟨_, Tryz.func64, by kernel_rfl, by kernel_rfl⟩
theorem fun_spec_l2Nodes : Tryz.prog.funcs[F_spec_l2Nodes]? = some Tryz.f64 := Tryz.func64
theorem tmps_spec_l2Nodes : Tryz.f64.ntmps = 60 := Tryz.ntmps64
theorem ress_spec_l2Nodes : Tryz.f64.results = #[.tmp 2] := Tryz.results64
abbrev F_spec_l3Sorted : FuncId := 65
instance can_spec_l3Sorted : Callable Tryz.prog 65 := ⟨_, Tryz.func65, by kernel_rfl, by kernel_rfl⟩
theorem fun_spec_l3Sorted : Tryz.prog.funcs[F_spec_l3Sorted]? = some Tryz.f65 := Tryz.func65
theorem tmps_spec_l3Sorted : Tryz.f65.ntmps = 74 := Tryz.ntmps65
theorem ress_spec_l3Sorted : Tryz.f65.results = #[.tmp 2] := Tryz.results65
abbrev F_cmp_Compare_int : FuncId := 66
instance can_cmp_Compare_int : Callable Tryz.prog 66 := ⟨_, Tryz.func66, by kernel_rfl, by kernel_rfl⟩
theorem fun_cmp_Compare_int : Tryz.prog.funcs[F_cmp_Compare_int]? = some Tryz.f66 := Tryz.func66
theorem tmps_cmp_Compare_int : Tryz.f66.ntmps = 20 := Tryz.ntmps66
theorem ress_cmp_Compare_int : Tryz.f66.results = #[.tmp 4] := Tryz.results66
abbrev F_slices_pdqsortOrdered_int : FuncId := 67
instance can_slices_pdqsortOrdered_int : Callable Tryz.prog 67 := ⟨_, Tryz.func67, by kernel_rfl, by kernel_rfl⟩
theorem fun_slices_pdqsortOrdered_int : Tryz.prog.funcs[F_slices_pdqsortOrdered_int]? = some Tryz.f67 := Tryz.func67
theorem tmps_slices_pdqsortOrdered_int : Tryz.f67.ntmps = 134 := Tryz.ntmps67
theorem ress_slices_pdqsortOrdered_int : Tryz.f67.results = #[] := Tryz.results67
abbrev F_bits_Len : FuncId := 68
instance can_bits_Len : Callable Tryz.prog 68 := ⟨_, Tryz.func68, by kernel_rfl, by kernel_rfl⟩
theorem fun_bits_Len : Tryz.prog.funcs[F_bits_Len]? = some Tryz.f68 := Tryz.func68
theorem tmps_bits_Len : Tryz.f68.ntmps = 8 := Tryz.ntmps68
theorem ress_bits_Len : Tryz.f68.results = #[.tmp 2] := Tryz.results68
abbrev F_spec_GraphBoth : FuncId := 69
instance can_spec_GraphBoth : Callable Tryz.prog 69 := ⟨_, Tryz.func69, by kernel_rfl, by kernel_rfl⟩
theorem fun_spec_GraphBoth : Tryz.prog.funcs[F_spec_GraphBoth]? = some Tryz.f69 := Tryz.func69
theorem tmps_spec_GraphBoth : Tryz.f69.ntmps = 28 := Tryz.ntmps69
theorem ress_spec_GraphBoth : Tryz.f69.results = #[.cell 4 30, .tmp 5] := Tryz.results69
abbrev F_spec_l4Rounds : FuncId := 70
instance can_spec_l4Rounds : Callable Tryz.prog 70 := ⟨_, Tryz.func70, by kernel_rfl, by kernel_rfl⟩
theorem fun_spec_l4Rounds : Tryz.prog.funcs[F_spec_l4Rounds]? = some Tryz.f70 := Tryz.func70
theorem tmps_spec_l4Rounds : Tryz.f70.ntmps = 31 := Tryz.ntmps70
theorem ress_spec_l4Rounds : Tryz.f70.results = #[.tmp 2] := Tryz.results70
abbrev F_impl_GraphBoth : FuncId := 71
instance can_impl_GraphBoth : Callable Tryz.prog 71 := ⟨_, Tryz.func71, by kernel_rfl, by kernel_rfl⟩
theorem fun_impl_GraphBoth : Tryz.prog.funcs[F_impl_GraphBoth]? = some Tryz.f71 := Tryz.func71
theorem tmps_impl_GraphBoth : Tryz.f71.ntmps = 65 := Tryz.ntmps71
theorem ress_impl_GraphBoth : Tryz.f71.results = #[.cell 4 30, .tmp 5] := Tryz.results71
abbrev F_impl_alikeRounds : FuncId := 72
instance can_impl_alikeRounds : Callable Tryz.prog 72 := ⟨_, Tryz.func72, by kernel_rfl, by kernel_rfl⟩
theorem fun_impl_alikeRounds : Tryz.prog.funcs[F_impl_alikeRounds]? = some Tryz.f72 := Tryz.func72
theorem tmps_impl_alikeRounds : Tryz.f72.ntmps = 8 := Tryz.ntmps72
theorem ress_impl_alikeRounds : Tryz.f72.results = #[.tmp 2] := Tryz.results72
abbrev F_slices_Clone_int_int : FuncId := 73
instance can_slices_Clone_int_int : Callable Tryz.prog 73 := ⟨_, Tryz.func73, by kernel_rfl, by kernel_rfl⟩
theorem fun_slices_Clone_int_int : Tryz.prog.funcs[F_slices_Clone_int_int]? = some Tryz.f73 := Tryz.func73
theorem tmps_slices_Clone_int_int : Tryz.f73.ntmps = 8 := Tryz.ntmps73
theorem ress_slices_Clone_int_int : Tryz.f73.results = #[.tmp 2] := Tryz.results73
abbrev F_spec_l91Do : FuncId := 74
instance can_spec_l91Do : Callable Tryz.prog 74 := ⟨_, Tryz.func74, by kernel_rfl, by kernel_rfl⟩
theorem fun_spec_l91Do : Tryz.prog.funcs[F_spec_l91Do]? = some Tryz.f74 := Tryz.func74
theorem tmps_spec_l91Do : Tryz.f74.ntmps = 12 := Tryz.ntmps74
theorem ress_spec_l91Do : Tryz.f74.results = #[.tmp 2] := Tryz.results74
abbrev F_spec_l91Good : FuncId := 75
instance can_spec_l91Good : Callable Tryz.prog 75 := ⟨_, Tryz.func75, by kernel_rfl, by kernel_rfl⟩
theorem fun_spec_l91Good : Tryz.prog.funcs[F_spec_l91Good]? = some Tryz.f75 := Tryz.func75
theorem tmps_spec_l91Good : Tryz.f75.ntmps = 94 := Tryz.ntmps75
theorem ress_spec_l91Good : Tryz.f75.results = #[.cell 8 25] := Tryz.results75
abbrev F_slices_IndexFunc_impl_Term_impl_Term : FuncId := 76
instance can_slices_IndexFunc_impl_Term_impl_Term : Callable Tryz.prog 76 := ⟨_, Tryz.func76, by kernel_rfl, by kernel_rfl⟩
theorem fun_slices_IndexFunc_impl_Term_impl_Term : Tryz.prog.funcs[F_slices_IndexFunc_impl_Term_impl_Term]? = some Tryz.f76 := Tryz.func76
theorem tmps_slices_IndexFunc_impl_Term_impl_Term : Tryz.f76.ntmps = 19 := Tryz.ntmps76
theorem ress_slices_IndexFunc_impl_Term_impl_Term : Tryz.f76.results = #[.tmp 4] := Tryz.results76
abbrev F_impl_termShape : FuncId := 77
instance can_impl_termShape : Callable Tryz.prog 77 := ⟨_, Tryz.func77, by kernel_rfl, by kernel_rfl⟩
theorem fun_impl_termShape : Tryz.prog.funcs[F_impl_termShape]? = some Tryz.f77 := Tryz.func77
theorem tmps_impl_termShape : Tryz.f77.ntmps = 50 := Tryz.ntmps77
theorem ress_impl_termShape : Tryz.f77.results = #[.tmp 2] := Tryz.results77
abbrev F_impl_callsBelow_1 : FuncId := 78
instance can_impl_callsBelow_1 : Callable Tryz.prog 78 := ⟨_, Tryz.func78, by kernel_rfl, by kernel_rfl⟩
theorem fun_impl_callsBelow_1 : Tryz.prog.funcs[F_impl_callsBelow_1]? = some Tryz.f78 := Tryz.func78
theorem tmps_impl_callsBelow_1 : Tryz.f78.ntmps = 8 := Tryz.ntmps78
theorem ress_impl_callsBelow_1 : Tryz.f78.results = #[.tmp 3] := Tryz.results78
abbrev F_slices_SortFunc_impl_Move_impl_Move : FuncId := 79
instance can_slices_SortFunc_impl_Move_impl_Move : Callable Tryz.prog 79 := ⟨_, Tryz.func79, by kernel_rfl, by kernel_rfl⟩
theorem fun_slices_SortFunc_impl_Move_impl_Move : Tryz.prog.funcs[F_slices_SortFunc_impl_Move_impl_Move]? = some Tryz.f79 := Tryz.func79
theorem tmps_slices_SortFunc_impl_Move_impl_Move : Tryz.f79.ntmps = 14 := Tryz.ntmps79
theorem ress_slices_SortFunc_impl_Move_impl_Move : Tryz.f79.results = #[] := Tryz.results79
abbrev F_slices_Compact_impl_Move_impl_Move : FuncId := 80
instance can_slices_Compact_impl_Move_impl_Move : Callable Tryz.prog 80 := ⟨_, Tryz.func80, by kernel_rfl, by kernel_rfl⟩
theorem fun_slices_Compact_impl_Move_impl_Move : Tryz.prog.funcs[F_slices_Compact_impl_Move_impl_Move]? = some Tryz.f80 := Tryz.func80
theorem tmps_slices_Compact_impl_Move_impl_Move : Tryz.f80.ntmps = 61 := Tryz.ntmps80
theorem ress_slices_Compact_impl_Move_impl_Move : Tryz.f80.results = #[.tmp 2] := Tryz.results80
abbrev F_spec_l2Calls : FuncId := 82
instance can_spec_l2Calls : Callable Tryz.prog 82 := ⟨_, Tryz.func82, by kernel_rfl, by kernel_rfl⟩
theorem fun_spec_l2Calls : Tryz.prog.funcs[F_spec_l2Calls]? = some Tryz.f82 := Tryz.func82
theorem tmps_spec_l2Calls : Tryz.f82.ntmps = 38 := Tryz.ntmps82
theorem ress_spec_l2Calls : Tryz.f82.results = #[.tmp 4] := Tryz.results82
abbrev F_spec_TermOk : FuncId := 83
instance can_spec_TermOk : Callable Tryz.prog 83 := ⟨_, Tryz.func83, by kernel_rfl, by kernel_rfl⟩
theorem fun_spec_TermOk : Tryz.prog.funcs[F_spec_TermOk]? = some Tryz.f83 := Tryz.func83
theorem tmps_spec_TermOk : Tryz.f83.ntmps = 6 := Tryz.ntmps83
theorem ress_spec_TermOk : Tryz.f83.results = #[.tmp 2] := Tryz.results83
abbrev F_spec_l6In : FuncId := 84
instance can_spec_l6In : Callable Tryz.prog 84 := ⟨_, Tryz.func84, by kernel_rfl, by kernel_rfl⟩
theorem fun_spec_l6In : Tryz.prog.funcs[F_spec_l6In]? = some Tryz.f84 := Tryz.func84
theorem tmps_spec_l6In : Tryz.f84.ntmps = 15 := Tryz.ntmps84
theorem ress_spec_l6In : Tryz.f84.results = #[.tmp 6] := Tryz.results84
abbrev F_spec_l6Dec : FuncId := 85
instance can_spec_l6Dec : Callable Tryz.prog 85 := ⟨_, Tryz.func85, by kernel_rfl, by kernel_rfl⟩
theorem fun_spec_l6Dec : Tryz.prog.funcs[F_spec_l6Dec]? = some Tryz.f85 := Tryz.func85
theorem tmps_spec_l6Dec : Tryz.f85.ntmps = 28 := Tryz.ntmps85
theorem ress_spec_l6Dec : Tryz.f85.results = #[.tmp 2] := Tryz.results85
abbrev F_spec_l2Words : FuncId := 86
instance can_spec_l2Words : Callable Tryz.prog 86 := ⟨_, Tryz.func86, by kernel_rfl, by kernel_rfl⟩
theorem fun_spec_l2Words : Tryz.prog.funcs[F_spec_l2Words]? = some Tryz.f86 := Tryz.func86
theorem tmps_spec_l2Words : Tryz.f86.ntmps = 2 := Tryz.ntmps86
theorem ress_spec_l2Words : Tryz.f86.results = #[.tmp 0] := Tryz.results86
abbrev F_spec_l1Text : FuncId := 87
instance can_spec_l1Text : Callable Tryz.prog 87 := ⟨_, Tryz.func87, by kernel_rfl, by kernel_rfl⟩
theorem fun_spec_l1Text : Tryz.prog.funcs[F_spec_l1Text]? = some Tryz.f87 := Tryz.func87
theorem tmps_spec_l1Text : Tryz.f87.ntmps = 22 := Tryz.ntmps87
theorem ress_spec_l1Text : Tryz.f87.results = #[.tmp 2] := Tryz.results87
abbrev F_spec_l1Name : FuncId := 88
instance can_spec_l1Name : Callable Tryz.prog 88 := ⟨_, Tryz.func88, by kernel_rfl, by kernel_rfl⟩
theorem fun_spec_l1Name : Tryz.prog.funcs[F_spec_l1Name]? = some Tryz.f88 := Tryz.func88
theorem tmps_spec_l1Name : Tryz.f88.ntmps = 8 := Tryz.ntmps88
theorem ress_spec_l1Name : Tryz.f88.results = #[.tmp 2] := Tryz.results88
abbrev F_spec_ActOk : FuncId := 89
instance can_spec_ActOk : Callable Tryz.prog 89 := ⟨_, Tryz.func89, by kernel_rfl, by kernel_rfl⟩
theorem fun_spec_ActOk : Tryz.prog.funcs[F_spec_ActOk]? = some Tryz.f89 := Tryz.func89
theorem tmps_spec_ActOk : Tryz.f89.ntmps = 5 := Tryz.ntmps89
theorem ress_spec_ActOk : Tryz.f89.results = #[.tmp 2] := Tryz.results89
abbrev F_spec_l3Less : FuncId := 90
instance can_spec_l3Less : Callable Tryz.prog 90 := ⟨_, Tryz.func90, by kernel_rfl, by kernel_rfl⟩
theorem fun_spec_l3Less : Tryz.prog.funcs[F_spec_l3Less]? = some Tryz.f90 := Tryz.func90
theorem tmps_spec_l3Less : Tryz.f90.ntmps = 24 := Tryz.ntmps90
theorem ress_spec_l3Less : Tryz.f90.results = #[.tmp 4] := Tryz.results90
abbrev F_cmp_isNaN_int : FuncId := 91
instance can_cmp_isNaN_int : Callable Tryz.prog 91 := ⟨_, Tryz.func91, by kernel_rfl, by kernel_rfl⟩
theorem fun_cmp_isNaN_int : Tryz.prog.funcs[F_cmp_isNaN_int]? = some Tryz.f91 := Tryz.func91
theorem tmps_cmp_isNaN_int : Tryz.f91.ntmps = 6 := Tryz.ntmps91
theorem ress_cmp_isNaN_int : Tryz.f91.results = #[.tmp 2] := Tryz.results91
abbrev F_slices_insertionSortOrdered_int : FuncId := 92
instance can_slices_insertionSortOrdered_int : Callable Tryz.prog 92 := ⟨_, Tryz.func92, by kernel_rfl, by kernel_rfl⟩
theorem fun_slices_insertionSortOrdered_int : Tryz.prog.funcs[F_slices_insertionSortOrdered_int]? = some Tryz.f92 := Tryz.func92
theorem tmps_slices_insertionSortOrdered_int : Tryz.f92.ntmps = 49 := Tryz.ntmps92
theorem ress_slices_insertionSortOrdered_int : Tryz.f92.results = #[] := Tryz.results92
abbrev F_slices_heapSortOrdered_int : FuncId := 93
instance can_slices_heapSortOrdered_int : Callable Tryz.prog 93 := ⟨_, Tryz.func93, by kernel_rfl, by kernel_rfl⟩
theorem fun_slices_heapSortOrdered_int : Tryz.prog.funcs[F_slices_heapSortOrdered_int]? = some Tryz.f93 := Tryz.func93
theorem tmps_slices_heapSortOrdered_int : Tryz.f93.ntmps = 56 := Tryz.ntmps93
theorem ress_slices_heapSortOrdered_int : Tryz.f93.results = #[] := Tryz.results93
abbrev F_slices_breakPatternsOrdered_int : FuncId := 94
instance can_slices_breakPatternsOrdered_int : Callable Tryz.prog 94 := ⟨_, Tryz.func94, by kernel_rfl, by kernel_rfl⟩
theorem fun_slices_breakPatternsOrdered_int : Tryz.prog.funcs[F_slices_breakPatternsOrdered_int]? = some Tryz.f94 := Tryz.func94
theorem tmps_slices_breakPatternsOrdered_int : Tryz.f94.ntmps = 65 := Tryz.ntmps94
theorem ress_slices_breakPatternsOrdered_int : Tryz.f94.results = #[] := Tryz.results94
abbrev F_slices_choosePivotOrdered_int : FuncId := 95
instance can_slices_choosePivotOrdered_int : Callable Tryz.prog 95 := ⟨_, Tryz.func95, by kernel_rfl, by kernel_rfl⟩
theorem fun_slices_choosePivotOrdered_int : Tryz.prog.funcs[F_slices_choosePivotOrdered_int]? = some Tryz.f95 := Tryz.func95
theorem tmps_slices_choosePivotOrdered_int : Tryz.f95.ntmps = 57 := Tryz.ntmps95
theorem ress_slices_choosePivotOrdered_int : Tryz.f95.results = #[.tmp 6, .tmp 7] := Tryz.results95
abbrev F_slices_reverseRangeOrdered_int : FuncId := 96
instance can_slices_reverseRangeOrdered_int : Callable Tryz.prog 96 := ⟨_, Tryz.func96, by kernel_rfl, by kernel_rfl⟩
theorem fun_slices_reverseRangeOrdered_int : Tryz.prog.funcs[F_slices_reverseRangeOrdered_int]? = some Tryz.f96 := Tryz.func96
theorem tmps_slices_reverseRangeOrdered_int : Tryz.f96.ntmps = 32 := Tryz.ntmps96
theorem ress_slices_reverseRangeOrdered_int : Tryz.f96.results = #[] := Tryz.results96
abbrev F_slices_partialInsertionSortOrdered_int : FuncId := 97
instance can_slices_partialInsertionSortOrdered_int : Callable Tryz.prog 97 := ⟨_, Tryz.func97, by kernel_rfl, by kernel_rfl⟩
theorem fun_slices_partialInsertionSortOrdered_int : Tryz.prog.funcs[F_slices_partialInsertionSortOrdered_int]? = some Tryz.f97 := Tryz.func97
theorem tmps_slices_partialInsertionSortOrdered_int : Tryz.f97.ntmps = 133 := Tryz.ntmps97
theorem ress_slices_partialInsertionSortOrdered_int : Tryz.f97.results = #[.tmp 6] := Tryz.results97
abbrev F_cmp_Less_int : FuncId := 98
instance can_cmp_Less_int : Callable Tryz.prog 98 := ⟨_, Tryz.func98, by kernel_rfl, by kernel_rfl⟩
theorem fun_cmp_Less_int : Tryz.prog.funcs[F_cmp_Less_int]? = some Tryz.f98 := Tryz.func98
theorem tmps_cmp_Less_int : Tryz.f98.ntmps = 17 := Tryz.ntmps98
theorem ress_cmp_Less_int : Tryz.f98.results = #[.tmp 4] := Tryz.results98
abbrev F_slices_partitionEqualOrdered_int : FuncId := 99
instance can_slices_partitionEqualOrdered_int : Callable Tryz.prog 99 := ⟨_, Tryz.func99, by kernel_rfl, by kernel_rfl⟩
theorem fun_slices_partitionEqualOrdered_int : Tryz.prog.funcs[F_slices_partitionEqualOrdered_int]? = some Tryz.f99 := Tryz.func99
theorem tmps_slices_partitionEqualOrdered_int : Tryz.f99.ntmps = 84 := Tryz.ntmps99
theorem ress_slices_partitionEqualOrdered_int : Tryz.f99.results = #[.tmp 8] := Tryz.results99
abbrev F_slices_partitionOrdered_int : FuncId := 100
instance can_slices_partitionOrdered_int : Callable Tryz.prog 100 := ⟨_, Tryz.func100, by kernel_rfl, by kernel_rfl⟩
theorem fun_slices_partitionOrdered_int : Tryz.prog.funcs[F_slices_partitionOrdered_int]? = some Tryz.f100 := Tryz.func100
theorem tmps_slices_partitionOrdered_int : Tryz.f100.ntmps = 168 := Tryz.ntmps100
theorem ress_slices_partitionOrdered_int : Tryz.f100.results = #[.tmp 8, .tmp 9] := Tryz.results100
abbrev F_bits_Len32 : FuncId := 101
instance can_bits_Len32 : Callable Tryz.prog 101 := ⟨_, Tryz.func101, by kernel_rfl, by kernel_rfl⟩
theorem fun_bits_Len32 : Tryz.prog.funcs[F_bits_Len32]? = some Tryz.f101 := Tryz.func101
theorem tmps_bits_Len32 : Tryz.f101.ntmps = 19 := Tryz.ntmps101
theorem ress_bits_Len32 : Tryz.f101.results = #[.tmp 2] := Tryz.results101
abbrev F_bits_Len64 : FuncId := 102
instance can_bits_Len64 : Callable Tryz.prog 102 := ⟨_, Tryz.func102, by kernel_rfl, by kernel_rfl⟩
theorem fun_bits_Len64 : Tryz.prog.funcs[F_bits_Len64]? = some Tryz.f102 := Tryz.func102
theorem tmps_bits_Len64 : Tryz.f102.ntmps = 25 := Tryz.ntmps102
theorem ress_bits_Len64 : Tryz.f102.results = #[.tmp 2] := Tryz.results102
abbrev F_spec_GraphOk : FuncId := 103
instance can_spec_GraphOk : Callable Tryz.prog 103 := ⟨_, Tryz.func103, by kernel_rfl, by kernel_rfl⟩
theorem fun_spec_GraphOk : Tryz.prog.funcs[F_spec_GraphOk]? = some Tryz.f103 := Tryz.func103
theorem tmps_spec_GraphOk : Tryz.f103.ntmps = 68 := Tryz.ntmps103
theorem ress_spec_GraphOk : Tryz.f103.results = #[.tmp 2] := Tryz.results103
abbrev F_spec_l4Both : FuncId := 104
instance can_spec_l4Both : Callable Tryz.prog 104 := ⟨_, Tryz.func104, by kernel_rfl, by kernel_rfl⟩
theorem fun_spec_l4Both : Tryz.prog.funcs[F_spec_l4Both]? = some Tryz.f104 := Tryz.func104
theorem tmps_spec_l4Both : Tryz.f104.ntmps = 83 := Tryz.ntmps104
theorem ress_spec_l4Both : Tryz.f104.results = #[.cell 4 30] := Tryz.results104
abbrev F_spec_l4Next : FuncId := 105
instance can_spec_l4Next : Callable Tryz.prog 105 := ⟨_, Tryz.func105, by kernel_rfl, by kernel_rfl⟩
theorem fun_spec_l4Next : Tryz.prog.funcs[F_spec_l4Next]? = some Tryz.f105 := Tryz.func105
theorem tmps_spec_l4Next : Tryz.f105.ntmps = 52 := Tryz.ntmps105
theorem ress_spec_l4Next : Tryz.f105.results = #[.tmp 4] := Tryz.results105
abbrev F_spec_l4Same : FuncId := 106
instance can_spec_l4Same : Callable Tryz.prog 106 := ⟨_, Tryz.func106, by kernel_rfl, by kernel_rfl⟩
theorem fun_spec_l4Same : Tryz.prog.funcs[F_spec_l4Same]? = some Tryz.f106 := Tryz.func106
theorem tmps_spec_l4Same : Tryz.f106.ntmps = 26 := Tryz.ntmps106
theorem ress_spec_l4Same : Tryz.f106.results = #[.tmp 4] := Tryz.results106
abbrev F_impl_shifted : FuncId := 107
instance can_impl_shifted : Callable Tryz.prog 107 := ⟨_, Tryz.func107, by kernel_rfl, by kernel_rfl⟩
theorem fun_impl_shifted : Tryz.prog.funcs[F_impl_shifted]? = some Tryz.f107 := Tryz.func107
theorem tmps_impl_shifted : Tryz.f107.ntmps = 27 := Tryz.ntmps107
theorem ress_impl_shifted : Tryz.f107.results = #[.tmp 4] := Tryz.results107
abbrev F_impl_rounds : FuncId := 108
instance can_impl_rounds : Callable Tryz.prog 108 := ⟨_, Tryz.func108, by kernel_rfl, by kernel_rfl⟩
theorem fun_impl_rounds : Tryz.prog.funcs[F_impl_rounds]? = some Tryz.f108 := Tryz.func108
theorem tmps_impl_rounds : Tryz.f108.ntmps = 28 := Tryz.ntmps108
theorem ress_impl_rounds : Tryz.f108.results = #[.tmp 4] := Tryz.results108
abbrev F_impl_alikeRounds_1 : FuncId := 109
instance can_impl_alikeRounds_1 : Callable Tryz.prog 109 := ⟨_, Tryz.func109, by kernel_rfl, by kernel_rfl⟩
theorem fun_impl_alikeRounds_1 : Tryz.prog.funcs[F_impl_alikeRounds_1]? = some Tryz.f109 := Tryz.func109
theorem tmps_impl_alikeRounds_1 : Tryz.f109.ntmps = 34 := Tryz.ntmps109
theorem ress_impl_alikeRounds_1 : Tryz.f109.results = #[.tmp 5] := Tryz.results109
abbrev F_impl_nameOk : FuncId := 110
instance can_impl_nameOk : Callable Tryz.prog 110 := ⟨_, Tryz.func110, by kernel_rfl, by kernel_rfl⟩
theorem fun_impl_nameOk : Tryz.prog.funcs[F_impl_nameOk]? = some Tryz.f110 := Tryz.func110
theorem tmps_impl_nameOk : Tryz.f110.ntmps = 9 := Tryz.ntmps110
theorem ress_impl_nameOk : Tryz.f110.results = #[.tmp 2] := Tryz.results110
abbrev F_impl_termShape_1 : FuncId := 111
instance can_impl_termShape_1 : Callable Tryz.prog 111 := ⟨_, Tryz.func111, by kernel_rfl, by kernel_rfl⟩
theorem fun_impl_termShape_1 : Tryz.prog.funcs[F_impl_termShape_1]? = some Tryz.f111 := Tryz.func111
theorem tmps_impl_termShape_1 : Tryz.f111.ntmps = 6 := Tryz.ntmps111
theorem ress_impl_termShape_1 : Tryz.f111.results = #[.tmp 2] := Tryz.results111
abbrev F_slices_pdqsortCmpFunc_impl_Move : FuncId := 112
instance can_slices_pdqsortCmpFunc_impl_Move : Callable Tryz.prog 112 := ⟨_, Tryz.func112, by kernel_rfl, by kernel_rfl⟩
theorem fun_slices_pdqsortCmpFunc_impl_Move : Tryz.prog.funcs[F_slices_pdqsortCmpFunc_impl_Move]? = some Tryz.f112 := Tryz.func112
theorem tmps_slices_pdqsortCmpFunc_impl_Move : Tryz.f112.ntmps = 148 := Tryz.ntmps112
theorem ress_slices_pdqsortCmpFunc_impl_Move : Tryz.f112.results = #[] := Tryz.results112
abbrev F_slices_siftDownOrdered_int : FuncId := 114
instance can_slices_siftDownOrdered_int : Callable Tryz.prog 114 := ⟨_, Tryz.func114, by kernel_rfl, by kernel_rfl⟩
theorem fun_slices_siftDownOrdered_int : Tryz.prog.funcs[F_slices_siftDownOrdered_int]? = some Tryz.f114 := Tryz.func114
theorem tmps_slices_siftDownOrdered_int : Tryz.f114.ntmps = 76 := Tryz.ntmps114
theorem ress_slices_siftDownOrdered_int : Tryz.f114.results = #[] := Tryz.results114
abbrev F_slices_nextPowerOfTwo : FuncId := 115
instance can_slices_nextPowerOfTwo : Callable Tryz.prog 115 := ⟨_, Tryz.func115, by kernel_rfl, by kernel_rfl⟩
theorem fun_slices_nextPowerOfTwo : Tryz.prog.funcs[F_slices_nextPowerOfTwo]? = some Tryz.f115 := Tryz.func115
theorem tmps_slices_nextPowerOfTwo : Tryz.f115.ntmps = 7 := Tryz.ntmps115
theorem ress_slices_nextPowerOfTwo : Tryz.f115.results = #[.tmp 2] := Tryz.results115
abbrev F_slices_xorshift_Next : FuncId := 116
instance can_slices_xorshift_Next : Callable Tryz.prog 116 := ⟨_, Tryz.func116, by kernel_rfl, by kernel_rfl⟩
theorem fun_slices_xorshift_Next : Tryz.prog.funcs[F_slices_xorshift_Next]? = some Tryz.f116 := Tryz.func116
theorem tmps_slices_xorshift_Next : Tryz.f116.ntmps = 33 := Tryz.ntmps116
theorem ress_slices_xorshift_Next : Tryz.f116.results = #[.tmp 2] := Tryz.results116
abbrev F_slices_medianAdjacentOrdered_int : FuncId := 117
instance can_slices_medianAdjacentOrdered_int : Callable Tryz.prog 117 := ⟨_, Tryz.func117, by kernel_rfl, by kernel_rfl⟩
theorem fun_slices_medianAdjacentOrdered_int : Tryz.prog.funcs[F_slices_medianAdjacentOrdered_int]? = some Tryz.f117 := Tryz.func117
theorem tmps_slices_medianAdjacentOrdered_int : Tryz.f117.ntmps = 15 := Tryz.ntmps117
theorem ress_slices_medianAdjacentOrdered_int : Tryz.f117.results = #[.tmp 6] := Tryz.results117
abbrev F_slices_medianOrdered_int : FuncId := 118
instance can_slices_medianOrdered_int : Callable Tryz.prog 118 := ⟨_, Tryz.func118, by kernel_rfl, by kernel_rfl⟩
theorem fun_slices_medianOrdered_int : Tryz.prog.funcs[F_slices_medianOrdered_int]? = some Tryz.f118 := Tryz.func118
theorem tmps_slices_medianOrdered_int : Tryz.f118.ntmps = 36 := Tryz.ntmps118
theorem ress_slices_medianOrdered_int : Tryz.f118.results = #[.tmp 10] := Tryz.results118
abbrev F_spec_l4Covers : FuncId := 119
instance can_spec_l4Covers : Callable Tryz.prog 119 := ⟨_, Tryz.func119, by kernel_rfl, by kernel_rfl⟩
theorem fun_spec_l4Covers : Tryz.prog.funcs[F_spec_l4Covers]? = some Tryz.f119 := Tryz.func119
theorem tmps_spec_l4Covers : Tryz.f119.ntmps = 41 := Tryz.ntmps119
theorem ress_spec_l4Covers : Tryz.f119.results = #[.tmp 8] := Tryz.results119
abbrev F_impl_refine : FuncId := 120
instance can_impl_refine : Callable Tryz.prog 120 := ⟨_, Tryz.func120, by kernel_rfl, by kernel_rfl⟩
theorem fun_impl_refine : Tryz.prog.funcs[F_impl_refine]? = some Tryz.f120 := Tryz.func120
theorem tmps_impl_refine : Tryz.f120.ntmps = 61 := Tryz.ntmps120
theorem ress_impl_refine : Tryz.f120.results = #[.tmp 4] := Tryz.results120
abbrev F_impl_rounds_1 : FuncId := 121
instance can_impl_rounds_1 : Callable Tryz.prog 121 := ⟨_, Tryz.func121, by kernel_rfl, by kernel_rfl⟩
theorem fun_impl_rounds_1 : Tryz.prog.funcs[F_impl_rounds_1]? = some Tryz.f121 := Tryz.func121
theorem tmps_impl_rounds_1 : Tryz.f121.ntmps = 9 := Tryz.ntmps121
theorem ress_impl_rounds_1 : Tryz.f121.results = #[.tmp 4] := Tryz.results121
abbrev F_slices_Equal_int_int : FuncId := 122
instance can_slices_Equal_int_int : Callable Tryz.prog 122 := ⟨_, Tryz.func122, by kernel_rfl, by kernel_rfl⟩
theorem fun_slices_Equal_int_int : Tryz.prog.funcs[F_slices_Equal_int_int]? = some Tryz.f122 := Tryz.func122
theorem tmps_slices_Equal_int_int : Tryz.f122.ntmps = 26 := Tryz.ntmps122
theorem ress_slices_Equal_int_int : Tryz.f122.results = #[.tmp 4] := Tryz.results122
abbrev F_slices_insertionSortCmpFunc_impl_Move : FuncId := 123
instance can_slices_insertionSortCmpFunc_impl_Move : Callable Tryz.prog 123 := ⟨_, Tryz.func123, by kernel_rfl, by kernel_rfl⟩
theorem fun_slices_insertionSortCmpFunc_impl_Move : Tryz.prog.funcs[F_slices_insertionSortCmpFunc_impl_Move]? = some Tryz.f123 := Tryz.func123
theorem tmps_slices_insertionSortCmpFunc_impl_Move : Tryz.f123.ntmps = 53 := Tryz.ntmps123
theorem ress_slices_insertionSortCmpFunc_impl_Move : Tryz.f123.results = #[] := Tryz.results123
abbrev F_slices_heapSortCmpFunc_impl_Move : FuncId := 124
instance can_slices_heapSortCmpFunc_impl_Move : Callable Tryz.prog 124 := ⟨_, Tryz.func124, by kernel_rfl, by kernel_rfl⟩
theorem fun_slices_heapSortCmpFunc_impl_Move : Tryz.prog.funcs[F_slices_heapSortCmpFunc_impl_Move]? = some Tryz.f124 := Tryz.func124
theorem tmps_slices_heapSortCmpFunc_impl_Move : Tryz.f124.ntmps = 60 := Tryz.ntmps124
theorem ress_slices_heapSortCmpFunc_impl_Move : Tryz.f124.results = #[] := Tryz.results124
abbrev F_slices_breakPatternsCmpFunc_impl_Move : FuncId := 125
instance can_slices_breakPatternsCmpFunc_impl_Move : Callable Tryz.prog 125 := ⟨_, Tryz.func125, by kernel_rfl, by kernel_rfl⟩
theorem fun_slices_breakPatternsCmpFunc_impl_Move : Tryz.prog.funcs[F_slices_breakPatternsCmpFunc_impl_Move]? = some Tryz.f125 := Tryz.func125
theorem tmps_slices_breakPatternsCmpFunc_impl_Move : Tryz.f125.ntmps = 67 := Tryz.ntmps125
theorem ress_slices_breakPatternsCmpFunc_impl_Move : Tryz.f125.results = #[] := Tryz.results125
abbrev F_slices_choosePivotCmpFunc_impl_Move : FuncId := 126
instance can_slices_choosePivotCmpFunc_impl_Move : Callable Tryz.prog 126 := ⟨_, Tryz.func126, by kernel_rfl, by kernel_rfl⟩
theorem fun_slices_choosePivotCmpFunc_impl_Move : Tryz.prog.funcs[F_slices_choosePivotCmpFunc_impl_Move]? = some Tryz.f126 := Tryz.func126
theorem tmps_slices_choosePivotCmpFunc_impl_Move : Tryz.f126.ntmps = 63 := Tryz.ntmps126
theorem ress_slices_choosePivotCmpFunc_impl_Move : Tryz.f126.results = #[.tmp 8, .tmp 9] := Tryz.results126
abbrev F_slices_reverseRangeCmpFunc_impl_Move : FuncId := 127
instance can_slices_reverseRangeCmpFunc_impl_Move : Callable Tryz.prog 127 := ⟨_, Tryz.func127, by kernel_rfl, by kernel_rfl⟩
theorem fun_slices_reverseRangeCmpFunc_impl_Move : Tryz.prog.funcs[F_slices_reverseRangeCmpFunc_impl_Move]? = some Tryz.f127 := Tryz.func127
theorem tmps_slices_reverseRangeCmpFunc_impl_Move : Tryz.f127.ntmps = 34 := Tryz.ntmps127
theorem ress_slices_reverseRangeCmpFunc_impl_Move : Tryz.f127.results = #[] := Tryz.results127
abbrev F_slices_partialInsertionSortCmpFunc_impl_Move : FuncId := 128
instance can_slices_partialInsertionSortCmpFunc_impl_Move : Callable Tryz.prog 128 := ⟨_, Tryz.func128, by kernel_rfl, by kernel_rfl⟩
theorem fun_slices_partialInsertionSortCmpFunc_impl_Move : Tryz.prog.funcs[F_slices_partialInsertionSortCmpFunc_impl_Move]? = some Tryz.f128 := Tryz.func128
theorem tmps_slices_partialInsertionSortCmpFunc_impl_Move : Tryz.f128.ntmps = 141 := Tryz.ntmps128
theorem ress_slices_partialInsertionSortCmpFunc_impl_Move : Tryz.f128.results = #[.tmp 8] := Tryz.results128
abbrev F_slices_partitionEqualCmpFunc_impl_Move : FuncId := 129
instance can_slices_partitionEqualCmpFunc_impl_Move : Callable Tryz.prog 129 := ⟨_, Tryz.func129, by kernel_rfl, by kernel_rfl⟩
theorem fun_slices_partitionEqualCmpFunc_impl_Move : Tryz.prog.funcs[F_slices_partitionEqualCmpFunc_impl_Move]? = some Tryz.f129 := Tryz.func129
theorem tmps_slices_partitionEqualCmpFunc_impl_Move : Tryz.f129.ntmps = 90 := Tryz.ntmps129
theorem ress_slices_partitionEqualCmpFunc_impl_Move : Tryz.f129.results = #[.tmp 10] := Tryz.results129
abbrev F_slices_partitionCmpFunc_impl_Move : FuncId := 130
instance can_slices_partitionCmpFunc_impl_Move : Callable Tryz.prog 130 := ⟨_, Tryz.func130, by kernel_rfl, by kernel_rfl⟩
theorem fun_slices_partitionCmpFunc_impl_Move : Tryz.prog.funcs[F_slices_partitionCmpFunc_impl_Move]? = some Tryz.f130 := Tryz.func130
theorem tmps_slices_partitionCmpFunc_impl_Move : Tryz.f130.ntmps = 178 := Tryz.ntmps130
theorem ress_slices_partitionCmpFunc_impl_Move : Tryz.f130.results = #[.tmp 10, .tmp 11] := Tryz.results130
abbrev F_slices_order2Ordered_int : FuncId := 135
instance can_slices_order2Ordered_int : Callable Tryz.prog 135 := ⟨_, Tryz.func135, by kernel_rfl, by kernel_rfl⟩
theorem fun_slices_order2Ordered_int : Tryz.prog.funcs[F_slices_order2Ordered_int]? = some Tryz.f135 := Tryz.func135
theorem tmps_slices_order2Ordered_int : Tryz.f135.ntmps = 28 := Tryz.ntmps135
theorem ress_slices_order2Ordered_int : Tryz.f135.results = #[.tmp 8, .tmp 9] := Tryz.results135
abbrev F_spec_l4Has : FuncId := 136
instance can_spec_l4Has : Callable Tryz.prog 136 := ⟨_, Tryz.func136, by kernel_rfl, by kernel_rfl⟩
theorem fun_spec_l4Has : Tryz.prog.funcs[F_spec_l4Has]? = some Tryz.f136 := Tryz.func136
theorem tmps_spec_l4Has : Tryz.f136.ntmps = 44 := Tryz.ntmps136
theorem ress_spec_l4Has : Tryz.f136.results = #[.tmp 10] := Tryz.results136
abbrev F_slices_Equal_impl_Move_impl_Move : FuncId := 137
instance can_slices_Equal_impl_Move_impl_Move : Callable Tryz.prog 137 := ⟨_, Tryz.func137, by kernel_rfl, by kernel_rfl⟩
theorem fun_slices_Equal_impl_Move_impl_Move : Tryz.prog.funcs[F_slices_Equal_impl_Move_impl_Move]? = some Tryz.f137 := Tryz.func137
theorem tmps_slices_Equal_impl_Move_impl_Move : Tryz.f137.ntmps = 26 := Tryz.ntmps137
theorem ress_slices_Equal_impl_Move_impl_Move : Tryz.f137.results = #[.tmp 4] := Tryz.results137
abbrev F_slices_siftDownCmpFunc_impl_Move : FuncId := 138
instance can_slices_siftDownCmpFunc_impl_Move : Callable Tryz.prog 138 := ⟨_, Tryz.func138, by kernel_rfl, by kernel_rfl⟩
theorem fun_slices_siftDownCmpFunc_impl_Move : Tryz.prog.funcs[F_slices_siftDownCmpFunc_impl_Move]? = some Tryz.f138 := Tryz.func138
theorem tmps_slices_siftDownCmpFunc_impl_Move : Tryz.f138.ntmps = 82 := Tryz.ntmps138
theorem ress_slices_siftDownCmpFunc_impl_Move : Tryz.f138.results = #[] := Tryz.results138
abbrev F_slices_medianAdjacentCmpFunc_impl_Move : FuncId := 139
instance can_slices_medianAdjacentCmpFunc_impl_Move : Callable Tryz.prog 139 := ⟨_, Tryz.func139, by kernel_rfl, by kernel_rfl⟩
theorem fun_slices_medianAdjacentCmpFunc_impl_Move : Tryz.prog.funcs[F_slices_medianAdjacentCmpFunc_impl_Move]? = some Tryz.f139 := Tryz.func139
theorem tmps_slices_medianAdjacentCmpFunc_impl_Move : Tryz.f139.ntmps = 18 := Tryz.ntmps139
theorem ress_slices_medianAdjacentCmpFunc_impl_Move : Tryz.f139.results = #[.tmp 8] := Tryz.results139
abbrev F_slices_medianCmpFunc_impl_Move : FuncId := 140
instance can_slices_medianCmpFunc_impl_Move : Callable Tryz.prog 140 := ⟨_, Tryz.func140, by kernel_rfl, by kernel_rfl⟩
theorem fun_slices_medianCmpFunc_impl_Move : Tryz.prog.funcs[F_slices_medianCmpFunc_impl_Move]? = some Tryz.f140 := Tryz.func140
theorem tmps_slices_medianCmpFunc_impl_Move : Tryz.f140.ntmps = 41 := Tryz.ntmps140
theorem ress_slices_medianCmpFunc_impl_Move : Tryz.f140.results = #[.tmp 12] := Tryz.results140
abbrev F_bits_TrailingZeros : FuncId := 144
instance can_bits_TrailingZeros : Callable Tryz.prog 144 := ⟨_, Tryz.func144, by kernel_rfl, by kernel_rfl⟩
theorem fun_bits_TrailingZeros : Tryz.prog.funcs[F_bits_TrailingZeros]? = some Tryz.f144 := Tryz.func144
theorem tmps_bits_TrailingZeros : Tryz.f144.ntmps = 8 := Tryz.ntmps144
theorem ress_bits_TrailingZeros : Tryz.f144.results = #[.tmp 2] := Tryz.results144
abbrev F_slices_order2CmpFunc_impl_Move : FuncId := 145
instance can_slices_order2CmpFunc_impl_Move : Callable Tryz.prog 145 := ⟨_, Tryz.func145, by kernel_rfl, by kernel_rfl⟩
theorem fun_slices_order2CmpFunc_impl_Move : Tryz.prog.funcs[F_slices_order2CmpFunc_impl_Move]? = some Tryz.f145 := Tryz.func145
theorem tmps_slices_order2CmpFunc_impl_Move : Tryz.f145.ntmps = 32 := Tryz.ntmps145
theorem ress_slices_order2CmpFunc_impl_Move : Tryz.f145.results = #[.tmp 10, .tmp 11] := Tryz.results145
abbrev F_bits_TrailingZeros32 : FuncId := 146
instance can_bits_TrailingZeros32 : Callable Tryz.prog 146 := ⟨_, Tryz.func146, by kernel_rfl, by kernel_rfl⟩
theorem fun_bits_TrailingZeros32 : Tryz.prog.funcs[F_bits_TrailingZeros32]? = some Tryz.f146 := Tryz.func146
theorem tmps_bits_TrailingZeros32 : Tryz.f146.ntmps = 14 := Tryz.ntmps146
theorem ress_bits_TrailingZeros32 : Tryz.f146.results = #[.tmp 2] := Tryz.results146
abbrev F_bits_TrailingZeros64 : FuncId := 147
instance can_bits_TrailingZeros64 : Callable Tryz.prog 147 := ⟨_, Tryz.func147, by kernel_rfl, by kernel_rfl⟩
theorem fun_bits_TrailingZeros64 : Tryz.prog.funcs[F_bits_TrailingZeros64]? = some Tryz.f147 := Tryz.func147
theorem tmps_bits_TrailingZeros64 : Tryz.f147.ntmps = 14 := Tryz.ntmps147
theorem ress_bits_TrailingZeros64 : Tryz.f147.results = #[.tmp 2] := Tryz.results147
abbrev F_gosem_cut_vars : FuncId := 169
instance can_gosem_cut_vars : Callable Tryz.prog 169 := ⟨_, Tryz.func169, by kernel_rfl, by kernel_rfl⟩
theorem fun_gosem_cut_vars : Tryz.prog.funcs[F_gosem_cut_vars]? = some Tryz.f169 := Tryz.func169
theorem tmps_gosem_cut_vars : Tryz.f169.ntmps = 3 := Tryz.ntmps169
theorem ress_gosem_cut_vars : Tryz.f169.results = #[] := Tryz.results169
theorem mixed_ : Tryz.prog.follows .mixedOrders = true := by kernel_rfl
end Go.Proofs.YthbodgnoadlbcaaGreatDoor.Asl
