/- Facts on the translation's types and functions, by name. Written by a program of this session. -/
import Derived.Test.YtpkgcdpebomalaaProg
import Derived.Test.YtpkgcdpebomalaaB6
namespace Go.Proofs.Ytpkgcdpebomalaa.Asl
open Go.RowKit
set_option linter.unusedVariables false
abbrev T_func1 : TypeId := 1
instance ty_func1 : Ty Try.prog 1 false 1 8 (.nilFunc) := ⟨by kernel_rfl, by kernel_rfl⟩
abbrev T_int64 : TypeId := 2
instance ty_int64 : Ty Try.prog 2 false 1 8 (.int .i64 0) := ⟨by kernel_rfl, by kernel_rfl⟩
instance un_int64 : Un Try.prog 2 (.int .i64) := ⟨by kernel_rfl⟩
abbrev T_int : TypeId := 3
instance ty_int : Ty Try.prog 3 false 1 8 (.int .i64 0) := ⟨by kernel_rfl, by kernel_rfl⟩
instance un_int : Un Try.prog 3 (.int .i64) := ⟨by kernel_rfl⟩
abbrev T_bool : TypeId := 4
instance ty_bool : Ty Try.prog 4 false 1 1 (.bool false) := ⟨by kernel_rfl, by kernel_rfl⟩
instance un_bool : Un Try.prog 4 (.bool) := ⟨by kernel_rfl⟩
abbrev T_uint8 : TypeId := 5
instance ty_uint8 : Ty Try.prog 5 false 1 1 (.int .u8 0) := ⟨by kernel_rfl, by kernel_rfl⟩
instance un_uint8 : Un Try.prog 5 (.int .u8) := ⟨by kernel_rfl⟩
abbrev T_string : TypeId := 9
instance ty_string : Ty Try.prog 9 false 1 16 (.string ⟨#[]⟩) := ⟨by kernel_rfl, by kernel_rfl⟩
instance un_string : Un Try.prog 9 (.string) := ⟨by kernel_rfl⟩
abbrev T_int32 : TypeId := 21
instance ty_int32 : Ty Try.prog 21 false 1 4 (.int .i32 0) := ⟨by kernel_rfl, by kernel_rfl⟩
instance un_int32 : Un Try.prog 21 (.int .i32) := ⟨by kernel_rfl⟩
abbrev T_s_laws_Term : TypeId := 22
instance ty_s_laws_Term : Ty Try.prog 22 false 1 24 (.slice none 0 0) := ⟨by kernel_rfl, by kernel_rfl⟩
instance un_s_laws_Term : Un Try.prog 22 (.slice 24) := ⟨by kernel_rfl⟩
abbrev T_laws_Term : TypeId := 24
instance ty_laws_Term : Ty Try.prog 24 true 3 40 (.agg #[(.int .i64 0), (.int .i64 0), (.slice none 0 0)]) := ⟨by kernel_rfl, by kernel_rfl⟩
abbrev T_func25 : TypeId := 25
instance ty_func25 : Ty Try.prog 25 false 1 8 (.nilFunc) := ⟨by kernel_rfl, by kernel_rfl⟩
abbrev T_func26 : TypeId := 26
instance ty_func26 : Ty Try.prog 26 false 1 8 (.nilFunc) := ⟨by kernel_rfl, by kernel_rfl⟩
abbrev T_s_impl_Step : TypeId := 27
instance ty_s_impl_Step : Ty Try.prog 27 false 1 24 (.slice none 0 0) := ⟨by kernel_rfl, by kernel_rfl⟩
instance un_s_impl_Step : Un Try.prog 27 (.slice 70) := ⟨by kernel_rfl⟩
abbrev T_func29 : TypeId := 29
instance ty_func29 : Ty Try.prog 29 false 1 8 (.nilFunc) := ⟨by kernel_rfl, by kernel_rfl⟩
abbrev T_s_impl_Term : TypeId := 30
instance ty_s_impl_Term : Ty Try.prog 30 false 1 24 (.slice none 0 0) := ⟨by kernel_rfl, by kernel_rfl⟩
instance un_s_impl_Term : Un Try.prog 30 (.slice 32) := ⟨by kernel_rfl⟩
abbrev T_impl_Term : TypeId := 32
instance ty_impl_Term : Ty Try.prog 32 true 3 40 (.agg #[(.int .i64 0), (.int .i64 0), (.slice none 0 0)]) := ⟨by kernel_rfl, by kernel_rfl⟩
abbrev T_func33 : TypeId := 33
instance ty_func33 : Ty Try.prog 33 false 1 8 (.nilFunc) := ⟨by kernel_rfl, by kernel_rfl⟩
abbrev T_func34 : TypeId := 34
instance ty_func34 : Ty Try.prog 34 false 1 8 (.nilFunc) := ⟨by kernel_rfl, by kernel_rfl⟩
abbrev T_func35 : TypeId := 35
instance ty_func35 : Ty Try.prog 35 false 1 8 (.nilFunc) := ⟨by kernel_rfl, by kernel_rfl⟩
abbrev T_func36 : TypeId := 36
instance ty_func36 : Ty Try.prog 36 false 1 8 (.nilFunc) := ⟨by kernel_rfl, by kernel_rfl⟩
abbrev T_func37 : TypeId := 37
instance ty_func37 : Ty Try.prog 37 false 1 8 (.nilFunc) := ⟨by kernel_rfl, by kernel_rfl⟩
abbrev T_func38 : TypeId := 38
instance ty_func38 : Ty Try.prog 38 false 1 8 (.nilFunc) := ⟨by kernel_rfl, by kernel_rfl⟩
abbrev T_func39 : TypeId := 39
instance ty_func39 : Ty Try.prog 39 false 1 8 (.nilFunc) := ⟨by kernel_rfl, by kernel_rfl⟩
abbrev T_func40 : TypeId := 40
instance ty_func40 : Ty Try.prog 40 false 1 8 (.nilFunc) := ⟨by kernel_rfl, by kernel_rfl⟩
abbrev T_func41 : TypeId := 41
instance ty_func41 : Ty Try.prog 41 false 1 8 (.nilFunc) := ⟨by kernel_rfl, by kernel_rfl⟩
abbrev T_s_uint8 : TypeId := 42
instance ty_s_uint8 : Ty Try.prog 42 false 1 24 (.slice none 0 0) := ⟨by kernel_rfl, by kernel_rfl⟩
instance un_s_uint8 : Un Try.prog 42 (.slice 5) := ⟨by kernel_rfl⟩
abbrev T_s_s_impl_Move : TypeId := 43
instance ty_s_s_impl_Move : Ty Try.prog 43 false 1 24 (.slice none 0 0) := ⟨by kernel_rfl, by kernel_rfl⟩
instance un_s_s_impl_Move : Un Try.prog 43 (.slice 80) := ⟨by kernel_rfl⟩
abbrev T_impl_Graph : TypeId := 45
instance ty_impl_Graph : Ty Try.prog 45 true 1 24 (.agg #[(.slice none 0 0)]) := ⟨by kernel_rfl, by kernel_rfl⟩
abbrev T_func47 : TypeId := 47
instance ty_func47 : Ty Try.prog 47 false 1 8 (.nilFunc) := ⟨by kernel_rfl, by kernel_rfl⟩
abbrev T_func49 : TypeId := 49
instance ty_func49 : Ty Try.prog 49 false 1 8 (.nilFunc) := ⟨by kernel_rfl, by kernel_rfl⟩
abbrev T_func50 : TypeId := 50
instance ty_func50 : Ty Try.prog 50 false 1 8 (.nilFunc) := ⟨by kernel_rfl, by kernel_rfl⟩
abbrev T_func51 : TypeId := 51
instance ty_func51 : Ty Try.prog 51 false 1 8 (.nilFunc) := ⟨by kernel_rfl, by kernel_rfl⟩
abbrev T_s_int : TypeId := 52
instance ty_s_int : Ty Try.prog 52 false 1 24 (.slice none 0 0) := ⟨by kernel_rfl, by kernel_rfl⟩
instance un_s_int : Un Try.prog 52 (.slice 3) := ⟨by kernel_rfl⟩
abbrev T_func53 : TypeId := 53
instance ty_func53 : Ty Try.prog 53 false 1 8 (.nilFunc) := ⟨by kernel_rfl, by kernel_rfl⟩
abbrev T_func54 : TypeId := 54
instance ty_func54 : Ty Try.prog 54 false 1 8 (.nilFunc) := ⟨by kernel_rfl, by kernel_rfl⟩
abbrev T_func55 : TypeId := 55
instance ty_func55 : Ty Try.prog 55 false 1 8 (.nilFunc) := ⟨by kernel_rfl, by kernel_rfl⟩
abbrev T_func56 : TypeId := 56
instance ty_func56 : Ty Try.prog 56 false 1 8 (.nilFunc) := ⟨by kernel_rfl, by kernel_rfl⟩
abbrev T_s_s_int : TypeId := 57
instance ty_s_s_int : Ty Try.prog 57 false 1 24 (.slice none 0 0) := ⟨by kernel_rfl, by kernel_rfl⟩
instance un_s_s_int : Un Try.prog 57 (.slice 52) := ⟨by kernel_rfl⟩
abbrev T_func58 : TypeId := 58
instance ty_func58 : Ty Try.prog 58 false 1 8 (.nilFunc) := ⟨by kernel_rfl, by kernel_rfl⟩
abbrev T_s_s_bool : TypeId := 59
instance ty_s_s_bool : Ty Try.prog 59 false 1 24 (.slice none 0 0) := ⟨by kernel_rfl, by kernel_rfl⟩
instance un_s_s_bool : Un Try.prog 59 (.slice 60) := ⟨by kernel_rfl⟩
abbrev T_s_bool : TypeId := 60
instance ty_s_bool : Ty Try.prog 60 false 1 24 (.slice none 0 0) := ⟨by kernel_rfl, by kernel_rfl⟩
instance un_s_bool : Un Try.prog 60 (.slice 4) := ⟨by kernel_rfl⟩
abbrev T_func61 : TypeId := 61
instance ty_func61 : Ty Try.prog 61 false 1 8 (.nilFunc) := ⟨by kernel_rfl, by kernel_rfl⟩
abbrev T_func63 : TypeId := 63
instance ty_func63 : Ty Try.prog 63 false 1 8 (.nilFunc) := ⟨by kernel_rfl, by kernel_rfl⟩
abbrev T_func65 : TypeId := 65
instance ty_func65 : Ty Try.prog 65 false 1 8 (.nilFunc) := ⟨by kernel_rfl, by kernel_rfl⟩
abbrev T_func66 : TypeId := 66
instance ty_func66 : Ty Try.prog 66 false 1 8 (.nilFunc) := ⟨by kernel_rfl, by kernel_rfl⟩
abbrev T_func67 : TypeId := 67
instance ty_func67 : Ty Try.prog 67 false 1 8 (.nilFunc) := ⟨by kernel_rfl, by kernel_rfl⟩
abbrev T_func68 : TypeId := 68
instance ty_func68 : Ty Try.prog 68 false 1 8 (.nilFunc) := ⟨by kernel_rfl, by kernel_rfl⟩
abbrev T_impl_Step : TypeId := 70
instance ty_impl_Step : Ty Try.prog 70 true 4 48 (.agg #[(.int .i64 0), (.int .i64 0), (.int .i64 0), (.slice none 0 0)]) := ⟨by kernel_rfl, by kernel_rfl⟩
abbrev T_func71 : TypeId := 71
instance ty_func71 : Ty Try.prog 71 false 1 8 (.nilFunc) := ⟨by kernel_rfl, by kernel_rfl⟩
abbrev T_func72 : TypeId := 72
instance ty_func72 : Ty Try.prog 72 false 1 8 (.nilFunc) := ⟨by kernel_rfl, by kernel_rfl⟩
abbrev T_func73 : TypeId := 73
instance ty_func73 : Ty Try.prog 73 false 1 8 (.nilFunc) := ⟨by kernel_rfl, by kernel_rfl⟩
abbrev T_p_spec_l6Rd : TypeId := 74
instance ty_p_spec_l6Rd : Ty Try.prog 74 false 1 8 (.pointer none) := ⟨by kernel_rfl, by kernel_rfl⟩
instance un_p_spec_l6Rd : Un Try.prog 74 (.pointer 101) := ⟨by kernel_rfl⟩
abbrev T_func75 : TypeId := 75
instance ty_func75 : Ty Try.prog 75 false 1 8 (.nilFunc) := ⟨by kernel_rfl, by kernel_rfl⟩
abbrev T_func76 : TypeId := 76
instance ty_func76 : Ty Try.prog 76 false 1 8 (.nilFunc) := ⟨by kernel_rfl, by kernel_rfl⟩
abbrev T_func77 : TypeId := 77
instance ty_func77 : Ty Try.prog 77 false 1 8 (.nilFunc) := ⟨by kernel_rfl, by kernel_rfl⟩
abbrev T_func78 : TypeId := 78
instance ty_func78 : Ty Try.prog 78 false 1 8 (.nilFunc) := ⟨by kernel_rfl, by kernel_rfl⟩
abbrev T_func79 : TypeId := 79
instance ty_func79 : Ty Try.prog 79 false 1 8 (.nilFunc) := ⟨by kernel_rfl, by kernel_rfl⟩
abbrev T_s_impl_Move : TypeId := 80
instance ty_s_impl_Move : Ty Try.prog 80 false 1 24 (.slice none 0 0) := ⟨by kernel_rfl, by kernel_rfl⟩
instance un_s_impl_Move : Un Try.prog 80 (.slice 82) := ⟨by kernel_rfl⟩
abbrev T_impl_Move : TypeId := 82
instance ty_impl_Move : Ty Try.prog 82 true 2 16 (.agg #[(.int .i64 0), (.int .i64 0)]) := ⟨by kernel_rfl, by kernel_rfl⟩
abbrev T_func83 : TypeId := 83
instance ty_func83 : Ty Try.prog 83 false 1 8 (.nilFunc) := ⟨by kernel_rfl, by kernel_rfl⟩
abbrev T_func84 : TypeId := 84
instance ty_func84 : Ty Try.prog 84 false 1 8 (.nilFunc) := ⟨by kernel_rfl, by kernel_rfl⟩
abbrev T_func85 : TypeId := 85
instance ty_func85 : Ty Try.prog 85 false 1 8 (.nilFunc) := ⟨by kernel_rfl, by kernel_rfl⟩
abbrev T_func86 : TypeId := 86
instance ty_func86 : Ty Try.prog 86 false 1 8 (.nilFunc) := ⟨by kernel_rfl, by kernel_rfl⟩
abbrev T_func87 : TypeId := 87
instance ty_func87 : Ty Try.prog 87 false 1 8 (.nilFunc) := ⟨by kernel_rfl, by kernel_rfl⟩
abbrev T_func88 : TypeId := 88
instance ty_func88 : Ty Try.prog 88 false 1 8 (.nilFunc) := ⟨by kernel_rfl, by kernel_rfl⟩
abbrev T_func89 : TypeId := 89
instance ty_func89 : Ty Try.prog 89 false 1 8 (.nilFunc) := ⟨by kernel_rfl, by kernel_rfl⟩
abbrev T_func90 : TypeId := 90
instance ty_func90 : Ty Try.prog 90 false 1 8 (.nilFunc) := ⟨by kernel_rfl, by kernel_rfl⟩
abbrev T_func91 : TypeId := 91
instance ty_func91 : Ty Try.prog 91 false 1 8 (.nilFunc) := ⟨by kernel_rfl, by kernel_rfl⟩
abbrev T_func92 : TypeId := 92
instance ty_func92 : Ty Try.prog 92 false 1 8 (.nilFunc) := ⟨by kernel_rfl, by kernel_rfl⟩
abbrev T_func93 : TypeId := 93
instance ty_func93 : Ty Try.prog 93 false 1 8 (.nilFunc) := ⟨by kernel_rfl, by kernel_rfl⟩
abbrev T_func94 : TypeId := 94
instance ty_func94 : Ty Try.prog 94 false 1 8 (.nilFunc) := ⟨by kernel_rfl, by kernel_rfl⟩
abbrev T_func95 : TypeId := 95
instance ty_func95 : Ty Try.prog 95 false 1 8 (.nilFunc) := ⟨by kernel_rfl, by kernel_rfl⟩
abbrev T_func96 : TypeId := 96
instance ty_func96 : Ty Try.prog 96 false 1 8 (.nilFunc) := ⟨by kernel_rfl, by kernel_rfl⟩
abbrev T_func97 : TypeId := 97
instance ty_func97 : Ty Try.prog 97 false 1 8 (.nilFunc) := ⟨by kernel_rfl, by kernel_rfl⟩
abbrev T_func98 : TypeId := 98
instance ty_func98 : Ty Try.prog 98 false 1 8 (.nilFunc) := ⟨by kernel_rfl, by kernel_rfl⟩
abbrev T_func99 : TypeId := 99
instance ty_func99 : Ty Try.prog 99 false 1 8 (.nilFunc) := ⟨by kernel_rfl, by kernel_rfl⟩
abbrev T_spec_l6Rd : TypeId := 101
instance ty_spec_l6Rd : Ty Try.prog 101 true 2 32 (.agg #[(.slice none 0 0), (.int .i64 0)]) := ⟨by kernel_rfl, by kernel_rfl⟩
abbrev T_func103 : TypeId := 103
instance ty_func103 : Ty Try.prog 103 false 1 8 (.nilFunc) := ⟨by kernel_rfl, by kernel_rfl⟩
abbrev T_func104 : TypeId := 104
instance ty_func104 : Ty Try.prog 104 false 1 8 (.nilFunc) := ⟨by kernel_rfl, by kernel_rfl⟩
abbrev T_func105 : TypeId := 105
instance ty_func105 : Ty Try.prog 105 false 1 8 (.nilFunc) := ⟨by kernel_rfl, by kernel_rfl⟩
abbrev T_func106 : TypeId := 106
instance ty_func106 : Ty Try.prog 106 false 1 8 (.nilFunc) := ⟨by kernel_rfl, by kernel_rfl⟩
abbrev T_func107 : TypeId := 107
instance ty_func107 : Ty Try.prog 107 false 1 8 (.nilFunc) := ⟨by kernel_rfl, by kernel_rfl⟩
abbrev T_m_int_bool : TypeId := 108
instance ty_m_int_bool : Ty Try.prog 108 false 1 8 (.map none) := ⟨by kernel_rfl, by kernel_rfl⟩
instance un_m_int_bool : Un Try.prog 108 (.map 3 4) := ⟨by kernel_rfl⟩
abbrev T_func109 : TypeId := 109
instance ty_func109 : Ty Try.prog 109 false 1 8 (.nilFunc) := ⟨by kernel_rfl, by kernel_rfl⟩
abbrev T_func110 : TypeId := 110
instance ty_func110 : Ty Try.prog 110 false 1 8 (.nilFunc) := ⟨by kernel_rfl, by kernel_rfl⟩
abbrev T_func111 : TypeId := 111
instance ty_func111 : Ty Try.prog 111 false 1 8 (.nilFunc) := ⟨by kernel_rfl, by kernel_rfl⟩
abbrev T_func112 : TypeId := 112
instance ty_func112 : Ty Try.prog 112 false 1 8 (.nilFunc) := ⟨by kernel_rfl, by kernel_rfl⟩
abbrev T_func113 : TypeId := 113
instance ty_func113 : Ty Try.prog 113 false 1 8 (.nilFunc) := ⟨by kernel_rfl, by kernel_rfl⟩
abbrev T_func114 : TypeId := 114
instance ty_func114 : Ty Try.prog 114 false 1 8 (.nilFunc) := ⟨by kernel_rfl, by kernel_rfl⟩
abbrev T_func116 : TypeId := 116
instance ty_func116 : Ty Try.prog 116 false 1 8 (.nilFunc) := ⟨by kernel_rfl, by kernel_rfl⟩
abbrev T_func117 : TypeId := 117
instance ty_func117 : Ty Try.prog 117 false 1 8 (.nilFunc) := ⟨by kernel_rfl, by kernel_rfl⟩
abbrev T_func118 : TypeId := 118
instance ty_func118 : Ty Try.prog 118 false 1 8 (.nilFunc) := ⟨by kernel_rfl, by kernel_rfl⟩
abbrev T_func119 : TypeId := 119
instance ty_func119 : Ty Try.prog 119 false 1 8 (.nilFunc) := ⟨by kernel_rfl, by kernel_rfl⟩
abbrev T_func120 : TypeId := 120
instance ty_func120 : Ty Try.prog 120 false 1 8 (.nilFunc) := ⟨by kernel_rfl, by kernel_rfl⟩
abbrev T_func121 : TypeId := 121
instance ty_func121 : Ty Try.prog 121 false 1 8 (.nilFunc) := ⟨by kernel_rfl, by kernel_rfl⟩
abbrev T_func122 : TypeId := 122
instance ty_func122 : Ty Try.prog 122 false 1 8 (.nilFunc) := ⟨by kernel_rfl, by kernel_rfl⟩
abbrev T_func123 : TypeId := 123
instance ty_func123 : Ty Try.prog 123 false 1 8 (.nilFunc) := ⟨by kernel_rfl, by kernel_rfl⟩
abbrev T_func124 : TypeId := 124
instance ty_func124 : Ty Try.prog 124 false 1 8 (.nilFunc) := ⟨by kernel_rfl, by kernel_rfl⟩
abbrev T_func125 : TypeId := 125
instance ty_func125 : Ty Try.prog 125 false 1 8 (.nilFunc) := ⟨by kernel_rfl, by kernel_rfl⟩
abbrev T_uint : TypeId := 126
instance ty_uint : Ty Try.prog 126 false 1 8 (.int .u64 0) := ⟨by kernel_rfl, by kernel_rfl⟩
instance un_uint : Un Try.prog 126 (.int .u64) := ⟨by kernel_rfl⟩
abbrev T_func127 : TypeId := 127
instance ty_func127 : Ty Try.prog 127 false 1 8 (.nilFunc) := ⟨by kernel_rfl, by kernel_rfl⟩
abbrev T_func128 : TypeId := 128
instance ty_func128 : Ty Try.prog 128 false 1 8 (.nilFunc) := ⟨by kernel_rfl, by kernel_rfl⟩
abbrev T_func129 : TypeId := 129
instance ty_func129 : Ty Try.prog 129 false 1 8 (.nilFunc) := ⟨by kernel_rfl, by kernel_rfl⟩
abbrev T_func130 : TypeId := 130
instance ty_func130 : Ty Try.prog 130 false 1 8 (.nilFunc) := ⟨by kernel_rfl, by kernel_rfl⟩
abbrev T_func131 : TypeId := 131
instance ty_func131 : Ty Try.prog 131 false 1 8 (.nilFunc) := ⟨by kernel_rfl, by kernel_rfl⟩
abbrev T_func132 : TypeId := 132
instance ty_func132 : Ty Try.prog 132 false 1 8 (.nilFunc) := ⟨by kernel_rfl, by kernel_rfl⟩
abbrev T_func133 : TypeId := 133
instance ty_func133 : Ty Try.prog 133 false 1 8 (.nilFunc) := ⟨by kernel_rfl, by kernel_rfl⟩
abbrev T_s_string : TypeId := 134
instance ty_s_string : Ty Try.prog 134 false 1 24 (.slice none 0 0) := ⟨by kernel_rfl, by kernel_rfl⟩
instance un_s_string : Un Try.prog 134 (.slice 9) := ⟨by kernel_rfl⟩
abbrev T_func135 : TypeId := 135
instance ty_func135 : Ty Try.prog 135 false 1 8 (.nilFunc) := ⟨by kernel_rfl, by kernel_rfl⟩
abbrev T_slices_sortedHint : TypeId := 136
instance ty_slices_sortedHint : Ty Try.prog 136 false 1 8 (.int .i64 0) := ⟨by kernel_rfl, by kernel_rfl⟩
instance un_slices_sortedHint : Un Try.prog 136 (.int .i64) := ⟨by kernel_rfl⟩
abbrev T_func138 : TypeId := 138
instance ty_func138 : Ty Try.prog 138 false 1 8 (.nilFunc) := ⟨by kernel_rfl, by kernel_rfl⟩
abbrev T_func139 : TypeId := 139
instance ty_func139 : Ty Try.prog 139 false 1 8 (.nilFunc) := ⟨by kernel_rfl, by kernel_rfl⟩
abbrev T_func140 : TypeId := 140
instance ty_func140 : Ty Try.prog 140 false 1 8 (.nilFunc) := ⟨by kernel_rfl, by kernel_rfl⟩
abbrev T_func142 : TypeId := 142
instance ty_func142 : Ty Try.prog 142 false 1 8 (.nilFunc) := ⟨by kernel_rfl, by kernel_rfl⟩
abbrev T_func143 : TypeId := 143
instance ty_func143 : Ty Try.prog 143 false 1 8 (.nilFunc) := ⟨by kernel_rfl, by kernel_rfl⟩
abbrev T_uint32 : TypeId := 144
instance ty_uint32 : Ty Try.prog 144 false 1 4 (.int .u32 0) := ⟨by kernel_rfl, by kernel_rfl⟩
instance un_uint32 : Un Try.prog 144 (.int .u32) := ⟨by kernel_rfl⟩
abbrev T_func145 : TypeId := 145
instance ty_func145 : Ty Try.prog 145 false 1 8 (.nilFunc) := ⟨by kernel_rfl, by kernel_rfl⟩
abbrev T_uint64 : TypeId := 146
instance ty_uint64 : Ty Try.prog 146 false 1 8 (.int .u64 0) := ⟨by kernel_rfl, by kernel_rfl⟩
instance un_uint64 : Un Try.prog 146 (.int .u64) := ⟨by kernel_rfl⟩
abbrev T_func147 : TypeId := 147
instance ty_func147 : Ty Try.prog 147 false 1 8 (.nilFunc) := ⟨by kernel_rfl, by kernel_rfl⟩
abbrev T_func148 : TypeId := 148
instance ty_func148 : Ty Try.prog 148 false 1 8 (.nilFunc) := ⟨by kernel_rfl, by kernel_rfl⟩
abbrev T_func149 : TypeId := 149
instance ty_func149 : Ty Try.prog 149 false 1 8 (.nilFunc) := ⟨by kernel_rfl, by kernel_rfl⟩
abbrev T_func150 : TypeId := 150
instance ty_func150 : Ty Try.prog 150 false 1 8 (.nilFunc) := ⟨by kernel_rfl, by kernel_rfl⟩
abbrev T_slices_xorshift : TypeId := 151
instance ty_slices_xorshift : Ty Try.prog 151 false 1 8 (.int .u64 0) := ⟨by kernel_rfl, by kernel_rfl⟩
instance un_slices_xorshift : Un Try.prog 151 (.int .u64) := ⟨by kernel_rfl⟩
abbrev T_func152 : TypeId := 152
instance ty_func152 : Ty Try.prog 152 false 1 8 (.nilFunc) := ⟨by kernel_rfl, by kernel_rfl⟩
abbrev T_func153 : TypeId := 153
instance ty_func153 : Ty Try.prog 153 false 1 8 (.nilFunc) := ⟨by kernel_rfl, by kernel_rfl⟩
abbrev T_func154 : TypeId := 154
instance ty_func154 : Ty Try.prog 154 false 1 8 (.nilFunc) := ⟨by kernel_rfl, by kernel_rfl⟩
abbrev T_p_int : TypeId := 155
instance ty_p_int : Ty Try.prog 155 false 1 8 (.pointer none) := ⟨by kernel_rfl, by kernel_rfl⟩
instance un_p_int : Un Try.prog 155 (.pointer 3) := ⟨by kernel_rfl⟩
abbrev T_func156 : TypeId := 156
instance ty_func156 : Ty Try.prog 156 false 1 8 (.nilFunc) := ⟨by kernel_rfl, by kernel_rfl⟩
abbrev T_func157 : TypeId := 157
instance ty_func157 : Ty Try.prog 157 false 1 8 (.nilFunc) := ⟨by kernel_rfl, by kernel_rfl⟩
abbrev T_p_slices_xorshift : TypeId := 158
instance ty_p_slices_xorshift : Ty Try.prog 158 false 1 8 (.pointer none) := ⟨by kernel_rfl, by kernel_rfl⟩
instance un_p_slices_xorshift : Un Try.prog 158 (.pointer 151) := ⟨by kernel_rfl⟩
abbrev T_func160 : TypeId := 160
instance ty_func160 : Ty Try.prog 160 false 1 8 (.nilFunc) := ⟨by kernel_rfl, by kernel_rfl⟩
abbrev T_func161 : TypeId := 161
instance ty_func161 : Ty Try.prog 161 false 1 8 (.nilFunc) := ⟨by kernel_rfl, by kernel_rfl⟩
abbrev T_func167 : TypeId := 167
instance ty_func167 : Ty Try.prog 167 false 1 8 (.nilFunc) := ⟨by kernel_rfl, by kernel_rfl⟩
abbrev T_func170 : TypeId := 170
instance ty_func170 : Ty Try.prog 170 false 1 8 (.nilFunc) := ⟨by kernel_rfl, by kernel_rfl⟩
abbrev T_p_uint8 : TypeId := 171
instance ty_p_uint8 : Ty Try.prog 171 false 1 8 (.pointer none) := ⟨by kernel_rfl, by kernel_rfl⟩
instance un_p_uint8 : Un Try.prog 171 (.pointer 5) := ⟨by kernel_rfl⟩


instance fld_laws_Term_0 : FieldAt Try.prog 24 0 0 := ⟨_, _, Try.underlying24, rfl, rfl, _, _, _, _, ty_int, by decide⟩
instance fld_laws_Term_1 : FieldAt Try.prog 24 1 1 := ⟨_, _, Try.underlying24, rfl, rfl, _, _, _, _, ty_int, by decide⟩
instance fld_laws_Term_2 : FieldAt Try.prog 24 2 2 := ⟨_, _, Try.underlying24, rfl, rfl, _, _, _, _, ty_s_laws_Term, by decide⟩
instance str_laws_Term : StructAt Try.prog 24 [(0, 1), (1, 1), (2, 1)] := ⟨_, Try.underlying24, fun w => by simp [ty_int.sizeOf, ty_s_laws_Term.sizeOf]⟩




instance fld_impl_Term_0 : FieldAt Try.prog 32 0 0 := ⟨_, _, Try.underlying32, rfl, rfl, _, _, _, _, ty_int, by decide⟩
instance fld_impl_Term_1 : FieldAt Try.prog 32 1 1 := ⟨_, _, Try.underlying32, rfl, rfl, _, _, _, _, ty_int, by decide⟩
instance fld_impl_Term_2 : FieldAt Try.prog 32 2 2 := ⟨_, _, Try.underlying32, rfl, rfl, _, _, _, _, ty_s_impl_Term, by decide⟩
instance str_impl_Term : StructAt Try.prog 32 [(0, 1), (1, 1), (2, 1)] := ⟨_, Try.underlying32, fun w => by simp [ty_int.sizeOf, ty_s_impl_Term.sizeOf]⟩










instance fld_impl_Graph_0 : FieldAt Try.prog 45 0 0 := ⟨_, _, Try.underlying45, rfl, rfl, _, _, _, _, ty_s_s_impl_Move, by decide⟩
instance str_impl_Graph : StructAt Try.prog 45 [(0, 1)] := ⟨_, Try.underlying45, fun w => by simp [ty_s_s_impl_Move.sizeOf]⟩
















instance fld_impl_Step_0 : FieldAt Try.prog 70 0 0 := ⟨_, _, Try.underlying70, rfl, rfl, _, _, _, _, ty_int, by decide⟩
instance fld_impl_Step_1 : FieldAt Try.prog 70 1 1 := ⟨_, _, Try.underlying70, rfl, rfl, _, _, _, _, ty_impl_Term, by decide⟩
instance str_impl_Step : StructAt Try.prog 70 [(0, 1), (1, 3)] := ⟨_, Try.underlying70, fun w => by simp [ty_impl_Term.sizeOf, ty_int.sizeOf]⟩









instance fld_impl_Move_0 : FieldAt Try.prog 82 0 0 := ⟨_, _, Try.underlying82, rfl, rfl, _, _, _, _, ty_int, by decide⟩
instance fld_impl_Move_1 : FieldAt Try.prog 82 1 1 := ⟨_, _, Try.underlying82, rfl, rfl, _, _, _, _, ty_int, by decide⟩
instance eqmv_impl_Move : EqMv Try.prog 82 := ⟨⟨_, _, Try.underlying82, rfl, rfl, by decide, by decide, ⟨_, _, _, ty_int⟩, ⟨_, _, _, ty_int⟩, ⟨.i64, by kernel_rfl⟩, ⟨.i64, by kernel_rfl⟩⟩, by kernel_rfl, by kernel_rfl⟩
instance str_impl_Move : StructAt Try.prog 82 [(0, 1), (1, 1)] := ⟨_, Try.underlying82, fun w => by simp [ty_int.sizeOf]⟩


















instance fld_spec_l6Rd_0 : FieldAt Try.prog 101 0 0 := ⟨_, _, Try.underlying101, rfl, rfl, _, _, _, _, ty_s_uint8, by decide⟩
instance fld_spec_l6Rd_1 : FieldAt Try.prog 101 1 1 := ⟨_, _, Try.underlying101, rfl, rfl, _, _, _, _, ty_int, by decide⟩
instance str_spec_l6Rd : StructAt Try.prog 101 [(0, 1), (1, 1)] := ⟨_, Try.underlying101, fun w => by simp [ty_int.sizeOf, ty_s_uint8.sizeOf]⟩
















































abbrev F_laws_FnExactTermSteps : FuncId := 3
instance can_laws_FnExactTermSteps : Callable Try.prog 3 := ⟨_, Try.func3, by kernel_rfl, by kernel_rfl⟩
theorem fun_laws_FnExactTermSteps : Try.prog.funcs[F_laws_FnExactTermSteps]? = some Try.f3 := Try.func3
theorem tmps_laws_FnExactTermSteps : Try.f3.ntmps = 119 := Try.ntmps3
theorem ress_laws_FnExactTermSteps : Try.f3.results = #[.tmp 4] := Try.results3
abbrev F_laws_FnGraphPart : FuncId := 4
instance can_laws_FnGraphPart : Callable Try.prog 4 := ⟨_, Try.func4, by kernel_rfl, by kernel_rfl⟩
theorem fun_laws_FnGraphPart : Try.prog.funcs[F_laws_FnGraphPart]? = some Try.f4 := Try.func4
theorem tmps_laws_FnGraphPart : Try.f4.ntmps = 66 := Try.ntmps4
theorem ress_laws_FnGraphPart : Try.f4.results = #[.tmp 2] := Try.results4
abbrev F_laws_FnAlikeClasses : FuncId := 5
instance can_laws_FnAlikeClasses : Callable Try.prog 5 := ⟨_, Try.func5, by kernel_rfl, by kernel_rfl⟩
theorem fun_laws_FnAlikeClasses : Try.prog.funcs[F_laws_FnAlikeClasses]? = some Try.f5 := Try.func5
theorem tmps_laws_FnAlikeClasses : Try.f5.ntmps = 75 := Try.ntmps5
theorem ress_laws_FnAlikeClasses : Try.f5.results = #[.tmp 2] := Try.results5
abbrev F_laws_FnAlikeRelation : FuncId := 6
instance can_laws_FnAlikeRelation : Callable Try.prog 6 := ⟨_, Try.func6, by kernel_rfl, by kernel_rfl⟩
theorem fun_laws_FnAlikeRelation : Try.prog.funcs[F_laws_FnAlikeRelation]? = some Try.f6 := Try.func6
theorem tmps_laws_FnAlikeRelation : Try.f6.ntmps = 65 := Try.ntmps6
theorem ress_laws_FnAlikeRelation : Try.f6.results = #[.tmp 2] := Try.results6
abbrev F_laws_FnGraphBoth : FuncId := 7
instance can_laws_FnGraphBoth : Callable Try.prog 7 := ⟨_, Try.func7, by kernel_rfl, by kernel_rfl⟩
theorem fun_laws_FnGraphBoth : Try.prog.funcs[F_laws_FnGraphBoth]? = some Try.f7 := Try.func7
theorem tmps_laws_FnGraphBoth : Try.f7.ntmps = 77 := Try.ntmps7
theorem ress_laws_FnGraphBoth : Try.f7.results = #[.tmp 2] := Try.results7
abbrev F_laws_szTerm : FuncId := 8
instance can_laws_szTerm : Callable Try.prog 8 := ⟨_, Try.func8, by kernel_rfl, by kernel_rfl⟩
theorem fun_laws_szTerm : Try.prog.funcs[F_laws_szTerm]? = some Try.f8 := Try.func8
theorem tmps_laws_szTerm : Try.f8.ntmps = 12 := Try.ntmps8
theorem ress_laws_szTerm : Try.f8.results = #[.tmp 4] := Try.results8
abbrev F_laws_szTermS : FuncId := 9
instance can_laws_szTermS : Callable Try.prog 9 := ⟨_, Try.func9, by kernel_rfl, by kernel_rfl⟩
theorem fun_laws_szTermS : Try.prog.funcs[F_laws_szTermS]? = some Try.f9 := Try.func9
theorem tmps_laws_szTermS : Try.f9.ntmps = 27 := Try.ntmps9
theorem ress_laws_szTermS : Try.f9.results = #[.tmp 4] := Try.results9
abbrev F_spec_TermSteps : FuncId := 10
instance can_spec_TermSteps : Callable Try.prog 10 := ⟨_, Try.func10, by kernel_rfl, by kernel_rfl⟩
theorem fun_spec_TermSteps : Try.prog.funcs[F_spec_TermSteps]? = some Try.f10 := Try.func10
theorem tmps_spec_TermSteps : Try.f10.ntmps = 32 := Try.ntmps10
theorem ress_spec_TermSteps : Try.f10.results = #[.tmp 4, .tmp 5] := Try.results10
abbrev F_laws_toTerm : FuncId := 11
instance can_laws_toTerm : Callable Try.prog 11 := ⟨_, Try.func11, by kernel_rfl, by kernel_rfl⟩
theorem fun_laws_toTerm : Try.prog.funcs[F_laws_toTerm]? = some Try.f11 := Try.func11
theorem tmps_laws_toTerm : Try.f11.ntmps = 15 := Try.ntmps11
theorem ress_laws_toTerm : Try.f11.results = #[.cell 2 32] := Try.results11
abbrev F_laws_toTermS : FuncId := 12
instance can_laws_toTermS : Callable Try.prog 12 := ⟨_, Try.func12, by kernel_rfl, by kernel_rfl⟩
theorem fun_laws_toTermS : Try.prog.funcs[F_laws_toTermS]? = some Try.f12 := Try.func12
theorem tmps_laws_toTermS : Try.f12.ntmps = 23 := Try.ntmps12
theorem ress_laws_toTermS : Try.f12.results = #[.tmp 2] := Try.results12
abbrev F_impl_TermSteps : FuncId := 13
instance can_impl_TermSteps : Callable Try.prog 13 := ⟨_, Try.func13, by kernel_rfl, by kernel_rfl⟩
theorem fun_impl_TermSteps : Try.prog.funcs[F_impl_TermSteps]? = some Try.f13 := Try.func13
theorem tmps_impl_TermSteps : Try.f13.ntmps = 38 := Try.ntmps13
theorem ress_impl_TermSteps : Try.f13.results = #[.tmp 4, .tmp 5] := Try.results13
abbrev F_laws_eqStepS : FuncId := 14
instance can_laws_eqStepS : Callable Try.prog 14 := ⟨_, Try.func14, by kernel_rfl, by kernel_rfl⟩
theorem fun_laws_eqStepS : Try.prog.funcs[F_laws_eqStepS]? = some Try.f14 := Try.func14
theorem tmps_laws_eqStepS : Try.f14.ntmps = 27 := Try.ntmps14
theorem ress_laws_eqStepS : Try.f14.results = #[.tmp 4] := Try.results14
abbrev F_laws_eqTerm : FuncId := 15
instance can_laws_eqTerm : Callable Try.prog 15 := ⟨_, Try.func15, by kernel_rfl, by kernel_rfl⟩
theorem fun_laws_eqTerm : Try.prog.funcs[F_laws_eqTerm]? = some Try.f15 := Try.func15
theorem tmps_laws_eqTerm : Try.f15.ntmps = 21 := Try.ntmps15
theorem ress_laws_eqTerm : Try.f15.results = #[.tmp 4] := Try.results15
abbrev F_laws_eqTermS : FuncId := 16
instance can_laws_eqTermS : Callable Try.prog 16 := ⟨_, Try.func16, by kernel_rfl, by kernel_rfl⟩
theorem fun_laws_eqTermS : Try.prog.funcs[F_laws_eqTermS]? = some Try.f16 := Try.func16
theorem tmps_laws_eqTermS : Try.f16.ntmps = 27 := Try.ntmps16
theorem ress_laws_eqTermS : Try.f16.results = #[.tmp 4] := Try.results16
abbrev F_laws_markTerm : FuncId := 17
instance can_laws_markTerm : Callable Try.prog 17 := ⟨_, Try.func17, by kernel_rfl, by kernel_rfl⟩
theorem fun_laws_markTerm : Try.prog.funcs[F_laws_markTerm]? = some Try.f17 := Try.func17
theorem tmps_laws_markTerm : Try.f17.ntmps = 10 := Try.ntmps17
theorem ress_laws_markTerm : Try.f17.results = #[.tmp 4] := Try.results17
abbrev F_laws_markTermS : FuncId := 18
instance can_laws_markTermS : Callable Try.prog 18 := ⟨_, Try.func18, by kernel_rfl, by kernel_rfl⟩
theorem fun_laws_markTermS : Try.prog.funcs[F_laws_markTermS]? = some Try.f18 := Try.func18
theorem tmps_laws_markTermS : Try.f18.ntmps = 34 := Try.ntmps18
theorem ress_laws_markTermS : Try.f18.results = #[.tmp 4] := Try.results18
abbrev F_laws_markStepS : FuncId := 19
instance can_laws_markStepS : Callable Try.prog 19 := ⟨_, Try.func19, by kernel_rfl, by kernel_rfl⟩
theorem fun_laws_markStepS : Try.prog.funcs[F_laws_markStepS]? = some Try.f19 := Try.func19
theorem tmps_laws_markStepS : Try.f19.ntmps = 44 := Try.ntmps19
theorem ress_laws_markStepS : Try.f19.results = #[.tmp 4] := Try.results19
abbrev F_laws_heldStepS : FuncId := 20
instance can_laws_heldStepS : Callable Try.prog 20 := ⟨_, Try.func20, by kernel_rfl, by kernel_rfl⟩
theorem fun_laws_heldStepS : Try.prog.funcs[F_laws_heldStepS]? = some Try.f20 := Try.func20
theorem tmps_laws_heldStepS : Try.f20.ntmps = 52 := Try.ntmps20
theorem ress_laws_heldStepS : Try.f20.results = #[.tmp 4] := Try.results20
abbrev F_spec_DrawGraphPart : FuncId := 21
instance can_spec_DrawGraphPart : Callable Try.prog 21 := ⟨_, Try.func21, by kernel_rfl, by kernel_rfl⟩
theorem fun_spec_DrawGraphPart : Try.prog.funcs[F_spec_DrawGraphPart]? = some Try.f21 := Try.func21
theorem tmps_spec_DrawGraphPart : Try.f21.ntmps = 16 := Try.ntmps21
theorem ress_spec_DrawGraphPart : Try.f21.results = #[.cell 2 45, .tmp 3] := Try.results21
abbrev F_impl_GraphPart : FuncId := 22
instance can_impl_GraphPart : Callable Try.prog 22 := ⟨_, Try.func22, by kernel_rfl, by kernel_rfl⟩
theorem fun_impl_GraphPart : Try.prog.funcs[F_impl_GraphPart]? = some Try.f22 := Try.func22
theorem tmps_impl_GraphPart : Try.f22.ntmps = 69 := Try.ntmps22
theorem ress_impl_GraphPart : Try.f22.results = #[.cell 4 45, .tmp 5] := Try.results22
abbrev F_spec_GraphPart : FuncId := 23
instance can_spec_GraphPart : Callable Try.prog 23 := ⟨_, Try.func23, by kernel_rfl, by kernel_rfl⟩
theorem fun_spec_GraphPart : Try.prog.funcs[F_spec_GraphPart]? = some Try.f23 := Try.func23
theorem tmps_spec_GraphPart : Try.f23.ntmps = 22 := Try.ntmps23
theorem ress_spec_GraphPart : Try.f23.results = #[.cell 4 45, .tmp 5] := Try.results23
abbrev F_laws_mnGraph : FuncId := 24
instance can_laws_mnGraph : Callable Try.prog 24 := ⟨_, Try.func24, by kernel_rfl, by kernel_rfl⟩
theorem fun_laws_mnGraph : Try.prog.funcs[F_laws_mnGraph]? = some Try.f24 := Try.func24
theorem tmps_laws_mnGraph : Try.f24.ntmps = 61 := Try.ntmps24
theorem ress_laws_mnGraph : Try.f24.results = #[.tmp 4] := Try.results24
abbrev F_impl_GraphBoth : FuncId := 25
instance can_impl_GraphBoth : Callable Try.prog 25 := ⟨_, Try.func25, by kernel_rfl, by kernel_rfl⟩
theorem fun_impl_GraphBoth : Try.prog.funcs[F_impl_GraphBoth]? = some Try.f25 := Try.func25
theorem tmps_impl_GraphBoth : Try.f25.ntmps = 65 := Try.ntmps25
theorem ress_impl_GraphBoth : Try.f25.results = #[.cell 4 45, .tmp 5] := Try.results25
abbrev F_impl_AlikeClasses : FuncId := 26
instance can_impl_AlikeClasses : Callable Try.prog 26 := ⟨_, Try.func26, by kernel_rfl, by kernel_rfl⟩
theorem fun_impl_AlikeClasses : Try.prog.funcs[F_impl_AlikeClasses]? = some Try.f26 := Try.func26
theorem tmps_impl_AlikeClasses : Try.f26.ntmps = 8 := Try.ntmps26
theorem ress_impl_AlikeClasses : Try.f26.results = #[.tmp 2] := Try.results26
abbrev F_spec_DrawAlikeClasses : FuncId := 27
instance can_spec_DrawAlikeClasses : Callable Try.prog 27 := ⟨_, Try.func27, by kernel_rfl, by kernel_rfl⟩
theorem fun_spec_DrawAlikeClasses : Try.prog.funcs[F_spec_DrawAlikeClasses]? = some Try.f27 := Try.func27
theorem tmps_spec_DrawAlikeClasses : Try.f27.ntmps = 10 := Try.ntmps27
theorem ress_spec_DrawAlikeClasses : Try.f27.results = #[.cell 2 45] := Try.results27
abbrev F_spec_AlikeClasses : FuncId := 28
instance can_spec_AlikeClasses : Callable Try.prog 28 := ⟨_, Try.func28, by kernel_rfl, by kernel_rfl⟩
theorem fun_spec_AlikeClasses : Try.prog.funcs[F_spec_AlikeClasses]? = some Try.f28 := Try.func28
theorem tmps_spec_AlikeClasses : Try.f28.ntmps = 9 := Try.ntmps28
theorem ress_spec_AlikeClasses : Try.f28.results = #[.tmp 2] := Try.results28
abbrev F_laws_mnInts : FuncId := 29
instance can_laws_mnInts : Callable Try.prog 29 := ⟨_, Try.func29, by kernel_rfl, by kernel_rfl⟩
theorem fun_laws_mnInts : Try.prog.funcs[F_laws_mnInts]? = some Try.f29 := Try.func29
theorem tmps_laws_mnInts : Try.f29.ntmps = 26 := Try.ntmps29
theorem ress_laws_mnInts : Try.f29.results = #[.tmp 4] := Try.results29
abbrev F_impl_AlikeRounds : FuncId := 30
instance can_impl_AlikeRounds : Callable Try.prog 30 := ⟨_, Try.func30, by kernel_rfl, by kernel_rfl⟩
theorem fun_impl_AlikeRounds : Try.prog.funcs[F_impl_AlikeRounds]? = some Try.f30 := Try.func30
theorem tmps_impl_AlikeRounds : Try.f30.ntmps = 8 := Try.ntmps30
theorem ress_impl_AlikeRounds : Try.f30.results = #[.tmp 2] := Try.results30
abbrev F_impl_AlikeRelation : FuncId := 31
instance can_impl_AlikeRelation : Callable Try.prog 31 := ⟨_, Try.func31, by kernel_rfl, by kernel_rfl⟩
theorem fun_impl_AlikeRelation : Try.prog.funcs[F_impl_AlikeRelation]? = some Try.f31 := Try.func31
theorem tmps_impl_AlikeRelation : Try.f31.ntmps = 73 := Try.ntmps31
theorem ress_impl_AlikeRelation : Try.f31.results = #[.tmp 4] := Try.results31
abbrev F_spec_DrawAlikeRelation : FuncId := 32
instance can_spec_DrawAlikeRelation : Callable Try.prog 32 := ⟨_, Try.func32, by kernel_rfl, by kernel_rfl⟩
theorem fun_spec_DrawAlikeRelation : Try.prog.funcs[F_spec_DrawAlikeRelation]? = some Try.f32 := Try.func32
theorem tmps_spec_DrawAlikeRelation : Try.f32.ntmps = 92 := Try.ntmps32
theorem ress_spec_DrawAlikeRelation : Try.f32.results = #[.cell 2 45, .tmp 3] := Try.results32
abbrev F_spec_AlikeRelation : FuncId := 33
instance can_spec_AlikeRelation : Callable Try.prog 33 := ⟨_, Try.func33, by kernel_rfl, by kernel_rfl⟩
theorem fun_spec_AlikeRelation : Try.prog.funcs[F_spec_AlikeRelation]? = some Try.f33 := Try.func33
theorem tmps_spec_AlikeRelation : Try.f33.ntmps = 68 := Try.ntmps33
theorem ress_spec_AlikeRelation : Try.f33.results = #[.tmp 4] := Try.results33
abbrev F_spec_DrawGraphBoth : FuncId := 34
instance can_spec_DrawGraphBoth : Callable Try.prog 34 := ⟨_, Try.func34, by kernel_rfl, by kernel_rfl⟩
theorem fun_spec_DrawGraphBoth : Try.prog.funcs[F_spec_DrawGraphBoth]? = some Try.f34 := Try.func34
theorem tmps_spec_DrawGraphBoth : Try.f34.ntmps = 16 := Try.ntmps34
theorem ress_spec_DrawGraphBoth : Try.f34.results = #[.cell 2 45, .cell 3 45] := Try.results34
abbrev F_spec_GraphBoth : FuncId := 35
instance can_spec_GraphBoth : Callable Try.prog 35 := ⟨_, Try.func35, by kernel_rfl, by kernel_rfl⟩
theorem fun_spec_GraphBoth : Try.prog.funcs[F_spec_GraphBoth]? = some Try.f35 := Try.func35
theorem tmps_spec_GraphBoth : Try.f35.ntmps = 28 := Try.ntmps35
theorem ress_spec_GraphBoth : Try.f35.results = #[.cell 4 45, .tmp 5] := Try.results35
abbrev F_laws_mnFiner : FuncId := 36
instance can_laws_mnFiner : Callable Try.prog 36 := ⟨_, Try.func36, by kernel_rfl, by kernel_rfl⟩
theorem fun_laws_mnFiner : Try.prog.funcs[F_laws_mnFiner]? = some Try.f36 := Try.func36
theorem tmps_laws_mnFiner : Try.f36.ntmps = 43 := Try.ntmps36
theorem ress_laws_mnFiner : Try.f36.results = #[.tmp 4] := Try.results36
abbrev F_spec_l3Asked : FuncId := 37
instance can_spec_l3Asked : Callable Try.prog 37 := ⟨_, Try.func37, by kernel_rfl, by kernel_rfl⟩
theorem fun_spec_l3Asked : Try.prog.funcs[F_spec_l3Asked]? = some Try.f37 := Try.func37
theorem tmps_spec_l3Asked : Try.f37.ntmps = 13 := Try.ntmps37
theorem ress_spec_l3Asked : Try.f37.results = #[.tmp 4] := Try.results37
abbrev F_spec_l3Steps : FuncId := 38
instance can_spec_l3Steps : Callable Try.prog 38 := ⟨_, Try.func38, by kernel_rfl, by kernel_rfl⟩
theorem fun_spec_l3Steps : Try.prog.funcs[F_spec_l3Steps]? = some Try.f38 := Try.func38
theorem tmps_spec_l3Steps : Try.f38.ntmps = 217 := Try.ntmps38
theorem ress_spec_l3Steps : Try.f38.results = #[.tmp 4] := Try.results38
abbrev F_spec_l3Copy : FuncId := 39
instance can_spec_l3Copy : Callable Try.prog 39 := ⟨_, Try.func39, by kernel_rfl, by kernel_rfl⟩
theorem fun_spec_l3Copy : Try.prog.funcs[F_spec_l3Copy]? = some Try.f39 := Try.func39
theorem tmps_spec_l3Copy : Try.f39.ntmps = 6 := Try.ntmps39
theorem ress_spec_l3Copy : Try.f39.results = #[.cell 2 32] := Try.results39
abbrev F_impl_DefsOk : FuncId := 40
instance can_impl_DefsOk : Callable Try.prog 40 := ⟨_, Try.func40, by kernel_rfl, by kernel_rfl⟩
theorem fun_impl_DefsOk : Try.prog.funcs[F_impl_DefsOk]? = some Try.f40 := Try.func40
theorem tmps_impl_DefsOk : Try.f40.ntmps = 12 := Try.ntmps40
theorem ress_impl_DefsOk : Try.f40.results = #[.tmp 2] := Try.results40
abbrev F_impl_TermFits : FuncId := 41
instance can_impl_TermFits : Callable Try.prog 41 := ⟨_, Try.func41, by kernel_rfl, by kernel_rfl⟩
theorem fun_impl_TermFits : Try.prog.funcs[F_impl_TermFits]? = some Try.f41 := Try.func41
theorem tmps_impl_TermFits : Try.f41.ntmps = 20 := Try.ntmps41
theorem ress_impl_TermFits : Try.f41.results = #[.tmp 4] := Try.results41
abbrev F_impl_stepsOf : FuncId := 42
instance can_impl_stepsOf : Callable Try.prog 42 := ⟨_, Try.func42, by kernel_rfl, by kernel_rfl⟩
theorem fun_impl_stepsOf : Try.prog.funcs[F_impl_stepsOf]? = some Try.f42 := Try.func42
theorem tmps_impl_stepsOf : Try.f42.ntmps = 183 := Try.ntmps42
theorem ress_impl_stepsOf : Try.f42.results = #[.tmp 4] := Try.results42
abbrev F_impl_copyTerm : FuncId := 43
instance can_impl_copyTerm : Callable Try.prog 43 := ⟨_, Try.func43, by kernel_rfl, by kernel_rfl⟩
theorem fun_impl_copyTerm : Try.prog.funcs[F_impl_copyTerm]? = some Try.f43 := Try.func43
theorem tmps_impl_copyTerm : Try.f43.ntmps = 27 := Try.ntmps43
theorem ress_impl_copyTerm : Try.f43.results = #[.cell 2 32] := Try.results43
abbrev F_laws_eqStep : FuncId := 44
instance can_laws_eqStep : Callable Try.prog 44 := ⟨_, Try.func44, by kernel_rfl, by kernel_rfl⟩
theorem fun_laws_eqStep : Try.prog.funcs[F_laws_eqStep]? = some Try.f44 := Try.func44
theorem tmps_laws_eqStep : Try.f44.ntmps = 16 := Try.ntmps44
theorem ress_laws_eqStep : Try.f44.results = #[.tmp 4] := Try.results44
abbrev F_laws_heldTermS : FuncId := 45
instance can_laws_heldTermS : Callable Try.prog 45 := ⟨_, Try.func45, by kernel_rfl, by kernel_rfl⟩
theorem fun_laws_heldTermS : Try.prog.funcs[F_laws_heldTermS]? = some Try.f45 := Try.func45
theorem tmps_laws_heldTermS : Try.f45.ntmps = 40 := Try.ntmps45
theorem ress_laws_heldTermS : Try.f45.results = #[.tmp 4] := Try.results45
abbrev F_spec_l6Open : FuncId := 46
instance can_spec_l6Open : Callable Try.prog 46 := ⟨_, Try.func46, by kernel_rfl, by kernel_rfl⟩
theorem fun_spec_l6Open : Try.prog.funcs[F_spec_l6Open]? = some Try.f46 := Try.func46
theorem tmps_spec_l6Open : Try.f46.ntmps = 11 := Try.ntmps46
theorem ress_spec_l6Open : Try.f46.results = #[.tmp 2] := Try.results46
abbrev F_spec_l91Graph : FuncId := 47
instance can_spec_l91Graph : Callable Try.prog 47 := ⟨_, Try.func47, by kernel_rfl, by kernel_rfl⟩
theorem fun_spec_l91Graph : Try.prog.funcs[F_spec_l91Graph]? = some Try.f47 := Try.func47
theorem tmps_spec_l91Graph : Try.f47.ntmps = 25 := Try.ntmps47
theorem ress_spec_l91Graph : Try.f47.results = #[.cell 2 45] := Try.results47
abbrev F_spec_l91State : FuncId := 48
instance can_spec_l91State : Callable Try.prog 48 := ⟨_, Try.func48, by kernel_rfl, by kernel_rfl⟩
theorem fun_spec_l91State : Try.prog.funcs[F_spec_l91State]? = some Try.f48 := Try.func48
theorem tmps_spec_l91State : Try.f48.ntmps = 22 := Try.ntmps48
theorem ress_spec_l91State : Try.f48.results = #[.tmp 4] := Try.results48
abbrev F_impl_GraphOk : FuncId := 49
instance can_impl_GraphOk : Callable Try.prog 49 := ⟨_, Try.func49, by kernel_rfl, by kernel_rfl⟩
theorem fun_impl_GraphOk : Try.prog.funcs[F_impl_GraphOk]? = some Try.f49 := Try.func49
theorem tmps_impl_GraphOk : Try.f49.ntmps = 64 := Try.ntmps49
theorem ress_impl_GraphOk : Try.f49.results = #[.tmp 2] := Try.results49
abbrev F_impl_reached : FuncId := 50
instance can_impl_reached : Callable Try.prog 50 := ⟨_, Try.func50, by kernel_rfl, by kernel_rfl⟩
theorem fun_impl_reached : Try.prog.funcs[F_impl_reached]? = some Try.f50 := Try.func50
theorem tmps_impl_reached : Try.f50.ntmps = 49 := Try.ntmps50
theorem ress_impl_reached : Try.f50.results = #[.tmp 4] := Try.results50
abbrev F_slices_Index_int_int : FuncId := 51
instance can_slices_Index_int_int : Callable Try.prog 51 := ⟨_, Try.func51, by kernel_rfl, by kernel_rfl⟩
theorem fun_slices_Index_int_int : Try.prog.funcs[F_slices_Index_int_int]? = some Try.f51 := Try.func51
theorem tmps_slices_Index_int_int : Try.f51.ntmps = 19 := Try.ntmps51
theorem ress_slices_Index_int_int : Try.f51.results = #[.tmp 4] := Try.results51
abbrev F_impl_tidy : FuncId := 52
instance can_impl_tidy : Callable Try.prog 52 := ⟨_, Try.func52, by kernel_rfl, by kernel_rfl⟩
theorem fun_impl_tidy : Try.prog.funcs[F_impl_tidy]? = some Try.f52 := Try.func52
theorem tmps_impl_tidy : Try.f52.ntmps = 7 := Try.ntmps52
theorem ress_impl_tidy : Try.f52.results = #[.tmp 2] := Try.results52
abbrev F_spec_GraphOk : FuncId := 53
instance can_spec_GraphOk : Callable Try.prog 53 := ⟨_, Try.func53, by kernel_rfl, by kernel_rfl⟩
theorem fun_spec_GraphOk : Try.prog.funcs[F_spec_GraphOk]? = some Try.f53 := Try.func53
theorem tmps_spec_GraphOk : Try.f53.ntmps = 68 := Try.ntmps53
theorem ress_spec_GraphOk : Try.f53.results = #[.tmp 2] := Try.results53
abbrev F_spec_l6In : FuncId := 54
instance can_spec_l6In : Callable Try.prog 54 := ⟨_, Try.func54, by kernel_rfl, by kernel_rfl⟩
theorem fun_spec_l6In : Try.prog.funcs[F_spec_l6In]? = some Try.f54 := Try.func54
theorem tmps_spec_l6In : Try.f54.ntmps = 15 := Try.ntmps54
theorem ress_spec_l6In : Try.f54.results = #[.tmp 6] := Try.results54
abbrev F_spec_l3Part : FuncId := 55
instance can_spec_l3Part : Callable Try.prog 55 := ⟨_, Try.func55, by kernel_rfl, by kernel_rfl⟩
theorem fun_spec_l3Part : Try.prog.funcs[F_spec_l3Part]? = some Try.f55 := Try.func55
theorem tmps_spec_l3Part : Try.f55.ntmps = 84 := Try.ntmps55
theorem ress_spec_l3Part : Try.f55.results = #[.cell 4 45] := Try.results55
abbrev F_impl_shifted : FuncId := 56
instance can_impl_shifted : Callable Try.prog 56 := ⟨_, Try.func56, by kernel_rfl, by kernel_rfl⟩
theorem fun_impl_shifted : Try.prog.funcs[F_impl_shifted]? = some Try.f56 := Try.func56
theorem tmps_impl_shifted : Try.f56.ntmps = 27 := Try.ntmps56
theorem ress_impl_shifted : Try.f56.results = #[.tmp 4] := Try.results56
abbrev F_impl_alikeClasses : FuncId := 57
instance can_impl_alikeClasses : Callable Try.prog 57 := ⟨_, Try.func57, by kernel_rfl, by kernel_rfl⟩
theorem fun_impl_alikeClasses : Try.prog.funcs[F_impl_alikeClasses]? = some Try.f57 := Try.func57
theorem tmps_impl_alikeClasses : Try.f57.ntmps = 13 := Try.ntmps57
theorem ress_impl_alikeClasses : Try.f57.results = #[.tmp 2] := Try.results57
abbrev F_spec_l4Classes : FuncId := 58
instance can_spec_l4Classes : Callable Try.prog 58 := ⟨_, Try.func58, by kernel_rfl, by kernel_rfl⟩
theorem fun_spec_l4Classes : Try.prog.funcs[F_spec_l4Classes]? = some Try.f58 := Try.func58
theorem tmps_spec_l4Classes : Try.f58.ntmps = 12 := Try.ntmps58
theorem ress_spec_l4Classes : Try.f58.results = #[.tmp 2] := Try.results58
abbrev F_impl_alikeRounds : FuncId := 59
instance can_impl_alikeRounds : Callable Try.prog 59 := ⟨_, Try.func59, by kernel_rfl, by kernel_rfl⟩
theorem fun_impl_alikeRounds : Try.prog.funcs[F_impl_alikeRounds]? = some Try.f59 := Try.func59
theorem tmps_impl_alikeRounds : Try.f59.ntmps = 8 := Try.ntmps59
theorem ress_impl_alikeRounds : Try.f59.results = #[.tmp 2] := Try.results59
abbrev F_impl_tableOk : FuncId := 60
instance can_impl_tableOk : Callable Try.prog 60 := ⟨_, Try.func60, by kernel_rfl, by kernel_rfl⟩
theorem fun_impl_tableOk : Try.prog.funcs[F_impl_tableOk]? = some Try.f60 := Try.func60
theorem tmps_impl_tableOk : Try.f60.ntmps = 31 := Try.ntmps60
theorem ress_impl_tableOk : Try.f60.results = #[.tmp 4] := Try.results60
abbrev F_slices_ContainsFunc_impl_Move_impl_Move : FuncId := 61
instance can_slices_ContainsFunc_impl_Move_impl_Move : Callable Try.prog 61 := ⟨_, Try.func61, by kernel_rfl, by kernel_rfl⟩
theorem fun_slices_ContainsFunc_impl_Move_impl_Move : Try.prog.funcs[F_slices_ContainsFunc_impl_Move_impl_Move]? = some Try.f61 := Try.func61
theorem tmps_slices_ContainsFunc_impl_Move_impl_Move : Try.f61.ntmps = 9 := Try.ntmps61
theorem ress_slices_ContainsFunc_impl_Move_impl_Move : Try.f61.results = #[.tmp 4] := Try.results61
abbrev F_impl_AlikeRelation_1 : FuncId := 62
instance can_impl_AlikeRelation_1 : Callable Try.prog 62 := ⟨_, Try.func62, by kernel_rfl, by kernel_rfl⟩
theorem fun_impl_AlikeRelation_1 : Try.prog.funcs[F_impl_AlikeRelation_1]? = some Try.f62 := Try.func62
theorem tmps_impl_AlikeRelation_1 : Try.f62.ntmps = 21 := Try.ntmps62
theorem ress_impl_AlikeRelation_1 : Try.f62.results = #[.tmp 4] := Try.results62
abbrev F_impl_AlikeRelation_2 : FuncId := 63
instance can_impl_AlikeRelation_2 : Callable Try.prog 63 := ⟨_, Try.func63, by kernel_rfl, by kernel_rfl⟩
theorem fun_impl_AlikeRelation_2 : Try.prog.funcs[F_impl_AlikeRelation_2]? = some Try.f63 := Try.func63
theorem tmps_impl_AlikeRelation_2 : Try.f63.ntmps = 21 := Try.ntmps63
theorem ress_impl_AlikeRelation_2 : Try.f63.results = #[.tmp 4] := Try.results63
abbrev F_spec_l6Rd_pick : FuncId := 64
instance can_spec_l6Rd_pick : Callable Try.prog 64 := ⟨_, Try.func64, by kernel_rfl, by kernel_rfl⟩
theorem fun_spec_l6Rd_pick : Try.prog.funcs[F_spec_l6Rd_pick]? = some Try.f64 := Try.func64
theorem tmps_spec_l6Rd_pick : Try.f64.ntmps = 99 := Try.ntmps64
theorem ress_spec_l6Rd_pick : Try.f64.results = #[.tmp 4] := Try.results64
abbrev F_spec_l4Follows : FuncId := 65
instance can_spec_l4Follows : Callable Try.prog 65 := ⟨_, Try.func65, by kernel_rfl, by kernel_rfl⟩
theorem fun_spec_l4Follows : Try.prog.funcs[F_spec_l4Follows]? = some Try.f65 := Try.func65
theorem tmps_spec_l4Follows : Try.f65.ntmps = 91 := Try.ntmps65
theorem ress_spec_l4Follows : Try.f65.results = #[.tmp 10] := Try.results65
abbrev F_spec_l91Twins : FuncId := 66
instance can_spec_l91Twins : Callable Try.prog 66 := ⟨_, Try.func66, by kernel_rfl, by kernel_rfl⟩
theorem fun_spec_l91Twins : Try.prog.funcs[F_spec_l91Twins]? = some Try.f66 := Try.func66
theorem tmps_spec_l91Twins : Try.f66.ntmps = 59 := Try.ntmps66
theorem ress_spec_l91Twins : Try.f66.results = #[.cell 2 45, .cell 3 45] := Try.results66
abbrev F_spec_l4Both : FuncId := 67
instance can_spec_l4Both : Callable Try.prog 67 := ⟨_, Try.func67, by kernel_rfl, by kernel_rfl⟩
theorem fun_spec_l4Both : Try.prog.funcs[F_spec_l4Both]? = some Try.f67 := Try.func67
theorem tmps_spec_l4Both : Try.f67.ntmps = 83 := Try.ntmps67
theorem ress_spec_l4Both : Try.f67.results = #[.cell 4 45] := Try.results67
abbrev F_spec_DefsOk : FuncId := 68
instance can_spec_DefsOk : Callable Try.prog 68 := ⟨_, Try.func68, by kernel_rfl, by kernel_rfl⟩
theorem fun_spec_DefsOk : Try.prog.funcs[F_spec_DefsOk]? = some Try.f68 := Try.func68
theorem tmps_spec_DefsOk : Try.f68.ntmps = 29 := Try.ntmps68
theorem ress_spec_DefsOk : Try.f68.results = #[.tmp 2] := Try.results68
abbrev F_spec_TermFits : FuncId := 69
instance can_spec_TermFits : Callable Try.prog 69 := ⟨_, Try.func69, by kernel_rfl, by kernel_rfl⟩
theorem fun_spec_TermFits : Try.prog.funcs[F_spec_TermFits]? = some Try.f69 := Try.func69
theorem tmps_spec_TermFits : Try.f69.ntmps = 17 := Try.ntmps69
theorem ress_spec_TermFits : Try.f69.results = #[.tmp 4] := Try.results69
abbrev F_spec_l1Name : FuncId := 70
instance can_spec_l1Name : Callable Try.prog 70 := ⟨_, Try.func70, by kernel_rfl, by kernel_rfl⟩
theorem fun_spec_l1Name : Try.prog.funcs[F_spec_l1Name]? = some Try.f70 := Try.func70
theorem tmps_spec_l1Name : Try.f70.ntmps = 8 := Try.ntmps70
theorem ress_spec_l1Name : Try.f70.results = #[.tmp 2] := Try.results70
abbrev F_spec_l2Map : FuncId := 71
instance can_spec_l2Map : Callable Try.prog 71 := ⟨_, Try.func71, by kernel_rfl, by kernel_rfl⟩
theorem fun_spec_l2Map : Try.prog.funcs[F_spec_l2Map]? = some Try.f71 := Try.func71
theorem tmps_spec_l2Map : Try.f71.ntmps = 78 := Try.ntmps71
theorem ress_spec_l2Map : Try.f71.results = #[.cell 4 32] := Try.results71
abbrev F_spec_l2Swapped : FuncId := 72
instance can_spec_l2Swapped : Callable Try.prog 72 := ⟨_, Try.func72, by kernel_rfl, by kernel_rfl⟩
theorem fun_spec_l2Swapped : Try.prog.funcs[F_spec_l2Swapped]? = some Try.f72 := Try.func72
theorem tmps_spec_l2Swapped : Try.f72.ntmps = 25 := Try.ntmps72
theorem ress_spec_l2Swapped : Try.f72.results = #[.tmp 4] := Try.results72
abbrev F_slices_ContainsFunc_impl_Term_impl_Term : FuncId := 73
instance can_slices_ContainsFunc_impl_Term_impl_Term : Callable Try.prog 73 := ⟨_, Try.func73, by kernel_rfl, by kernel_rfl⟩
theorem fun_slices_ContainsFunc_impl_Term_impl_Term : Try.prog.funcs[F_slices_ContainsFunc_impl_Term_impl_Term]? = some Try.f73 := Try.func73
theorem tmps_slices_ContainsFunc_impl_Term_impl_Term : Try.f73.ntmps = 9 := Try.ntmps73
theorem ress_slices_ContainsFunc_impl_Term_impl_Term : Try.f73.results = #[.tmp 4] := Try.results73
abbrev F_impl_DefsOk_1 : FuncId := 74
instance can_impl_DefsOk_1 : Callable Try.prog 74 := ⟨_, Try.func74, by kernel_rfl, by kernel_rfl⟩
theorem fun_impl_DefsOk_1 : Try.prog.funcs[F_impl_DefsOk_1]? = some Try.f74 := Try.func74
theorem tmps_impl_DefsOk_1 : Try.f74.ntmps = 13 := Try.ntmps74
theorem ress_impl_DefsOk_1 : Try.f74.results = #[.tmp 3] := Try.results74
abbrev F_impl_bare : FuncId := 75
instance can_impl_bare : Callable Try.prog 75 := ⟨_, Try.func75, by kernel_rfl, by kernel_rfl⟩
theorem fun_impl_bare : Try.prog.funcs[F_impl_bare]? = some Try.f75 := Try.func75
theorem tmps_impl_bare : Try.f75.ntmps = 16 := Try.ntmps75
theorem ress_impl_bare : Try.f75.results = #[.tmp 2] := Try.results75
abbrev F_impl_TermOk : FuncId := 76
instance can_impl_TermOk : Callable Try.prog 76 := ⟨_, Try.func76, by kernel_rfl, by kernel_rfl⟩
theorem fun_impl_TermOk : Try.prog.funcs[F_impl_TermOk]? = some Try.f76 := Try.func76
theorem tmps_impl_TermOk : Try.f76.ntmps = 10 := Try.ntmps76
theorem ress_impl_TermOk : Try.f76.results = #[.tmp 2] := Try.results76
abbrev F_impl_callsBelow : FuncId := 77
instance can_impl_callsBelow : Callable Try.prog 77 := ⟨_, Try.func77, by kernel_rfl, by kernel_rfl⟩
theorem fun_impl_callsBelow : Try.prog.funcs[F_impl_callsBelow]? = some Try.f77 := Try.func77
theorem tmps_impl_callsBelow : Try.f77.ntmps = 21 := Try.ntmps77
theorem ress_impl_callsBelow : Try.f77.results = #[.tmp 4] := Try.results77
abbrev F_impl_parOf : FuncId := 78
instance can_impl_parOf : Callable Try.prog 78 := ⟨_, Try.func78, by kernel_rfl, by kernel_rfl⟩
theorem fun_impl_parOf : Try.prog.funcs[F_impl_parOf]? = some Try.f78 := Try.func78
theorem tmps_impl_parOf : Try.f78.ntmps = 9 := Try.ntmps78
theorem ress_impl_parOf : Try.f78.results = #[.cell 4 32] := Try.results78
abbrev F_impl_nameOf : FuncId := 79
instance can_impl_nameOf : Callable Try.prog 79 := ⟨_, Try.func79, by kernel_rfl, by kernel_rfl⟩
theorem fun_impl_nameOf : Try.prog.funcs[F_impl_nameOf]? = some Try.f79 := Try.func79
theorem tmps_impl_nameOf : Try.f79.ntmps = 8 := Try.ntmps79
theorem ress_impl_nameOf : Try.f79.results = #[.tmp 2] := Try.results79
abbrev F_impl_hideOf : FuncId := 80
instance can_impl_hideOf : Callable Try.prog 80 := ⟨_, Try.func80, by kernel_rfl, by kernel_rfl⟩
theorem fun_impl_hideOf : Try.prog.funcs[F_impl_hideOf]? = some Try.f80 := Try.func80
theorem tmps_impl_hideOf : Try.f80.ntmps = 9 := Try.ntmps80
theorem ress_impl_hideOf : Try.f80.results = #[.cell 4 32] := Try.results80
abbrev F_spec_l91Called : FuncId := 81
instance can_spec_l91Called : Callable Try.prog 81 := ⟨_, Try.func81, by kernel_rfl, by kernel_rfl⟩
theorem fun_spec_l91Called : Try.prog.funcs[F_spec_l91Called]? = some Try.f81 := Try.func81
theorem tmps_spec_l91Called : Try.f81.ntmps = 27 := Try.ntmps81
theorem ress_spec_l91Called : Try.f81.results = #[.cell 2 32, .tmp 3] := Try.results81
abbrev F_spec_GraphOf : FuncId := 82
instance can_spec_GraphOf : Callable Try.prog 82 := ⟨_, Try.func82, by kernel_rfl, by kernel_rfl⟩
theorem fun_spec_GraphOf : Try.prog.funcs[F_spec_GraphOf]? = some Try.f82 := Try.func82
theorem tmps_spec_GraphOf : Try.f82.ntmps = 16 := Try.ntmps82
theorem ress_spec_GraphOf : Try.f82.results = #[.cell 4 45, .tmp 5] := Try.results82
abbrev F_spec_l91Wild : FuncId := 83
instance can_spec_l91Wild : Callable Try.prog 83 := ⟨_, Try.func83, by kernel_rfl, by kernel_rfl⟩
theorem fun_spec_l91Wild : Try.prog.funcs[F_spec_l91Wild]? = some Try.f83 := Try.func83
theorem tmps_spec_l91Wild : Try.f83.ntmps = 84 := Try.ntmps83
theorem ress_spec_l91Wild : Try.f83.results = #[.cell 4 45] := Try.results83
abbrev F_impl_ActOk : FuncId := 84
instance can_impl_ActOk : Callable Try.prog 84 := ⟨_, Try.func84, by kernel_rfl, by kernel_rfl⟩
theorem fun_impl_ActOk : Try.prog.funcs[F_impl_ActOk]? = some Try.f84 := Try.func84
theorem tmps_impl_ActOk : Try.f84.ntmps = 9 := Try.ntmps84
theorem ress_impl_ActOk : Try.f84.results = #[.tmp 2] := Try.results84
abbrev F_impl_byMove : FuncId := 85
instance can_impl_byMove : Callable Try.prog 85 := ⟨_, Try.func85, by kernel_rfl, by kernel_rfl⟩
theorem fun_impl_byMove : Try.prog.funcs[F_impl_byMove]? = some Try.f85 := Try.func85
theorem tmps_impl_byMove : Try.f85.ntmps = 19 := Try.ntmps85
theorem ress_impl_byMove : Try.f85.results = #[.tmp 4] := Try.results85
abbrev F_slices_SortFunc_impl_Move_impl_Move : FuncId := 86
instance can_slices_SortFunc_impl_Move_impl_Move : Callable Try.prog 86 := ⟨_, Try.func86, by kernel_rfl, by kernel_rfl⟩
theorem fun_slices_SortFunc_impl_Move_impl_Move : Try.prog.funcs[F_slices_SortFunc_impl_Move_impl_Move]? = some Try.f86 := Try.func86
theorem tmps_slices_SortFunc_impl_Move_impl_Move : Try.f86.ntmps = 14 := Try.ntmps86
theorem ress_slices_SortFunc_impl_Move_impl_Move : Try.f86.results = #[] := Try.results86
abbrev F_slices_Compact_impl_Move_impl_Move : FuncId := 87
instance can_slices_Compact_impl_Move_impl_Move : Callable Try.prog 87 := ⟨_, Try.func87, by kernel_rfl, by kernel_rfl⟩
theorem fun_slices_Compact_impl_Move_impl_Move : Try.prog.funcs[F_slices_Compact_impl_Move_impl_Move]? = some Try.f87 := Try.func87
theorem tmps_slices_Compact_impl_Move_impl_Move : Try.f87.ntmps = 61 := Try.ntmps87
theorem ress_slices_Compact_impl_Move_impl_Move : Try.f87.results = #[.tmp 2] := Try.results87
abbrev F_spec_ActOk : FuncId := 88
instance can_spec_ActOk : Callable Try.prog 88 := ⟨_, Try.func88, by kernel_rfl, by kernel_rfl⟩
theorem fun_spec_ActOk : Try.prog.funcs[F_spec_ActOk]? = some Try.f88 := Try.func88
theorem tmps_spec_ActOk : Try.f88.ntmps = 5 := Try.ntmps88
theorem ress_spec_ActOk : Try.f88.results = #[.tmp 2] := Try.results88
abbrev F_spec_l3Less : FuncId := 89
instance can_spec_l3Less : Callable Try.prog 89 := ⟨_, Try.func89, by kernel_rfl, by kernel_rfl⟩
theorem fun_spec_l3Less : Try.prog.funcs[F_spec_l3Less]? = some Try.f89 := Try.func89
theorem tmps_spec_l3Less : Try.f89.ntmps = 24 := Try.ntmps89
theorem ress_spec_l3Less : Try.f89.results = #[.tmp 4] := Try.results89
abbrev F_spec_l3From : FuncId := 90
instance can_spec_l3From : Callable Try.prog 90 := ⟨_, Try.func90, by kernel_rfl, by kernel_rfl⟩
theorem fun_spec_l3From : Try.prog.funcs[F_spec_l3From]? = some Try.f90 := Try.func90
theorem tmps_spec_l3From : Try.f90.ntmps = 64 := Try.ntmps90
theorem ress_spec_l3From : Try.f90.results = #[.tmp 4] := Try.results90
abbrev F_spec_l3Sorted : FuncId := 91
instance can_spec_l3Sorted : Callable Try.prog 91 := ⟨_, Try.func91, by kernel_rfl, by kernel_rfl⟩
theorem fun_spec_l3Sorted : Try.prog.funcs[F_spec_l3Sorted]? = some Try.f91 := Try.func91
theorem tmps_spec_l3Sorted : Try.f91.ntmps = 74 := Try.ntmps91
theorem ress_spec_l3Sorted : Try.f91.results = #[.tmp 2] := Try.results91
abbrev F_slices_Clone_int_int : FuncId := 92
instance can_slices_Clone_int_int : Callable Try.prog 92 := ⟨_, Try.func92, by kernel_rfl, by kernel_rfl⟩
theorem fun_slices_Clone_int_int : Try.prog.funcs[F_slices_Clone_int_int]? = some Try.f92 := Try.func92
theorem tmps_slices_Clone_int_int : Try.f92.ntmps = 8 := Try.ntmps92
theorem ress_slices_Clone_int_int : Try.f92.results = #[.tmp 2] := Try.results92
abbrev F_spec_l4Rounds : FuncId := 93
instance can_spec_l4Rounds : Callable Try.prog 93 := ⟨_, Try.func93, by kernel_rfl, by kernel_rfl⟩
theorem fun_spec_l4Rounds : Try.prog.funcs[F_spec_l4Rounds]? = some Try.f93 := Try.func93
theorem tmps_spec_l4Rounds : Try.f93.ntmps = 31 := Try.ntmps93
theorem ress_spec_l4Rounds : Try.f93.results = #[.tmp 2] := Try.results93
abbrev F_impl_rounds : FuncId := 94
instance can_impl_rounds : Callable Try.prog 94 := ⟨_, Try.func94, by kernel_rfl, by kernel_rfl⟩
theorem fun_impl_rounds : Try.prog.funcs[F_impl_rounds]? = some Try.f94 := Try.func94
theorem tmps_impl_rounds : Try.f94.ntmps = 28 := Try.ntmps94
theorem ress_impl_rounds : Try.f94.results = #[.tmp 4] := Try.results94
abbrev F_impl_alikeRounds_1 : FuncId := 95
instance can_impl_alikeRounds_1 : Callable Try.prog 95 := ⟨_, Try.func95, by kernel_rfl, by kernel_rfl⟩
theorem fun_impl_alikeRounds_1 : Try.prog.funcs[F_impl_alikeRounds_1]? = some Try.f95 := Try.func95
theorem tmps_impl_alikeRounds_1 : Try.f95.ntmps = 34 := Try.ntmps95
theorem ress_impl_alikeRounds_1 : Try.f95.results = #[.tmp 5] := Try.results95
abbrev F_slices_IndexFunc_impl_Move_impl_Move : FuncId := 96
instance can_slices_IndexFunc_impl_Move_impl_Move : Callable Try.prog 96 := ⟨_, Try.func96, by kernel_rfl, by kernel_rfl⟩
theorem fun_slices_IndexFunc_impl_Move_impl_Move : Try.prog.funcs[F_slices_IndexFunc_impl_Move_impl_Move]? = some Try.f96 := Try.func96
theorem tmps_slices_IndexFunc_impl_Move_impl_Move : Try.f96.ntmps = 19 := Try.ntmps96
theorem ress_slices_IndexFunc_impl_Move_impl_Move : Try.f96.results = #[.tmp 4] := Try.results96
abbrev F_spec_l91Pair : FuncId := 97
instance can_spec_l91Pair : Callable Try.prog 97 := ⟨_, Try.func97, by kernel_rfl, by kernel_rfl⟩
theorem fun_spec_l91Pair : Try.prog.funcs[F_spec_l91Pair]? = some Try.f97 := Try.func97
theorem tmps_spec_l91Pair : Try.f97.ntmps = 79 := Try.ntmps97
theorem ress_spec_l91Pair : Try.f97.results = #[.cell 2 32, .cell 3 32, .tmp 4] := Try.results97
abbrev F_spec_GraphFold : FuncId := 98
instance can_spec_GraphFold : Callable Try.prog 98 := ⟨_, Try.func98, by kernel_rfl, by kernel_rfl⟩
theorem fun_spec_GraphFold : Try.prog.funcs[F_spec_GraphFold]? = some Try.f98 := Try.func98
theorem tmps_spec_GraphFold : Try.f98.ntmps = 12 := Try.ntmps98
theorem ress_spec_GraphFold : Try.f98.results = #[.cell 2 45, .tmp 3] := Try.results98
abbrev F_spec_l2Calls : FuncId := 99
instance can_spec_l2Calls : Callable Try.prog 99 := ⟨_, Try.func99, by kernel_rfl, by kernel_rfl⟩
theorem fun_spec_l2Calls : Try.prog.funcs[F_spec_l2Calls]? = some Try.f99 := Try.func99
theorem tmps_spec_l2Calls : Try.f99.ntmps = 38 := Try.ntmps99
theorem ress_spec_l2Calls : Try.f99.results = #[.tmp 4] := Try.results99
abbrev F_spec_TermOk : FuncId := 100
instance can_spec_TermOk : Callable Try.prog 100 := ⟨_, Try.func100, by kernel_rfl, by kernel_rfl⟩
theorem fun_spec_TermOk : Try.prog.funcs[F_spec_TermOk]? = some Try.f100 := Try.func100
theorem tmps_spec_TermOk : Try.f100.ntmps = 6 := Try.ntmps100
theorem ress_spec_TermOk : Try.f100.results = #[.tmp 2] := Try.results100
abbrev F_slices_IndexFunc_impl_Term_impl_Term : FuncId := 101
instance can_slices_IndexFunc_impl_Term_impl_Term : Callable Try.prog 101 := ⟨_, Try.func101, by kernel_rfl, by kernel_rfl⟩
theorem fun_slices_IndexFunc_impl_Term_impl_Term : Try.prog.funcs[F_slices_IndexFunc_impl_Term_impl_Term]? = some Try.f101 := Try.func101
theorem tmps_slices_IndexFunc_impl_Term_impl_Term : Try.f101.ntmps = 19 := Try.ntmps101
theorem ress_slices_IndexFunc_impl_Term_impl_Term : Try.f101.results = #[.tmp 4] := Try.results101
abbrev F_impl_termNodes : FuncId := 102
instance can_impl_termNodes : Callable Try.prog 102 := ⟨_, Try.func102, by kernel_rfl, by kernel_rfl⟩
theorem fun_impl_termNodes : Try.prog.funcs[F_impl_termNodes]? = some Try.f102 := Try.func102
theorem tmps_impl_termNodes : Try.f102.ntmps = 28 := Try.ntmps102
theorem ress_impl_termNodes : Try.f102.results = #[.tmp 4] := Try.results102
abbrev F_impl_termShape : FuncId := 103
instance can_impl_termShape : Callable Try.prog 103 := ⟨_, Try.func103, by kernel_rfl, by kernel_rfl⟩
theorem fun_impl_termShape : Try.prog.funcs[F_impl_termShape]? = some Try.f103 := Try.func103
theorem tmps_impl_termShape : Try.f103.ntmps = 50 := Try.ntmps103
theorem ress_impl_termShape : Try.f103.results = #[.tmp 2] := Try.results103
abbrev F_impl_callsBelow_1 : FuncId := 104
instance can_impl_callsBelow_1 : Callable Try.prog 104 := ⟨_, Try.func104, by kernel_rfl, by kernel_rfl⟩
theorem fun_impl_callsBelow_1 : Try.prog.funcs[F_impl_callsBelow_1]? = some Try.f104 := Try.func104
theorem tmps_impl_callsBelow_1 : Try.f104.ntmps = 8 := Try.ntmps104
theorem ress_impl_callsBelow_1 : Try.f104.results = #[.tmp 3] := Try.results104
abbrev F_spec_l91Defs : FuncId := 105
instance can_spec_l91Defs : Callable Try.prog 105 := ⟨_, Try.func105, by kernel_rfl, by kernel_rfl⟩
theorem fun_spec_l91Defs : Try.prog.funcs[F_spec_l91Defs]? = some Try.f105 := Try.func105
theorem tmps_spec_l91Defs : Try.f105.ntmps = 41 := Try.ntmps105
theorem ress_spec_l91Defs : Try.f105.results = #[.tmp 2] := Try.results105
abbrev F_spec_l91Term : FuncId := 106
instance can_spec_l91Term : Callable Try.prog 106 := ⟨_, Try.func106, by kernel_rfl, by kernel_rfl⟩
theorem fun_spec_l91Term : Try.prog.funcs[F_spec_l91Term]? = some Try.f106 := Try.func106
theorem tmps_spec_l91Term : Try.f106.ntmps = 34 := Try.ntmps106
theorem ress_spec_l91Term : Try.f106.results = #[.cell 4 32] := Try.results106
abbrev F_spec_l3Graph : FuncId := 107
instance can_spec_l3Graph : Callable Try.prog 107 := ⟨_, Try.func107, by kernel_rfl, by kernel_rfl⟩
theorem fun_spec_l3Graph : Try.prog.funcs[F_spec_l3Graph]? = some Try.f107 := Try.func107
theorem tmps_spec_l3Graph : Try.f107.ntmps = 106 := Try.ntmps107
theorem ress_spec_l3Graph : Try.f107.results = #[.cell 4 45, .tmp 5] := Try.results107
abbrev F_spec_l91Do : FuncId := 108
instance can_spec_l91Do : Callable Try.prog 108 := ⟨_, Try.func108, by kernel_rfl, by kernel_rfl⟩
theorem fun_spec_l91Do : Try.prog.funcs[F_spec_l91Do]? = some Try.f108 := Try.func108
theorem tmps_spec_l91Do : Try.f108.ntmps = 12 := Try.ntmps108
theorem ress_spec_l91Do : Try.f108.results = #[.tmp 2] := Try.results108
abbrev F_cmp_Compare_int : FuncId := 109
instance can_cmp_Compare_int : Callable Try.prog 109 := ⟨_, Try.func109, by kernel_rfl, by kernel_rfl⟩
theorem fun_cmp_Compare_int : Try.prog.funcs[F_cmp_Compare_int]? = some Try.f109 := Try.func109
theorem tmps_cmp_Compare_int : Try.f109.ntmps = 20 := Try.ntmps109
theorem ress_cmp_Compare_int : Try.f109.results = #[.tmp 4] := Try.results109
abbrev F_slices_pdqsortCmpFunc_impl_Move : FuncId := 110
instance can_slices_pdqsortCmpFunc_impl_Move : Callable Try.prog 110 := ⟨_, Try.func110, by kernel_rfl, by kernel_rfl⟩
theorem fun_slices_pdqsortCmpFunc_impl_Move : Try.prog.funcs[F_slices_pdqsortCmpFunc_impl_Move]? = some Try.f110 := Try.func110
theorem tmps_slices_pdqsortCmpFunc_impl_Move : Try.f110.ntmps = 148 := Try.ntmps110
theorem ress_slices_pdqsortCmpFunc_impl_Move : Try.f110.results = #[] := Try.results110
abbrev F_bits_Len : FuncId := 111
instance can_bits_Len : Callable Try.prog 111 := ⟨_, Try.func111, by kernel_rfl, by kernel_rfl⟩
theorem fun_bits_Len : Try.prog.funcs[F_bits_Len]? = some Try.f111 := Try.func111
theorem tmps_bits_Len : Try.f111.ntmps = 8 := Try.ntmps111
theorem ress_bits_Len : Try.f111.results = #[.tmp 2] := Try.results111
abbrev F_spec_l4Next : FuncId := 112
instance can_spec_l4Next : Callable Try.prog 112 := ⟨_, Try.func112, by kernel_rfl, by kernel_rfl⟩
theorem fun_spec_l4Next : Try.prog.funcs[F_spec_l4Next]? = some Try.f112 := Try.func112
theorem tmps_spec_l4Next : Try.f112.ntmps = 52 := Try.ntmps112
theorem ress_spec_l4Next : Try.f112.results = #[.tmp 4] := Try.results112
abbrev F_spec_l4Same : FuncId := 113
instance can_spec_l4Same : Callable Try.prog 113 := ⟨_, Try.func113, by kernel_rfl, by kernel_rfl⟩
theorem fun_spec_l4Same : Try.prog.funcs[F_spec_l4Same]? = some Try.f113 := Try.func113
theorem tmps_spec_l4Same : Try.f113.ntmps = 26 := Try.ntmps113
theorem ress_spec_l4Same : Try.f113.results = #[.tmp 4] := Try.results113
abbrev F_impl_refine : FuncId := 114
instance can_impl_refine : Callable Try.prog 114 := ⟨_, Try.func114, by kernel_rfl, by kernel_rfl⟩
theorem fun_impl_refine : Try.prog.funcs[F_impl_refine]? = some Try.f114 := Try.func114
theorem tmps_impl_refine : Try.f114.ntmps = 61 := Try.ntmps114
theorem ress_impl_refine : Try.f114.results = #[.tmp 4] := Try.results114
abbrev F_impl_rounds_1 : FuncId := 115
instance can_impl_rounds_1 : Callable Try.prog 115 := ⟨_, Try.func115, by kernel_rfl, by kernel_rfl⟩
theorem fun_impl_rounds_1 : Try.prog.funcs[F_impl_rounds_1]? = some Try.f115 := Try.func115
theorem tmps_impl_rounds_1 : Try.f115.ntmps = 9 := Try.ntmps115
theorem ress_impl_rounds_1 : Try.f115.results = #[.tmp 4] := Try.results115
abbrev F_slices_Equal_int_int : FuncId := 116
instance can_slices_Equal_int_int : Callable Try.prog 116 := ⟨_, Try.func116, by kernel_rfl, by kernel_rfl⟩
theorem fun_slices_Equal_int_int : Try.prog.funcs[F_slices_Equal_int_int]? = some Try.f116 := Try.func116
theorem tmps_slices_Equal_int_int : Try.f116.ntmps = 26 := Try.ntmps116
theorem ress_slices_Equal_int_int : Try.f116.results = #[.tmp 4] := Try.results116
abbrev F_spec_l4Fold : FuncId := 117
instance can_spec_l4Fold : Callable Try.prog 117 := ⟨_, Try.func117, by kernel_rfl, by kernel_rfl⟩
theorem fun_spec_l4Fold : Try.prog.funcs[F_spec_l4Fold]? = some Try.f117 := Try.func117
theorem tmps_spec_l4Fold : Try.f117.ntmps = 100 := Try.ntmps117
theorem ress_spec_l4Fold : Try.f117.results = #[.cell 4 45] := Try.results117
abbrev F_spec_l2Nodes : FuncId := 118
instance can_spec_l2Nodes : Callable Try.prog 118 := ⟨_, Try.func118, by kernel_rfl, by kernel_rfl⟩
theorem fun_spec_l2Nodes : Try.prog.funcs[F_spec_l2Nodes]? = some Try.f118 := Try.func118
theorem tmps_spec_l2Nodes : Try.f118.ntmps = 60 := Try.ntmps118
theorem ress_spec_l2Nodes : Try.f118.results = #[.tmp 2] := Try.results118
abbrev F_impl_nameOk : FuncId := 119
instance can_impl_nameOk : Callable Try.prog 119 := ⟨_, Try.func119, by kernel_rfl, by kernel_rfl⟩
theorem fun_impl_nameOk : Try.prog.funcs[F_impl_nameOk]? = some Try.f119 := Try.func119
theorem tmps_impl_nameOk : Try.f119.ntmps = 9 := Try.ntmps119
theorem ress_impl_nameOk : Try.f119.results = #[.tmp 2] := Try.results119
abbrev F_impl_termShape_1 : FuncId := 120
instance can_impl_termShape_1 : Callable Try.prog 120 := ⟨_, Try.func120, by kernel_rfl, by kernel_rfl⟩
theorem fun_impl_termShape_1 : Try.prog.funcs[F_impl_termShape_1]? = some Try.f120 := Try.func120
theorem tmps_impl_termShape_1 : Try.f120.ntmps = 6 := Try.ntmps120
theorem ress_impl_termShape_1 : Try.f120.results = #[.tmp 2] := Try.results120
abbrev F_spec_l91Good : FuncId := 121
instance can_spec_l91Good : Callable Try.prog 121 := ⟨_, Try.func121, by kernel_rfl, by kernel_rfl⟩
theorem fun_spec_l91Good : Try.prog.funcs[F_spec_l91Good]? = some Try.f121 := Try.func121
theorem tmps_spec_l91Good : Try.f121.ntmps = 94 := Try.ntmps121
theorem ress_spec_l91Good : Try.f121.results = #[.cell 8 32] := Try.results121
abbrev F_spec_l2Text : FuncId := 122
instance can_spec_l2Text : Callable Try.prog 122 := ⟨_, Try.func122, by kernel_rfl, by kernel_rfl⟩
theorem fun_spec_l2Text : Try.prog.funcs[F_spec_l2Text]? = some Try.f122 := Try.func122
theorem tmps_spec_l2Text : Try.f122.ntmps = 58 := Try.ntmps122
theorem ress_spec_l2Text : Try.f122.results = #[.tmp 2] := Try.results122
abbrev F_cmp_isNaN_int : FuncId := 123
instance can_cmp_isNaN_int : Callable Try.prog 123 := ⟨_, Try.func123, by kernel_rfl, by kernel_rfl⟩
theorem fun_cmp_isNaN_int : Try.prog.funcs[F_cmp_isNaN_int]? = some Try.f123 := Try.func123
theorem tmps_cmp_isNaN_int : Try.f123.ntmps = 6 := Try.ntmps123
theorem ress_cmp_isNaN_int : Try.f123.results = #[.tmp 2] := Try.results123
abbrev F_slices_insertionSortCmpFunc_impl_Move : FuncId := 124
instance can_slices_insertionSortCmpFunc_impl_Move : Callable Try.prog 124 := ⟨_, Try.func124, by kernel_rfl, by kernel_rfl⟩
theorem fun_slices_insertionSortCmpFunc_impl_Move : Try.prog.funcs[F_slices_insertionSortCmpFunc_impl_Move]? = some Try.f124 := Try.func124
theorem tmps_slices_insertionSortCmpFunc_impl_Move : Try.f124.ntmps = 53 := Try.ntmps124
theorem ress_slices_insertionSortCmpFunc_impl_Move : Try.f124.results = #[] := Try.results124
abbrev F_slices_heapSortCmpFunc_impl_Move : FuncId := 125
instance can_slices_heapSortCmpFunc_impl_Move : Callable Try.prog 125 := ⟨_, Try.func125, by kernel_rfl, by kernel_rfl⟩
theorem fun_slices_heapSortCmpFunc_impl_Move : Try.prog.funcs[F_slices_heapSortCmpFunc_impl_Move]? = some Try.f125 := Try.func125
theorem tmps_slices_heapSortCmpFunc_impl_Move : Try.f125.ntmps = 60 := Try.ntmps125
theorem ress_slices_heapSortCmpFunc_impl_Move : Try.f125.results = #[] := Try.results125
abbrev F_slices_breakPatternsCmpFunc_impl_Move : FuncId := 126
instance can_slices_breakPatternsCmpFunc_impl_Move : Callable Try.prog 126 := ⟨_, Try.func126, by kernel_rfl, by kernel_rfl⟩
theorem fun_slices_breakPatternsCmpFunc_impl_Move : Try.prog.funcs[F_slices_breakPatternsCmpFunc_impl_Move]? = some Try.f126 := Try.func126
theorem tmps_slices_breakPatternsCmpFunc_impl_Move : Try.f126.ntmps = 67 := Try.ntmps126
theorem ress_slices_breakPatternsCmpFunc_impl_Move : Try.f126.results = #[] := Try.results126
abbrev F_slices_choosePivotCmpFunc_impl_Move : FuncId := 127
instance can_slices_choosePivotCmpFunc_impl_Move : Callable Try.prog 127 := ⟨_, Try.func127, by kernel_rfl, by kernel_rfl⟩
theorem fun_slices_choosePivotCmpFunc_impl_Move : Try.prog.funcs[F_slices_choosePivotCmpFunc_impl_Move]? = some Try.f127 := Try.func127
theorem tmps_slices_choosePivotCmpFunc_impl_Move : Try.f127.ntmps = 63 := Try.ntmps127
theorem ress_slices_choosePivotCmpFunc_impl_Move : Try.f127.results = #[.tmp 8, .tmp 9] := Try.results127
abbrev F_slices_reverseRangeCmpFunc_impl_Move : FuncId := 128
instance can_slices_reverseRangeCmpFunc_impl_Move : Callable Try.prog 128 := ⟨_, Try.func128, by kernel_rfl, by kernel_rfl⟩
theorem fun_slices_reverseRangeCmpFunc_impl_Move : Try.prog.funcs[F_slices_reverseRangeCmpFunc_impl_Move]? = some Try.f128 := Try.func128
theorem tmps_slices_reverseRangeCmpFunc_impl_Move : Try.f128.ntmps = 34 := Try.ntmps128
theorem ress_slices_reverseRangeCmpFunc_impl_Move : Try.f128.results = #[] := Try.results128
abbrev F_slices_partialInsertionSortCmpFunc_impl_Move : FuncId := 129
instance can_slices_partialInsertionSortCmpFunc_impl_Move : Callable Try.prog 129 := ⟨_, Try.func129, by kernel_rfl, by kernel_rfl⟩
theorem fun_slices_partialInsertionSortCmpFunc_impl_Move : Try.prog.funcs[F_slices_partialInsertionSortCmpFunc_impl_Move]? = some Try.f129 := Try.func129
theorem tmps_slices_partialInsertionSortCmpFunc_impl_Move : Try.f129.ntmps = 141 := Try.ntmps129
theorem ress_slices_partialInsertionSortCmpFunc_impl_Move : Try.f129.results = #[.tmp 8] := Try.results129
abbrev F_slices_partitionEqualCmpFunc_impl_Move : FuncId := 130
instance can_slices_partitionEqualCmpFunc_impl_Move : Callable Try.prog 130 := ⟨_, Try.func130, by kernel_rfl, by kernel_rfl⟩
theorem fun_slices_partitionEqualCmpFunc_impl_Move : Try.prog.funcs[F_slices_partitionEqualCmpFunc_impl_Move]? = some Try.f130 := Try.func130
theorem tmps_slices_partitionEqualCmpFunc_impl_Move : Try.f130.ntmps = 90 := Try.ntmps130
theorem ress_slices_partitionEqualCmpFunc_impl_Move : Try.f130.results = #[.tmp 10] := Try.results130
abbrev F_slices_partitionCmpFunc_impl_Move : FuncId := 131
instance can_slices_partitionCmpFunc_impl_Move : Callable Try.prog 131 := ⟨_, Try.func131, by kernel_rfl, by kernel_rfl⟩
theorem fun_slices_partitionCmpFunc_impl_Move : Try.prog.funcs[F_slices_partitionCmpFunc_impl_Move]? = some Try.f131 := Try.func131
theorem tmps_slices_partitionCmpFunc_impl_Move : Try.f131.ntmps = 178 := Try.ntmps131
theorem ress_slices_partitionCmpFunc_impl_Move : Try.f131.results = #[.tmp 10, .tmp 11] := Try.results131
abbrev F_bits_Len32 : FuncId := 132
instance can_bits_Len32 : Callable Try.prog 132 := ⟨_, Try.func132, by kernel_rfl, by kernel_rfl⟩
theorem fun_bits_Len32 : Try.prog.funcs[F_bits_Len32]? = some Try.f132 := Try.func132
theorem tmps_bits_Len32 : Try.f132.ntmps = 19 := Try.ntmps132
theorem ress_bits_Len32 : Try.f132.results = #[.tmp 2] := Try.results132
abbrev F_bits_Len64 : FuncId := 133
instance can_bits_Len64 : Callable Try.prog 133 := ⟨_, Try.func133, by kernel_rfl, by kernel_rfl⟩
theorem fun_bits_Len64 : Try.prog.funcs[F_bits_Len64]? = some Try.f133 := Try.func133
theorem tmps_bits_Len64 : Try.f133.ntmps = 25 := Try.ntmps133
theorem ress_bits_Len64 : Try.f133.results = #[.tmp 2] := Try.results133
abbrev F_spec_l4Covers : FuncId := 134
instance can_spec_l4Covers : Callable Try.prog 134 := ⟨_, Try.func134, by kernel_rfl, by kernel_rfl⟩
theorem fun_spec_l4Covers : Try.prog.funcs[F_spec_l4Covers]? = some Try.f134 := Try.func134
theorem tmps_spec_l4Covers : Try.f134.ntmps = 41 := Try.ntmps134
theorem ress_spec_l4Covers : Try.f134.results = #[.tmp 8] := Try.results134
abbrev F_slices_Equal_impl_Move_impl_Move : FuncId := 135
instance can_slices_Equal_impl_Move_impl_Move : Callable Try.prog 135 := ⟨_, Try.func135, by kernel_rfl, by kernel_rfl⟩
theorem fun_slices_Equal_impl_Move_impl_Move : Try.prog.funcs[F_slices_Equal_impl_Move_impl_Move]? = some Try.f135 := Try.func135
theorem tmps_slices_Equal_impl_Move_impl_Move : Try.f135.ntmps = 26 := Try.ntmps135
theorem ress_slices_Equal_impl_Move_impl_Move : Try.f135.results = #[.tmp 4] := Try.results135
abbrev F_spec_l6Dec : FuncId := 136
instance can_spec_l6Dec : Callable Try.prog 136 := ⟨_, Try.func136, by kernel_rfl, by kernel_rfl⟩
theorem fun_spec_l6Dec : Try.prog.funcs[F_spec_l6Dec]? = some Try.f136 := Try.func136
theorem tmps_spec_l6Dec : Try.f136.ntmps = 28 := Try.ntmps136
theorem ress_spec_l6Dec : Try.f136.results = #[.tmp 2] := Try.results136
abbrev F_spec_l2Words : FuncId := 137
instance can_spec_l2Words : Callable Try.prog 137 := ⟨_, Try.func137, by kernel_rfl, by kernel_rfl⟩
theorem fun_spec_l2Words : Try.prog.funcs[F_spec_l2Words]? = some Try.f137 := Try.func137
theorem tmps_spec_l2Words : Try.f137.ntmps = 2 := Try.ntmps137
theorem ress_spec_l2Words : Try.f137.results = #[.tmp 0] := Try.results137
abbrev F_spec_l1Text : FuncId := 138
instance can_spec_l1Text : Callable Try.prog 138 := ⟨_, Try.func138, by kernel_rfl, by kernel_rfl⟩
theorem fun_spec_l1Text : Try.prog.funcs[F_spec_l1Text]? = some Try.f138 := Try.func138
theorem tmps_spec_l1Text : Try.f138.ntmps = 22 := Try.ntmps138
theorem ress_spec_l1Text : Try.f138.results = #[.tmp 2] := Try.results138
abbrev F_slices_siftDownCmpFunc_impl_Move : FuncId := 139
instance can_slices_siftDownCmpFunc_impl_Move : Callable Try.prog 139 := ⟨_, Try.func139, by kernel_rfl, by kernel_rfl⟩
theorem fun_slices_siftDownCmpFunc_impl_Move : Try.prog.funcs[F_slices_siftDownCmpFunc_impl_Move]? = some Try.f139 := Try.func139
theorem tmps_slices_siftDownCmpFunc_impl_Move : Try.f139.ntmps = 82 := Try.ntmps139
theorem ress_slices_siftDownCmpFunc_impl_Move : Try.f139.results = #[] := Try.results139
abbrev F_slices_nextPowerOfTwo : FuncId := 140
instance can_slices_nextPowerOfTwo : Callable Try.prog 140 := ⟨_, Try.func140, by kernel_rfl, by kernel_rfl⟩
theorem fun_slices_nextPowerOfTwo : Try.prog.funcs[F_slices_nextPowerOfTwo]? = some Try.f140 := Try.func140
theorem tmps_slices_nextPowerOfTwo : Try.f140.ntmps = 7 := Try.ntmps140
theorem ress_slices_nextPowerOfTwo : Try.f140.results = #[.tmp 2] := Try.results140
abbrev F_slices_xorshift_Next : FuncId := 141
instance can_slices_xorshift_Next : Callable Try.prog 141 := ⟨_, Try.func141, by kernel_rfl, by kernel_rfl⟩
theorem fun_slices_xorshift_Next : Try.prog.funcs[F_slices_xorshift_Next]? = some Try.f141 := Try.func141
theorem tmps_slices_xorshift_Next : Try.f141.ntmps = 33 := Try.ntmps141
theorem ress_slices_xorshift_Next : Try.f141.results = #[.tmp 2] := Try.results141
abbrev F_slices_medianAdjacentCmpFunc_impl_Move : FuncId := 142
instance can_slices_medianAdjacentCmpFunc_impl_Move : Callable Try.prog 142 := ⟨_, Try.func142, by kernel_rfl, by kernel_rfl⟩
theorem fun_slices_medianAdjacentCmpFunc_impl_Move : Try.prog.funcs[F_slices_medianAdjacentCmpFunc_impl_Move]? = some Try.f142 := Try.func142
theorem tmps_slices_medianAdjacentCmpFunc_impl_Move : Try.f142.ntmps = 18 := Try.ntmps142
theorem ress_slices_medianAdjacentCmpFunc_impl_Move : Try.f142.results = #[.tmp 8] := Try.results142
abbrev F_slices_medianCmpFunc_impl_Move : FuncId := 143
instance can_slices_medianCmpFunc_impl_Move : Callable Try.prog 143 := ⟨_, Try.func143, by kernel_rfl, by kernel_rfl⟩
theorem fun_slices_medianCmpFunc_impl_Move : Try.prog.funcs[F_slices_medianCmpFunc_impl_Move]? = some Try.f143 := Try.func143
theorem tmps_slices_medianCmpFunc_impl_Move : Try.f143.ntmps = 41 := Try.ntmps143
theorem ress_slices_medianCmpFunc_impl_Move : Try.f143.results = #[.tmp 12] := Try.results143
abbrev F_spec_l4Has : FuncId := 144
instance can_spec_l4Has : Callable Try.prog 144 := ⟨_, Try.func144, by kernel_rfl, by kernel_rfl⟩
theorem fun_spec_l4Has : Try.prog.funcs[F_spec_l4Has]? = some Try.f144 := Try.func144
theorem tmps_spec_l4Has : Try.f144.ntmps = 44 := Try.ntmps144
theorem ress_spec_l4Has : Try.f144.results = #[.tmp 10] := Try.results144
abbrev F_slices_order2CmpFunc_impl_Move : FuncId := 145
instance can_slices_order2CmpFunc_impl_Move : Callable Try.prog 145 := ⟨_, Try.func145, by kernel_rfl, by kernel_rfl⟩
theorem fun_slices_order2CmpFunc_impl_Move : Try.prog.funcs[F_slices_order2CmpFunc_impl_Move]? = some Try.f145 := Try.func145
theorem tmps_slices_order2CmpFunc_impl_Move : Try.f145.ntmps = 32 := Try.ntmps145
theorem ress_slices_order2CmpFunc_impl_Move : Try.f145.results = #[.tmp 10, .tmp 11] := Try.results145
theorem mixed_ : Try.prog.follows .mixedOrders = true := by kernel_rfl
end Go.Proofs.Ytpkgcdpebomalaa.Asl
