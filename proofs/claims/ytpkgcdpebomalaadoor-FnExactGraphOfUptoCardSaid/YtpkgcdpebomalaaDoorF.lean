/- Facts on the translation's types and functions, by name. Written by a program of this session. -/
import Derived.Test.YtpkgcdpebomalaaDoorProg
import Derived.Test.YtpkgcdpebomalaaDoorB6
namespace Go.Proofs.YtpkgcdpebomalaaDoor.Asl
open Go.RowKit
set_option linter.unusedVariables false
abbrev T_func1 : TypeId := 1
instance ty_func1 : Ty Tryd.prog 1 false 1 8 (.nilFunc) := ⟨by kernel_rfl, by kernel_rfl⟩
abbrev T_int64 : TypeId := 2
instance ty_int64 : Ty Tryd.prog 2 false 1 8 (.int .i64 0) := ⟨by kernel_rfl, by kernel_rfl⟩
instance un_int64 : Un Tryd.prog 2 (.int .i64) := ⟨by kernel_rfl⟩
abbrev T_int : TypeId := 3
instance ty_int : Ty Tryd.prog 3 false 1 8 (.int .i64 0) := ⟨by kernel_rfl, by kernel_rfl⟩
instance un_int : Un Tryd.prog 3 (.int .i64) := ⟨by kernel_rfl⟩
abbrev T_bool : TypeId := 4
instance ty_bool : Ty Tryd.prog 4 false 1 1 (.bool false) := ⟨by kernel_rfl, by kernel_rfl⟩
instance un_bool : Un Tryd.prog 4 (.bool) := ⟨by kernel_rfl⟩
abbrev T_uint8 : TypeId := 5
instance ty_uint8 : Ty Tryd.prog 5 false 1 1 (.int .u8 0) := ⟨by kernel_rfl, by kernel_rfl⟩
instance un_uint8 : Un Tryd.prog 5 (.int .u8) := ⟨by kernel_rfl⟩
abbrev T_string : TypeId := 9
instance ty_string : Ty Tryd.prog 9 false 1 16 (.string ⟨#[]⟩) := ⟨by kernel_rfl, by kernel_rfl⟩
instance un_string : Un Tryd.prog 9 (.string) := ⟨by kernel_rfl⟩
abbrev T_int32 : TypeId := 21
instance ty_int32 : Ty Tryd.prog 21 false 1 4 (.int .i32 0) := ⟨by kernel_rfl, by kernel_rfl⟩
instance un_int32 : Un Tryd.prog 21 (.int .i32) := ⟨by kernel_rfl⟩
abbrev T_s_laws_Term : TypeId := 22
instance ty_s_laws_Term : Ty Tryd.prog 22 false 1 24 (.slice none 0 0) := ⟨by kernel_rfl, by kernel_rfl⟩
instance un_s_laws_Term : Un Tryd.prog 22 (.slice 24) := ⟨by kernel_rfl⟩
abbrev T_laws_Term : TypeId := 24
instance ty_laws_Term : Ty Tryd.prog 24 true 3 40 (.agg #[(.int .i64 0), (.int .i64 0), (.slice none 0 0)]) := ⟨by kernel_rfl, by kernel_rfl⟩
abbrev T_func25 : TypeId := 25
instance ty_func25 : Ty Tryd.prog 25 false 1 8 (.nilFunc) := ⟨by kernel_rfl, by kernel_rfl⟩
abbrev T_func26 : TypeId := 26
instance ty_func26 : Ty Tryd.prog 26 false 1 8 (.nilFunc) := ⟨by kernel_rfl, by kernel_rfl⟩
abbrev T_s_impl_Term : TypeId := 27
instance ty_s_impl_Term : Ty Tryd.prog 27 false 1 24 (.slice none 0 0) := ⟨by kernel_rfl, by kernel_rfl⟩
instance un_s_impl_Term : Un Tryd.prog 27 (.slice 29) := ⟨by kernel_rfl⟩
abbrev T_impl_Term : TypeId := 29
instance ty_impl_Term : Ty Tryd.prog 29 true 3 40 (.agg #[(.int .i64 0), (.int .i64 0), (.slice none 0 0)]) := ⟨by kernel_rfl, by kernel_rfl⟩
abbrev T_func30 : TypeId := 30
instance ty_func30 : Ty Tryd.prog 30 false 1 8 (.nilFunc) := ⟨by kernel_rfl, by kernel_rfl⟩
abbrev T_func31 : TypeId := 31
instance ty_func31 : Ty Tryd.prog 31 false 1 8 (.nilFunc) := ⟨by kernel_rfl, by kernel_rfl⟩
abbrev T_func32 : TypeId := 32
instance ty_func32 : Ty Tryd.prog 32 false 1 8 (.nilFunc) := ⟨by kernel_rfl, by kernel_rfl⟩
abbrev T_s_uint8 : TypeId := 33
instance ty_s_uint8 : Ty Tryd.prog 33 false 1 24 (.slice none 0 0) := ⟨by kernel_rfl, by kernel_rfl⟩
instance un_s_uint8 : Un Tryd.prog 33 (.slice 5) := ⟨by kernel_rfl⟩
abbrev T_func34 : TypeId := 34
instance ty_func34 : Ty Tryd.prog 34 false 1 8 (.nilFunc) := ⟨by kernel_rfl, by kernel_rfl⟩
abbrev T_func35 : TypeId := 35
instance ty_func35 : Ty Tryd.prog 35 false 1 8 (.nilFunc) := ⟨by kernel_rfl, by kernel_rfl⟩
abbrev T_func36 : TypeId := 36
instance ty_func36 : Ty Tryd.prog 36 false 1 8 (.nilFunc) := ⟨by kernel_rfl, by kernel_rfl⟩
abbrev T_func37 : TypeId := 37
instance ty_func37 : Ty Tryd.prog 37 false 1 8 (.nilFunc) := ⟨by kernel_rfl, by kernel_rfl⟩
abbrev T_func38 : TypeId := 38
instance ty_func38 : Ty Tryd.prog 38 false 1 8 (.nilFunc) := ⟨by kernel_rfl, by kernel_rfl⟩
abbrev T_s_s_impl_Move : TypeId := 39
instance ty_s_s_impl_Move : Ty Tryd.prog 39 false 1 24 (.slice none 0 0) := ⟨by kernel_rfl, by kernel_rfl⟩
instance un_s_s_impl_Move : Un Tryd.prog 39 (.slice 90) := ⟨by kernel_rfl⟩
abbrev T_impl_Graph : TypeId := 41
instance ty_impl_Graph : Ty Tryd.prog 41 true 1 24 (.agg #[(.slice none 0 0)]) := ⟨by kernel_rfl, by kernel_rfl⟩
abbrev T_func43 : TypeId := 43
instance ty_func43 : Ty Tryd.prog 43 false 1 8 (.nilFunc) := ⟨by kernel_rfl, by kernel_rfl⟩
abbrev T_func44 : TypeId := 44
instance ty_func44 : Ty Tryd.prog 44 false 1 8 (.nilFunc) := ⟨by kernel_rfl, by kernel_rfl⟩
abbrev T_func45 : TypeId := 45
instance ty_func45 : Ty Tryd.prog 45 false 1 8 (.nilFunc) := ⟨by kernel_rfl, by kernel_rfl⟩
abbrev T_func46 : TypeId := 46
instance ty_func46 : Ty Tryd.prog 46 false 1 8 (.nilFunc) := ⟨by kernel_rfl, by kernel_rfl⟩
abbrev T_func47 : TypeId := 47
instance ty_func47 : Ty Tryd.prog 47 false 1 8 (.nilFunc) := ⟨by kernel_rfl, by kernel_rfl⟩
abbrev T_func48 : TypeId := 48
instance ty_func48 : Ty Tryd.prog 48 false 1 8 (.nilFunc) := ⟨by kernel_rfl, by kernel_rfl⟩
abbrev T_func49 : TypeId := 49
instance ty_func49 : Ty Tryd.prog 49 false 1 8 (.nilFunc) := ⟨by kernel_rfl, by kernel_rfl⟩
abbrev T_func50 : TypeId := 50
instance ty_func50 : Ty Tryd.prog 50 false 1 8 (.nilFunc) := ⟨by kernel_rfl, by kernel_rfl⟩
abbrev T_func52 : TypeId := 52
instance ty_func52 : Ty Tryd.prog 52 false 1 8 (.nilFunc) := ⟨by kernel_rfl, by kernel_rfl⟩
abbrev T_func53 : TypeId := 53
instance ty_func53 : Ty Tryd.prog 53 false 1 8 (.nilFunc) := ⟨by kernel_rfl, by kernel_rfl⟩
abbrev T_func54 : TypeId := 54
instance ty_func54 : Ty Tryd.prog 54 false 1 8 (.nilFunc) := ⟨by kernel_rfl, by kernel_rfl⟩
abbrev T_p_spec_l6Rd : TypeId := 55
instance ty_p_spec_l6Rd : Ty Tryd.prog 55 false 1 8 (.pointer none) := ⟨by kernel_rfl, by kernel_rfl⟩
instance un_p_spec_l6Rd : Un Tryd.prog 55 (.pointer 85) := ⟨by kernel_rfl⟩
abbrev T_func56 : TypeId := 56
instance ty_func56 : Ty Tryd.prog 56 false 1 8 (.nilFunc) := ⟨by kernel_rfl, by kernel_rfl⟩
abbrev T_func58 : TypeId := 58
instance ty_func58 : Ty Tryd.prog 58 false 1 8 (.nilFunc) := ⟨by kernel_rfl, by kernel_rfl⟩
abbrev T_func59 : TypeId := 59
instance ty_func59 : Ty Tryd.prog 59 false 1 8 (.nilFunc) := ⟨by kernel_rfl, by kernel_rfl⟩
abbrev T_func60 : TypeId := 60
instance ty_func60 : Ty Tryd.prog 60 false 1 8 (.nilFunc) := ⟨by kernel_rfl, by kernel_rfl⟩
abbrev T_func61 : TypeId := 61
instance ty_func61 : Ty Tryd.prog 61 false 1 8 (.nilFunc) := ⟨by kernel_rfl, by kernel_rfl⟩
abbrev T_func62 : TypeId := 62
instance ty_func62 : Ty Tryd.prog 62 false 1 8 (.nilFunc) := ⟨by kernel_rfl, by kernel_rfl⟩
abbrev T_s_int : TypeId := 63
instance ty_s_int : Ty Tryd.prog 63 false 1 24 (.slice none 0 0) := ⟨by kernel_rfl, by kernel_rfl⟩
instance un_s_int : Un Tryd.prog 63 (.slice 3) := ⟨by kernel_rfl⟩
abbrev T_s_impl_Step : TypeId := 64
instance ty_s_impl_Step : Ty Tryd.prog 64 false 1 24 (.slice none 0 0) := ⟨by kernel_rfl, by kernel_rfl⟩
instance un_s_impl_Step : Un Tryd.prog 64 (.slice 67) := ⟨by kernel_rfl⟩
abbrev T_func65 : TypeId := 65
instance ty_func65 : Ty Tryd.prog 65 false 1 8 (.nilFunc) := ⟨by kernel_rfl, by kernel_rfl⟩
abbrev T_impl_Step : TypeId := 67
instance ty_impl_Step : Ty Tryd.prog 67 true 4 48 (.agg #[(.int .i64 0), (.int .i64 0), (.int .i64 0), (.slice none 0 0)]) := ⟨by kernel_rfl, by kernel_rfl⟩
abbrev T_func68 : TypeId := 68
instance ty_func68 : Ty Tryd.prog 68 false 1 8 (.nilFunc) := ⟨by kernel_rfl, by kernel_rfl⟩
abbrev T_func69 : TypeId := 69
instance ty_func69 : Ty Tryd.prog 69 false 1 8 (.nilFunc) := ⟨by kernel_rfl, by kernel_rfl⟩
abbrev T_func70 : TypeId := 70
instance ty_func70 : Ty Tryd.prog 70 false 1 8 (.nilFunc) := ⟨by kernel_rfl, by kernel_rfl⟩
abbrev T_func71 : TypeId := 71
instance ty_func71 : Ty Tryd.prog 71 false 1 8 (.nilFunc) := ⟨by kernel_rfl, by kernel_rfl⟩
abbrev T_func72 : TypeId := 72
instance ty_func72 : Ty Tryd.prog 72 false 1 8 (.nilFunc) := ⟨by kernel_rfl, by kernel_rfl⟩
abbrev T_p_impl_scan : TypeId := 73
instance ty_p_impl_scan : Ty Tryd.prog 73 false 1 8 (.pointer none) := ⟨by kernel_rfl, by kernel_rfl⟩
instance un_p_impl_scan : Un Tryd.prog 73 (.pointer 75) := ⟨by kernel_rfl⟩
abbrev T_impl_scan : TypeId := 75
instance ty_impl_scan : Ty Tryd.prog 75 true 3 32 (.agg #[(.string ⟨#[]⟩), (.int .i64 0), (.bool false)]) := ⟨by kernel_rfl, by kernel_rfl⟩
abbrev T_func76 : TypeId := 76
instance ty_func76 : Ty Tryd.prog 76 false 1 8 (.nilFunc) := ⟨by kernel_rfl, by kernel_rfl⟩
abbrev T_func78 : TypeId := 78
instance ty_func78 : Ty Tryd.prog 78 false 1 8 (.nilFunc) := ⟨by kernel_rfl, by kernel_rfl⟩
abbrev T_func79 : TypeId := 79
instance ty_func79 : Ty Tryd.prog 79 false 1 8 (.nilFunc) := ⟨by kernel_rfl, by kernel_rfl⟩
abbrev T_func80 : TypeId := 80
instance ty_func80 : Ty Tryd.prog 80 false 1 8 (.nilFunc) := ⟨by kernel_rfl, by kernel_rfl⟩
abbrev T_func81 : TypeId := 81
instance ty_func81 : Ty Tryd.prog 81 false 1 8 (.nilFunc) := ⟨by kernel_rfl, by kernel_rfl⟩
abbrev T_s_string : TypeId := 82
instance ty_s_string : Ty Tryd.prog 82 false 1 24 (.slice none 0 0) := ⟨by kernel_rfl, by kernel_rfl⟩
instance un_s_string : Un Tryd.prog 82 (.slice 9) := ⟨by kernel_rfl⟩
abbrev T_func83 : TypeId := 83
instance ty_func83 : Ty Tryd.prog 83 false 1 8 (.nilFunc) := ⟨by kernel_rfl, by kernel_rfl⟩
abbrev T_spec_l6Rd : TypeId := 85
instance ty_spec_l6Rd : Ty Tryd.prog 85 true 2 32 (.agg #[(.slice none 0 0), (.int .i64 0)]) := ⟨by kernel_rfl, by kernel_rfl⟩
abbrev T_func86 : TypeId := 86
instance ty_func86 : Ty Tryd.prog 86 false 1 8 (.nilFunc) := ⟨by kernel_rfl, by kernel_rfl⟩
abbrev T_func87 : TypeId := 87
instance ty_func87 : Ty Tryd.prog 87 false 1 8 (.nilFunc) := ⟨by kernel_rfl, by kernel_rfl⟩
abbrev T_func88 : TypeId := 88
instance ty_func88 : Ty Tryd.prog 88 false 1 8 (.nilFunc) := ⟨by kernel_rfl, by kernel_rfl⟩
abbrev T_func89 : TypeId := 89
instance ty_func89 : Ty Tryd.prog 89 false 1 8 (.nilFunc) := ⟨by kernel_rfl, by kernel_rfl⟩
abbrev T_s_impl_Move : TypeId := 90
instance ty_s_impl_Move : Ty Tryd.prog 90 false 1 24 (.slice none 0 0) := ⟨by kernel_rfl, by kernel_rfl⟩
instance un_s_impl_Move : Un Tryd.prog 90 (.slice 92) := ⟨by kernel_rfl⟩
abbrev T_impl_Move : TypeId := 92
instance ty_impl_Move : Ty Tryd.prog 92 true 2 16 (.agg #[(.int .i64 0), (.int .i64 0)]) := ⟨by kernel_rfl, by kernel_rfl⟩
abbrev T_func93 : TypeId := 93
instance ty_func93 : Ty Tryd.prog 93 false 1 8 (.nilFunc) := ⟨by kernel_rfl, by kernel_rfl⟩
abbrev T_m_string_int : TypeId := 94
instance ty_m_string_int : Ty Tryd.prog 94 false 1 8 (.map none) := ⟨by kernel_rfl, by kernel_rfl⟩
instance un_m_string_int : Un Tryd.prog 94 (.map 9 3) := ⟨by kernel_rfl⟩
abbrev T_func97 : TypeId := 97
instance ty_func97 : Ty Tryd.prog 97 false 1 8 (.nilFunc) := ⟨by kernel_rfl, by kernel_rfl⟩
abbrev T_func98 : TypeId := 98
instance ty_func98 : Ty Tryd.prog 98 false 1 8 (.nilFunc) := ⟨by kernel_rfl, by kernel_rfl⟩
abbrev T_func99 : TypeId := 99
instance ty_func99 : Ty Tryd.prog 99 false 1 8 (.nilFunc) := ⟨by kernel_rfl, by kernel_rfl⟩
abbrev T_func100 : TypeId := 100
instance ty_func100 : Ty Tryd.prog 100 false 1 8 (.nilFunc) := ⟨by kernel_rfl, by kernel_rfl⟩
abbrev T_func101 : TypeId := 101
instance ty_func101 : Ty Tryd.prog 101 false 1 8 (.nilFunc) := ⟨by kernel_rfl, by kernel_rfl⟩
abbrev T_func102 : TypeId := 102
instance ty_func102 : Ty Tryd.prog 102 false 1 8 (.nilFunc) := ⟨by kernel_rfl, by kernel_rfl⟩
abbrev T_func103 : TypeId := 103
instance ty_func103 : Ty Tryd.prog 103 false 1 8 (.nilFunc) := ⟨by kernel_rfl, by kernel_rfl⟩
abbrev T_func104 : TypeId := 104
instance ty_func104 : Ty Tryd.prog 104 false 1 8 (.nilFunc) := ⟨by kernel_rfl, by kernel_rfl⟩
abbrev T_func106 : TypeId := 106
instance ty_func106 : Ty Tryd.prog 106 false 1 8 (.nilFunc) := ⟨by kernel_rfl, by kernel_rfl⟩
abbrev T_func107 : TypeId := 107
instance ty_func107 : Ty Tryd.prog 107 false 1 8 (.nilFunc) := ⟨by kernel_rfl, by kernel_rfl⟩
abbrev T_func108 : TypeId := 108
instance ty_func108 : Ty Tryd.prog 108 false 1 8 (.nilFunc) := ⟨by kernel_rfl, by kernel_rfl⟩
abbrev T_func109 : TypeId := 109
instance ty_func109 : Ty Tryd.prog 109 false 1 8 (.nilFunc) := ⟨by kernel_rfl, by kernel_rfl⟩
abbrev T_func110 : TypeId := 110
instance ty_func110 : Ty Tryd.prog 110 false 1 8 (.nilFunc) := ⟨by kernel_rfl, by kernel_rfl⟩
abbrev T_func111 : TypeId := 111
instance ty_func111 : Ty Tryd.prog 111 false 1 8 (.nilFunc) := ⟨by kernel_rfl, by kernel_rfl⟩
abbrev T_func112 : TypeId := 112
instance ty_func112 : Ty Tryd.prog 112 false 1 8 (.nilFunc) := ⟨by kernel_rfl, by kernel_rfl⟩
abbrev T_func113 : TypeId := 113
instance ty_func113 : Ty Tryd.prog 113 false 1 8 (.nilFunc) := ⟨by kernel_rfl, by kernel_rfl⟩
abbrev T_func114 : TypeId := 114
instance ty_func114 : Ty Tryd.prog 114 false 1 8 (.nilFunc) := ⟨by kernel_rfl, by kernel_rfl⟩
abbrev T_func116 : TypeId := 116
instance ty_func116 : Ty Tryd.prog 116 false 1 8 (.nilFunc) := ⟨by kernel_rfl, by kernel_rfl⟩
abbrev T_func117 : TypeId := 117
instance ty_func117 : Ty Tryd.prog 117 false 1 8 (.nilFunc) := ⟨by kernel_rfl, by kernel_rfl⟩
abbrev T_func118 : TypeId := 118
instance ty_func118 : Ty Tryd.prog 118 false 1 8 (.nilFunc) := ⟨by kernel_rfl, by kernel_rfl⟩
abbrev T_func119 : TypeId := 119
instance ty_func119 : Ty Tryd.prog 119 false 1 8 (.nilFunc) := ⟨by kernel_rfl, by kernel_rfl⟩
abbrev T_func120 : TypeId := 120
instance ty_func120 : Ty Tryd.prog 120 false 1 8 (.nilFunc) := ⟨by kernel_rfl, by kernel_rfl⟩
abbrev T_func121 : TypeId := 121
instance ty_func121 : Ty Tryd.prog 121 false 1 8 (.nilFunc) := ⟨by kernel_rfl, by kernel_rfl⟩
abbrev T_uint : TypeId := 122
instance ty_uint : Ty Tryd.prog 122 false 1 8 (.int .u64 0) := ⟨by kernel_rfl, by kernel_rfl⟩
instance un_uint : Un Tryd.prog 122 (.int .u64) := ⟨by kernel_rfl⟩
abbrev T_func123 : TypeId := 123
instance ty_func123 : Ty Tryd.prog 123 false 1 8 (.nilFunc) := ⟨by kernel_rfl, by kernel_rfl⟩
abbrev T_func124 : TypeId := 124
instance ty_func124 : Ty Tryd.prog 124 false 1 8 (.nilFunc) := ⟨by kernel_rfl, by kernel_rfl⟩
abbrev T_a256_bool : TypeId := 125
instance ty_a256_bool : Ty Tryd.prog 125 true 256 256 (.agg #[(.bool false), (.bool false), (.bool false), (.bool false), (.bool false), (.bool false), (.bool false), (.bool false), (.bool false), (.bool false), (.bool false), (.bool false), (.bool false), (.bool false), (.bool false), (.bool false), (.bool false), (.bool false), (.bool false), (.bool false), (.bool false), (.bool false), (.bool false), (.bool false), (.bool false), (.bool false), (.bool false), (.bool false), (.bool false), (.bool false), (.bool false), (.bool false), (.bool false), (.bool false), (.bool false), (.bool false), (.bool false), (.bool false), (.bool false), (.bool false), (.bool false), (.bool false), (.bool false), (.bool false), (.bool false), (.bool false), (.bool false), (.bool false), (.bool false), (.bool false), (.bool false), (.bool false), (.bool false), (.bool false), (.bool false), (.bool false), (.bool false), (.bool false), (.bool false), (.bool false), (.bool false), (.bool false), (.bool false), (.bool false), (.bool false), (.bool false), (.bool false), (.bool false), (.bool false), (.bool false), (.bool false), (.bool false), (.bool false), (.bool false), (.bool false), (.bool false), (.bool false), (.bool false), (.bool false), (.bool false), (.bool false), (.bool false), (.bool false), (.bool false), (.bool false), (.bool false), (.bool false), (.bool false), (.bool false), (.bool false), (.bool false), (.bool false), (.bool false), (.bool false), (.bool false), (.bool false), (.bool false), (.bool false), (.bool false), (.bool false), (.bool false), (.bool false), (.bool false), (.bool false), (.bool false), (.bool false), (.bool false), (.bool false), (.bool false), (.bool false), (.bool false), (.bool false), (.bool false), (.bool false), (.bool false), (.bool false), (.bool false), (.bool false), (.bool false), (.bool false), (.bool false), (.bool false), (.bool false), (.bool false), (.bool false), (.bool false), (.bool false), (.bool false), (.bool false), (.bool false), (.bool false), (.bool false), (.bool false), (.bool false), (.bool false), (.bool false), (.bool false), (.bool false), (.bool false), (.bool false), (.bool false), (.bool false), (.bool false), (.bool false), (.bool false), (.bool false), (.bool false), (.bool false), (.bool false), (.bool false), (.bool false), (.bool false), (.bool false), (.bool false), (.bool false), (.bool false), (.bool false), (.bool false), (.bool false), (.bool false), (.bool false), (.bool false), (.bool false), (.bool false), (.bool false), (.bool false), (.bool false), (.bool false), (.bool false), (.bool false), (.bool false), (.bool false), (.bool false), (.bool false), (.bool false), (.bool false), (.bool false), (.bool false), (.bool false), (.bool false), (.bool false), (.bool false), (.bool false), (.bool false), (.bool false), (.bool false), (.bool false), (.bool false), (.bool false), (.bool false), (.bool false), (.bool false), (.bool false), (.bool false), (.bool false), (.bool false), (.bool false), (.bool false), (.bool false), (.bool false), (.bool false), (.bool false), (.bool false), (.bool false), (.bool false), (.bool false), (.bool false), (.bool false), (.bool false), (.bool false), (.bool false), (.bool false), (.bool false), (.bool false), (.bool false), (.bool false), (.bool false), (.bool false), (.bool false), (.bool false), (.bool false), (.bool false), (.bool false), (.bool false), (.bool false), (.bool false), (.bool false), (.bool false), (.bool false), (.bool false), (.bool false), (.bool false), (.bool false), (.bool false), (.bool false), (.bool false), (.bool false), (.bool false), (.bool false), (.bool false), (.bool false), (.bool false), (.bool false), (.bool false), (.bool false), (.bool false), (.bool false), (.bool false), (.bool false), (.bool false), (.bool false), (.bool false), (.bool false), (.bool false), (.bool false), (.bool false)]) := ⟨by kernel_rfl, by kernel_rfl⟩
instance un_a256_bool : Un Tryd.prog 125 (.array 256 4) := ⟨by kernel_rfl⟩
abbrev T_strings_asciiSet : TypeId := 126
instance ty_strings_asciiSet : Ty Tryd.prog 126 true 256 256 (.agg #[(.bool false), (.bool false), (.bool false), (.bool false), (.bool false), (.bool false), (.bool false), (.bool false), (.bool false), (.bool false), (.bool false), (.bool false), (.bool false), (.bool false), (.bool false), (.bool false), (.bool false), (.bool false), (.bool false), (.bool false), (.bool false), (.bool false), (.bool false), (.bool false), (.bool false), (.bool false), (.bool false), (.bool false), (.bool false), (.bool false), (.bool false), (.bool false), (.bool false), (.bool false), (.bool false), (.bool false), (.bool false), (.bool false), (.bool false), (.bool false), (.bool false), (.bool false), (.bool false), (.bool false), (.bool false), (.bool false), (.bool false), (.bool false), (.bool false), (.bool false), (.bool false), (.bool false), (.bool false), (.bool false), (.bool false), (.bool false), (.bool false), (.bool false), (.bool false), (.bool false), (.bool false), (.bool false), (.bool false), (.bool false), (.bool false), (.bool false), (.bool false), (.bool false), (.bool false), (.bool false), (.bool false), (.bool false), (.bool false), (.bool false), (.bool false), (.bool false), (.bool false), (.bool false), (.bool false), (.bool false), (.bool false), (.bool false), (.bool false), (.bool false), (.bool false), (.bool false), (.bool false), (.bool false), (.bool false), (.bool false), (.bool false), (.bool false), (.bool false), (.bool false), (.bool false), (.bool false), (.bool false), (.bool false), (.bool false), (.bool false), (.bool false), (.bool false), (.bool false), (.bool false), (.bool false), (.bool false), (.bool false), (.bool false), (.bool false), (.bool false), (.bool false), (.bool false), (.bool false), (.bool false), (.bool false), (.bool false), (.bool false), (.bool false), (.bool false), (.bool false), (.bool false), (.bool false), (.bool false), (.bool false), (.bool false), (.bool false), (.bool false), (.bool false), (.bool false), (.bool false), (.bool false), (.bool false), (.bool false), (.bool false), (.bool false), (.bool false), (.bool false), (.bool false), (.bool false), (.bool false), (.bool false), (.bool false), (.bool false), (.bool false), (.bool false), (.bool false), (.bool false), (.bool false), (.bool false), (.bool false), (.bool false), (.bool false), (.bool false), (.bool false), (.bool false), (.bool false), (.bool false), (.bool false), (.bool false), (.bool false), (.bool false), (.bool false), (.bool false), (.bool false), (.bool false), (.bool false), (.bool false), (.bool false), (.bool false), (.bool false), (.bool false), (.bool false), (.bool false), (.bool false), (.bool false), (.bool false), (.bool false), (.bool false), (.bool false), (.bool false), (.bool false), (.bool false), (.bool false), (.bool false), (.bool false), (.bool false), (.bool false), (.bool false), (.bool false), (.bool false), (.bool false), (.bool false), (.bool false), (.bool false), (.bool false), (.bool false), (.bool false), (.bool false), (.bool false), (.bool false), (.bool false), (.bool false), (.bool false), (.bool false), (.bool false), (.bool false), (.bool false), (.bool false), (.bool false), (.bool false), (.bool false), (.bool false), (.bool false), (.bool false), (.bool false), (.bool false), (.bool false), (.bool false), (.bool false), (.bool false), (.bool false), (.bool false), (.bool false), (.bool false), (.bool false), (.bool false), (.bool false), (.bool false), (.bool false), (.bool false), (.bool false), (.bool false), (.bool false), (.bool false), (.bool false), (.bool false), (.bool false), (.bool false), (.bool false), (.bool false), (.bool false), (.bool false), (.bool false), (.bool false), (.bool false), (.bool false), (.bool false), (.bool false), (.bool false), (.bool false), (.bool false), (.bool false), (.bool false), (.bool false), (.bool false), (.bool false)]) := ⟨by kernel_rfl, by kernel_rfl⟩
instance un_strings_asciiSet : Un Tryd.prog 126 (.array 256 4) := ⟨by kernel_rfl⟩
abbrev T_func128 : TypeId := 128
instance ty_func128 : Ty Tryd.prog 128 false 1 8 (.nilFunc) := ⟨by kernel_rfl, by kernel_rfl⟩
abbrev T_func129 : TypeId := 129
instance ty_func129 : Ty Tryd.prog 129 false 1 8 (.nilFunc) := ⟨by kernel_rfl, by kernel_rfl⟩
abbrev T_a24_uint8 : TypeId := 130
instance ty_a24_uint8 : Ty Tryd.prog 130 true 24 24 (.agg #[(.int .u8 0), (.int .u8 0), (.int .u8 0), (.int .u8 0), (.int .u8 0), (.int .u8 0), (.int .u8 0), (.int .u8 0), (.int .u8 0), (.int .u8 0), (.int .u8 0), (.int .u8 0), (.int .u8 0), (.int .u8 0), (.int .u8 0), (.int .u8 0), (.int .u8 0), (.int .u8 0), (.int .u8 0), (.int .u8 0), (.int .u8 0), (.int .u8 0), (.int .u8 0), (.int .u8 0)]) := ⟨by kernel_rfl, by kernel_rfl⟩
instance un_a24_uint8 : Un Tryd.prog 130 (.array 24 5) := ⟨by kernel_rfl⟩
abbrev T_uint64 : TypeId := 131
instance ty_uint64 : Ty Tryd.prog 131 false 1 8 (.int .u64 0) := ⟨by kernel_rfl, by kernel_rfl⟩
instance un_uint64 : Un Tryd.prog 131 (.int .u64) := ⟨by kernel_rfl⟩
abbrev T_func132 : TypeId := 132
instance ty_func132 : Ty Tryd.prog 132 false 1 8 (.nilFunc) := ⟨by kernel_rfl, by kernel_rfl⟩
abbrev T_func133 : TypeId := 133
instance ty_func133 : Ty Tryd.prog 133 false 1 8 (.nilFunc) := ⟨by kernel_rfl, by kernel_rfl⟩
abbrev T_func135 : TypeId := 135
instance ty_func135 : Ty Tryd.prog 135 false 1 8 (.nilFunc) := ⟨by kernel_rfl, by kernel_rfl⟩
abbrev T_func136 : TypeId := 136
instance ty_func136 : Ty Tryd.prog 136 false 1 8 (.nilFunc) := ⟨by kernel_rfl, by kernel_rfl⟩
abbrev T_slices_sortedHint : TypeId := 137
instance ty_slices_sortedHint : Ty Tryd.prog 137 false 1 8 (.int .i64 0) := ⟨by kernel_rfl, by kernel_rfl⟩
instance un_slices_sortedHint : Un Tryd.prog 137 (.int .i64) := ⟨by kernel_rfl⟩
abbrev T_func139 : TypeId := 139
instance ty_func139 : Ty Tryd.prog 139 false 1 8 (.nilFunc) := ⟨by kernel_rfl, by kernel_rfl⟩
abbrev T_func140 : TypeId := 140
instance ty_func140 : Ty Tryd.prog 140 false 1 8 (.nilFunc) := ⟨by kernel_rfl, by kernel_rfl⟩
abbrev T_func141 : TypeId := 141
instance ty_func141 : Ty Tryd.prog 141 false 1 8 (.nilFunc) := ⟨by kernel_rfl, by kernel_rfl⟩
abbrev T_func142 : TypeId := 142
instance ty_func142 : Ty Tryd.prog 142 false 1 8 (.nilFunc) := ⟨by kernel_rfl, by kernel_rfl⟩
abbrev T_func143 : TypeId := 143
instance ty_func143 : Ty Tryd.prog 143 false 1 8 (.nilFunc) := ⟨by kernel_rfl, by kernel_rfl⟩
abbrev T_uint32 : TypeId := 144
instance ty_uint32 : Ty Tryd.prog 144 false 1 4 (.int .u32 0) := ⟨by kernel_rfl, by kernel_rfl⟩
instance un_uint32 : Un Tryd.prog 144 (.int .u32) := ⟨by kernel_rfl⟩
abbrev T_func145 : TypeId := 145
instance ty_func145 : Ty Tryd.prog 145 false 1 8 (.nilFunc) := ⟨by kernel_rfl, by kernel_rfl⟩
abbrev T_func146 : TypeId := 146
instance ty_func146 : Ty Tryd.prog 146 false 1 8 (.nilFunc) := ⟨by kernel_rfl, by kernel_rfl⟩
abbrev T_func147 : TypeId := 147
instance ty_func147 : Ty Tryd.prog 147 false 1 8 (.nilFunc) := ⟨by kernel_rfl, by kernel_rfl⟩
abbrev T_p_strings_asciiSet : TypeId := 148
instance ty_p_strings_asciiSet : Ty Tryd.prog 148 false 1 8 (.pointer none) := ⟨by kernel_rfl, by kernel_rfl⟩
instance un_p_strings_asciiSet : Un Tryd.prog 148 (.pointer 126) := ⟨by kernel_rfl⟩
abbrev T_func149 : TypeId := 149
instance ty_func149 : Ty Tryd.prog 149 false 1 8 (.nilFunc) := ⟨by kernel_rfl, by kernel_rfl⟩
abbrev T_a20_uint64 : TypeId := 150
instance ty_a20_uint64 : Ty Tryd.prog 150 true 20 160 (.agg #[(.int .u64 0), (.int .u64 0), (.int .u64 0), (.int .u64 0), (.int .u64 0), (.int .u64 0), (.int .u64 0), (.int .u64 0), (.int .u64 0), (.int .u64 0), (.int .u64 0), (.int .u64 0), (.int .u64 0), (.int .u64 0), (.int .u64 0), (.int .u64 0), (.int .u64 0), (.int .u64 0), (.int .u64 0), (.int .u64 0)]) := ⟨by kernel_rfl, by kernel_rfl⟩
instance un_a20_uint64 : Un Tryd.prog 150 (.array 20 131) := ⟨by kernel_rfl⟩
abbrev T_a65_uint8 : TypeId := 151
instance ty_a65_uint8 : Ty Tryd.prog 151 true 65 65 (.agg #[(.int .u8 0), (.int .u8 0), (.int .u8 0), (.int .u8 0), (.int .u8 0), (.int .u8 0), (.int .u8 0), (.int .u8 0), (.int .u8 0), (.int .u8 0), (.int .u8 0), (.int .u8 0), (.int .u8 0), (.int .u8 0), (.int .u8 0), (.int .u8 0), (.int .u8 0), (.int .u8 0), (.int .u8 0), (.int .u8 0), (.int .u8 0), (.int .u8 0), (.int .u8 0), (.int .u8 0), (.int .u8 0), (.int .u8 0), (.int .u8 0), (.int .u8 0), (.int .u8 0), (.int .u8 0), (.int .u8 0), (.int .u8 0), (.int .u8 0), (.int .u8 0), (.int .u8 0), (.int .u8 0), (.int .u8 0), (.int .u8 0), (.int .u8 0), (.int .u8 0), (.int .u8 0), (.int .u8 0), (.int .u8 0), (.int .u8 0), (.int .u8 0), (.int .u8 0), (.int .u8 0), (.int .u8 0), (.int .u8 0), (.int .u8 0), (.int .u8 0), (.int .u8 0), (.int .u8 0), (.int .u8 0), (.int .u8 0), (.int .u8 0), (.int .u8 0), (.int .u8 0), (.int .u8 0), (.int .u8 0), (.int .u8 0), (.int .u8 0), (.int .u8 0), (.int .u8 0), (.int .u8 0)]) := ⟨by kernel_rfl, by kernel_rfl⟩
instance un_a65_uint8 : Un Tryd.prog 151 (.array 65 5) := ⟨by kernel_rfl⟩
abbrev T_slices_xorshift : TypeId := 152
instance ty_slices_xorshift : Ty Tryd.prog 152 false 1 8 (.int .u64 0) := ⟨by kernel_rfl, by kernel_rfl⟩
instance un_slices_xorshift : Un Tryd.prog 152 (.int .u64) := ⟨by kernel_rfl⟩
abbrev T_func153 : TypeId := 153
instance ty_func153 : Ty Tryd.prog 153 false 1 8 (.nilFunc) := ⟨by kernel_rfl, by kernel_rfl⟩
abbrev T_func154 : TypeId := 154
instance ty_func154 : Ty Tryd.prog 154 false 1 8 (.nilFunc) := ⟨by kernel_rfl, by kernel_rfl⟩
abbrev T_func155 : TypeId := 155
instance ty_func155 : Ty Tryd.prog 155 false 1 8 (.nilFunc) := ⟨by kernel_rfl, by kernel_rfl⟩
abbrev T_p_int : TypeId := 156
instance ty_p_int : Ty Tryd.prog 156 false 1 8 (.pointer none) := ⟨by kernel_rfl, by kernel_rfl⟩
instance un_p_int : Un Tryd.prog 156 (.pointer 3) := ⟨by kernel_rfl⟩
abbrev T_func157 : TypeId := 157
instance ty_func157 : Ty Tryd.prog 157 false 1 8 (.nilFunc) := ⟨by kernel_rfl, by kernel_rfl⟩
abbrev T_p_slices_xorshift : TypeId := 158
instance ty_p_slices_xorshift : Ty Tryd.prog 158 false 1 8 (.pointer none) := ⟨by kernel_rfl, by kernel_rfl⟩
instance un_p_slices_xorshift : Un Tryd.prog 158 (.pointer 152) := ⟨by kernel_rfl⟩
abbrev T_func160 : TypeId := 160
instance ty_func160 : Ty Tryd.prog 160 false 1 8 (.nilFunc) := ⟨by kernel_rfl, by kernel_rfl⟩
abbrev T_a32_uint8 : TypeId := 161
instance ty_a32_uint8 : Ty Tryd.prog 161 true 32 32 (.agg #[(.int .u8 0), (.int .u8 0), (.int .u8 0), (.int .u8 0), (.int .u8 0), (.int .u8 0), (.int .u8 0), (.int .u8 0), (.int .u8 0), (.int .u8 0), (.int .u8 0), (.int .u8 0), (.int .u8 0), (.int .u8 0), (.int .u8 0), (.int .u8 0), (.int .u8 0), (.int .u8 0), (.int .u8 0), (.int .u8 0), (.int .u8 0), (.int .u8 0), (.int .u8 0), (.int .u8 0), (.int .u8 0), (.int .u8 0), (.int .u8 0), (.int .u8 0), (.int .u8 0), (.int .u8 0), (.int .u8 0), (.int .u8 0)]) := ⟨by kernel_rfl, by kernel_rfl⟩
instance un_a32_uint8 : Un Tryd.prog 161 (.array 32 5) := ⟨by kernel_rfl⟩
abbrev T_a64_uint8 : TypeId := 162
instance ty_a64_uint8 : Ty Tryd.prog 162 true 64 64 (.agg #[(.int .u8 0), (.int .u8 0), (.int .u8 0), (.int .u8 0), (.int .u8 0), (.int .u8 0), (.int .u8 0), (.int .u8 0), (.int .u8 0), (.int .u8 0), (.int .u8 0), (.int .u8 0), (.int .u8 0), (.int .u8 0), (.int .u8 0), (.int .u8 0), (.int .u8 0), (.int .u8 0), (.int .u8 0), (.int .u8 0), (.int .u8 0), (.int .u8 0), (.int .u8 0), (.int .u8 0), (.int .u8 0), (.int .u8 0), (.int .u8 0), (.int .u8 0), (.int .u8 0), (.int .u8 0), (.int .u8 0), (.int .u8 0), (.int .u8 0), (.int .u8 0), (.int .u8 0), (.int .u8 0), (.int .u8 0), (.int .u8 0), (.int .u8 0), (.int .u8 0), (.int .u8 0), (.int .u8 0), (.int .u8 0), (.int .u8 0), (.int .u8 0), (.int .u8 0), (.int .u8 0), (.int .u8 0), (.int .u8 0), (.int .u8 0), (.int .u8 0), (.int .u8 0), (.int .u8 0), (.int .u8 0), (.int .u8 0), (.int .u8 0), (.int .u8 0), (.int .u8 0), (.int .u8 0), (.int .u8 0), (.int .u8 0), (.int .u8 0), (.int .u8 0), (.int .u8 0)]) := ⟨by kernel_rfl, by kernel_rfl⟩
instance un_a64_uint8 : Un Tryd.prog 162 (.array 64 5) := ⟨by kernel_rfl⟩
abbrev T_func170 : TypeId := 170
instance ty_func170 : Ty Tryd.prog 170 false 1 8 (.nilFunc) := ⟨by kernel_rfl, by kernel_rfl⟩
abbrev T_p_uint8 : TypeId := 171
instance ty_p_uint8 : Ty Tryd.prog 171 false 1 8 (.pointer none) := ⟨by kernel_rfl, by kernel_rfl⟩
instance un_p_uint8 : Un Tryd.prog 171 (.pointer 5) := ⟨by kernel_rfl⟩


instance fld_laws_Term_0 : FieldAt Tryd.prog 24 0 0 := ⟨_, _, Tryd.underlying24, rfl, rfl, _, _, _, _, ty_int, by decide⟩
instance fld_laws_Term_1 : FieldAt Tryd.prog 24 1 1 := ⟨_, _, Tryd.underlying24, rfl, rfl, _, _, _, _, ty_int, by decide⟩
instance fld_laws_Term_2 : FieldAt Tryd.prog 24 2 2 := ⟨_, _, Tryd.underlying24, rfl, rfl, _, _, _, _, ty_s_laws_Term, by decide⟩
instance str_laws_Term : StructAt Tryd.prog 24 [(0, 1), (1, 1), (2, 1)] := ⟨_, Tryd.underlying24, fun w => by simp [ty_int.sizeOf, ty_s_laws_Term.sizeOf]⟩



instance fld_impl_Term_0 : FieldAt Tryd.prog 29 0 0 := ⟨_, _, Tryd.underlying29, rfl, rfl, _, _, _, _, ty_int, by decide⟩
instance fld_impl_Term_1 : FieldAt Tryd.prog 29 1 1 := ⟨_, _, Tryd.underlying29, rfl, rfl, _, _, _, _, ty_int, by decide⟩
instance fld_impl_Term_2 : FieldAt Tryd.prog 29 2 2 := ⟨_, _, Tryd.underlying29, rfl, rfl, _, _, _, _, ty_s_impl_Term, by decide⟩
instance str_impl_Term : StructAt Tryd.prog 29 [(0, 1), (1, 1), (2, 1)] := ⟨_, Tryd.underlying29, fun w => by simp [ty_int.sizeOf, ty_s_impl_Term.sizeOf]⟩









instance fld_impl_Graph_0 : FieldAt Tryd.prog 41 0 0 := ⟨_, _, Tryd.underlying41, rfl, rfl, _, _, _, _, ty_s_s_impl_Move, by decide⟩
instance str_impl_Graph : StructAt Tryd.prog 41 [(0, 1)] := ⟨_, Tryd.underlying41, fun w => by simp [ty_s_s_impl_Move.sizeOf]⟩



















instance fld_impl_Step_0 : FieldAt Tryd.prog 67 0 0 := ⟨_, _, Tryd.underlying67, rfl, rfl, _, _, _, _, ty_int, by decide⟩
instance fld_impl_Step_1 : FieldAt Tryd.prog 67 1 1 := ⟨_, _, Tryd.underlying67, rfl, rfl, _, _, _, _, ty_impl_Term, by decide⟩
instance str_impl_Step : StructAt Tryd.prog 67 [(0, 1), (1, 3)] := ⟨_, Tryd.underlying67, fun w => by simp [ty_impl_Term.sizeOf, ty_int.sizeOf]⟩






instance fld_impl_scan_0 : FieldAt Tryd.prog 75 0 0 := ⟨_, _, Tryd.underlying75, rfl, rfl, _, _, _, _, ty_string, by decide⟩
instance fld_impl_scan_1 : FieldAt Tryd.prog 75 1 1 := ⟨_, _, Tryd.underlying75, rfl, rfl, _, _, _, _, ty_int, by decide⟩
instance fld_impl_scan_2 : FieldAt Tryd.prog 75 2 2 := ⟨_, _, Tryd.underlying75, rfl, rfl, _, _, _, _, ty_bool, by decide⟩
instance str_impl_scan : StructAt Tryd.prog 75 [(0, 1), (1, 1), (2, 1)] := ⟨_, Tryd.underlying75, fun w => by simp [ty_bool.sizeOf, ty_int.sizeOf, ty_string.sizeOf]⟩







instance fld_spec_l6Rd_0 : FieldAt Tryd.prog 85 0 0 := ⟨_, _, Tryd.underlying85, rfl, rfl, _, _, _, _, ty_s_uint8, by decide⟩
instance fld_spec_l6Rd_1 : FieldAt Tryd.prog 85 1 1 := ⟨_, _, Tryd.underlying85, rfl, rfl, _, _, _, _, ty_int, by decide⟩
instance str_spec_l6Rd : StructAt Tryd.prog 85 [(0, 1), (1, 1)] := ⟨_, Tryd.underlying85, fun w => by simp [ty_int.sizeOf, ty_s_uint8.sizeOf]⟩





instance fld_impl_Move_0 : FieldAt Tryd.prog 92 0 0 := ⟨_, _, Tryd.underlying92, rfl, rfl, _, _, _, _, ty_int, by decide⟩
instance fld_impl_Move_1 : FieldAt Tryd.prog 92 1 1 := ⟨_, _, Tryd.underlying92, rfl, rfl, _, _, _, _, ty_int, by decide⟩
instance eqmv_impl_Move : EqMv Tryd.prog 92 := ⟨⟨_, _, Tryd.underlying92, rfl, rfl, by decide, by decide, ⟨_, _, _, ty_int⟩, ⟨_, _, _, ty_int⟩, ⟨.i64, by kernel_rfl⟩, ⟨.i64, by kernel_rfl⟩⟩, by kernel_rfl, by kernel_rfl⟩
instance str_impl_Move : StructAt Tryd.prog 92 [(0, 1), (1, 1)] := ⟨_, Tryd.underlying92, fun w => by simp [ty_int.sizeOf]⟩















































abbrev F_laws_FnExactTermText : FuncId := 3
instance can_laws_FnExactTermText : Callable Tryd.prog 3 := ⟨_, Tryd.func3, by kernel_rfl, by kernel_rfl⟩
theorem fun_laws_FnExactTermText : Tryd.prog.funcs[F_laws_FnExactTermText]? = some Tryd.f3 := Tryd.func3
theorem tmps_laws_FnExactTermText : Tryd.f3.ntmps = 27 := Tryd.ntmps3
theorem ress_laws_FnExactTermText : Tryd.f3.results = #[.tmp 2] := Tryd.results3
abbrev F_laws_FnTermText : FuncId := 4
instance can_laws_FnTermText : Callable Tryd.prog 4 := ⟨_, Tryd.func4, by kernel_rfl, by kernel_rfl⟩
theorem fun_laws_FnTermText : Tryd.prog.funcs[F_laws_FnTermText]? = some Tryd.f4 := Tryd.func4
theorem tmps_laws_FnTermText : Tryd.f4.ntmps = 37 := Tryd.ntmps4
theorem ress_laws_FnTermText : Tryd.f4.results = #[.tmp 2] := Tryd.results4
abbrev F_laws_FnExactGraphOf : FuncId := 5
instance can_laws_FnExactGraphOf : Callable Tryd.prog 5 := ⟨_, Tryd.func5, by kernel_rfl, by kernel_rfl⟩
theorem fun_laws_FnExactGraphOf : Tryd.prog.funcs[F_laws_FnExactGraphOf]? = some Tryd.f5 := Tryd.func5
theorem tmps_laws_FnExactGraphOf : Tryd.f5.ntmps = 119 := Tryd.ntmps5
theorem ress_laws_FnExactGraphOf : Tryd.f5.results = #[.tmp 4] := Tryd.results5
abbrev F_laws_FnTermOk : FuncId := 6
instance can_laws_FnTermOk : Callable Tryd.prog 6 := ⟨_, Tryd.func6, by kernel_rfl, by kernel_rfl⟩
theorem fun_laws_FnTermOk : Tryd.prog.funcs[F_laws_FnTermOk]? = some Tryd.f6 := Tryd.func6
theorem tmps_laws_FnTermOk : Tryd.f6.ntmps = 46 := Tryd.ntmps6
theorem ress_laws_FnTermOk : Tryd.f6.results = #[.tmp 2] := Tryd.results6
abbrev F_laws_FnExactTermRead : FuncId := 7
instance can_laws_FnExactTermRead : Callable Tryd.prog 7 := ⟨_, Tryd.func7, by kernel_rfl, by kernel_rfl⟩
theorem fun_laws_FnExactTermRead : Tryd.prog.funcs[F_laws_FnExactTermRead]? = some Tryd.f7 := Tryd.func7
theorem tmps_laws_FnExactTermRead : Tryd.f7.ntmps = 66 := Tryd.ntmps7
theorem ress_laws_FnExactTermRead : Tryd.f7.results = #[.tmp 2] := Tryd.results7
abbrev F_laws_FnTermRead : FuncId := 8
instance can_laws_FnTermRead : Callable Tryd.prog 8 := ⟨_, Tryd.func8, by kernel_rfl, by kernel_rfl⟩
theorem fun_laws_FnTermRead : Tryd.prog.funcs[F_laws_FnTermRead]? = some Tryd.f8 := Tryd.func8
theorem tmps_laws_FnTermRead : Tryd.f8.ntmps = 44 := Tryd.ntmps8
theorem ress_laws_FnTermRead : Tryd.f8.results = #[.tmp 2] := Tryd.results8
abbrev F_laws_szTerm : FuncId := 9
instance can_laws_szTerm : Callable Tryd.prog 9 := ⟨_, Tryd.func9, by kernel_rfl, by kernel_rfl⟩
theorem fun_laws_szTerm : Tryd.prog.funcs[F_laws_szTerm]? = some Tryd.f9 := Tryd.func9
theorem tmps_laws_szTerm : Tryd.f9.ntmps = 12 := Tryd.ntmps9
theorem ress_laws_szTerm : Tryd.f9.results = #[.tmp 4] := Tryd.results9
abbrev F_spec_TermText : FuncId := 10
instance can_spec_TermText : Callable Tryd.prog 10 := ⟨_, Tryd.func10, by kernel_rfl, by kernel_rfl⟩
theorem fun_spec_TermText : Tryd.prog.funcs[F_spec_TermText]? = some Tryd.f10 := Tryd.func10
theorem tmps_spec_TermText : Tryd.f10.ntmps = 8 := Tryd.ntmps10
theorem ress_spec_TermText : Tryd.f10.results = #[.tmp 2] := Tryd.results10
abbrev F_laws_toTerm : FuncId := 11
instance can_laws_toTerm : Callable Tryd.prog 11 := ⟨_, Tryd.func11, by kernel_rfl, by kernel_rfl⟩
theorem fun_laws_toTerm : Tryd.prog.funcs[F_laws_toTerm]? = some Tryd.f11 := Tryd.func11
theorem tmps_laws_toTerm : Tryd.f11.ntmps = 15 := Tryd.ntmps11
theorem ress_laws_toTerm : Tryd.f11.results = #[.cell 2 29] := Tryd.results11
abbrev F_impl_TermText : FuncId := 12
instance can_impl_TermText : Callable Tryd.prog 12 := ⟨_, Tryd.func12, by kernel_rfl, by kernel_rfl⟩
theorem fun_impl_TermText : Tryd.prog.funcs[F_impl_TermText]? = some Tryd.f12 := Tryd.func12
theorem tmps_impl_TermText : Tryd.f12.ntmps = 8 := Tryd.ntmps12
theorem ress_impl_TermText : Tryd.f12.results = #[.tmp 2] := Tryd.results12
abbrev F_laws_eqTerm : FuncId := 13
instance can_laws_eqTerm : Callable Tryd.prog 13 := ⟨_, Tryd.func13, by kernel_rfl, by kernel_rfl⟩
theorem fun_laws_eqTerm : Tryd.prog.funcs[F_laws_eqTerm]? = some Tryd.f13 := Tryd.func13
theorem tmps_laws_eqTerm : Tryd.f13.ntmps = 21 := Tryd.ntmps13
theorem ress_laws_eqTerm : Tryd.f13.results = #[.tmp 4] := Tryd.results13
abbrev F_spec_DrawTermText : FuncId := 14
instance can_spec_DrawTermText : Callable Tryd.prog 14 := ⟨_, Tryd.func14, by kernel_rfl, by kernel_rfl⟩
theorem fun_spec_DrawTermText : Tryd.prog.funcs[F_spec_DrawTermText]? = some Tryd.f14 := Tryd.func14
theorem tmps_spec_DrawTermText : Tryd.f14.ntmps = 14 := Tryd.ntmps14
theorem ress_spec_DrawTermText : Tryd.f14.results = #[.cell 2 29] := Tryd.results14
abbrev F_laws_mnPut : FuncId := 15
instance can_laws_mnPut : Callable Tryd.prog 15 := ⟨_, Tryd.func15, by kernel_rfl, by kernel_rfl⟩
theorem fun_laws_mnPut : Tryd.prog.funcs[F_laws_mnPut]? = some Tryd.f15 := Tryd.func15
theorem tmps_laws_mnPut : Tryd.f15.ntmps = 11 := Tryd.ntmps15
theorem ress_laws_mnPut : Tryd.f15.results = #[.cell 6 29] := Tryd.results15
abbrev F_impl_TermOk : FuncId := 16
instance can_impl_TermOk : Callable Tryd.prog 16 := ⟨_, Tryd.func16, by kernel_rfl, by kernel_rfl⟩
theorem fun_impl_TermOk : Tryd.prog.funcs[F_impl_TermOk]? = some Tryd.f16 := Tryd.func16
theorem tmps_impl_TermOk : Tryd.f16.ntmps = 10 := Tryd.ntmps16
theorem ress_impl_TermOk : Tryd.f16.results = #[.tmp 2] := Tryd.results16
abbrev F_laws_szTermS : FuncId := 17
instance can_laws_szTermS : Callable Tryd.prog 17 := ⟨_, Tryd.func17, by kernel_rfl, by kernel_rfl⟩
theorem fun_laws_szTermS : Tryd.prog.funcs[F_laws_szTermS]? = some Tryd.f17 := Tryd.func17
theorem tmps_laws_szTermS : Tryd.f17.ntmps = 27 := Tryd.ntmps17
theorem ress_laws_szTermS : Tryd.f17.results = #[.tmp 4] := Tryd.results17
abbrev F_spec_GraphOf : FuncId := 18
instance can_spec_GraphOf : Callable Tryd.prog 18 := ⟨_, Tryd.func18, by kernel_rfl, by kernel_rfl⟩
theorem fun_spec_GraphOf : Tryd.prog.funcs[F_spec_GraphOf]? = some Tryd.f18 := Tryd.func18
theorem tmps_spec_GraphOf : Tryd.f18.ntmps = 16 := Tryd.ntmps18
theorem ress_spec_GraphOf : Tryd.f18.results = #[.cell 4 41, .tmp 5] := Tryd.results18
abbrev F_laws_toTermS : FuncId := 19
instance can_laws_toTermS : Callable Tryd.prog 19 := ⟨_, Tryd.func19, by kernel_rfl, by kernel_rfl⟩
theorem fun_laws_toTermS : Tryd.prog.funcs[F_laws_toTermS]? = some Tryd.f19 := Tryd.func19
theorem tmps_laws_toTermS : Tryd.f19.ntmps = 23 := Tryd.ntmps19
theorem ress_laws_toTermS : Tryd.f19.results = #[.tmp 2] := Tryd.results19
abbrev F_impl_GraphOf : FuncId := 20
instance can_impl_GraphOf : Callable Tryd.prog 20 := ⟨_, Tryd.func20, by kernel_rfl, by kernel_rfl⟩
theorem fun_impl_GraphOf : Tryd.prog.funcs[F_impl_GraphOf]? = some Tryd.f20 := Tryd.func20
theorem tmps_impl_GraphOf : Tryd.f20.ntmps = 22 := Tryd.ntmps20
theorem ress_impl_GraphOf : Tryd.f20.results = #[.cell 4 41, .tmp 5] := Tryd.results20
abbrev F_laws_eqGraph : FuncId := 21
instance can_laws_eqGraph : Callable Tryd.prog 21 := ⟨_, Tryd.func21, by kernel_rfl, by kernel_rfl⟩
theorem fun_laws_eqGraph : Tryd.prog.funcs[F_laws_eqGraph]? = some Tryd.f21 := Tryd.func21
theorem tmps_laws_eqGraph : Tryd.f21.ntmps = 11 := Tryd.ntmps21
theorem ress_laws_eqGraph : Tryd.f21.results = #[.tmp 4] := Tryd.results21
abbrev F_laws_eqTermS : FuncId := 22
instance can_laws_eqTermS : Callable Tryd.prog 22 := ⟨_, Tryd.func22, by kernel_rfl, by kernel_rfl⟩
theorem fun_laws_eqTermS : Tryd.prog.funcs[F_laws_eqTermS]? = some Tryd.f22 := Tryd.func22
theorem tmps_laws_eqTermS : Tryd.f22.ntmps = 27 := Tryd.ntmps22
theorem ress_laws_eqTermS : Tryd.f22.results = #[.tmp 4] := Tryd.results22
abbrev F_laws_markTerm : FuncId := 23
instance can_laws_markTerm : Callable Tryd.prog 23 := ⟨_, Tryd.func23, by kernel_rfl, by kernel_rfl⟩
theorem fun_laws_markTerm : Tryd.prog.funcs[F_laws_markTerm]? = some Tryd.f23 := Tryd.func23
theorem tmps_laws_markTerm : Tryd.f23.ntmps = 10 := Tryd.ntmps23
theorem ress_laws_markTerm : Tryd.f23.results = #[.tmp 4] := Tryd.results23
abbrev F_laws_markTermS : FuncId := 24
instance can_laws_markTermS : Callable Tryd.prog 24 := ⟨_, Tryd.func24, by kernel_rfl, by kernel_rfl⟩
theorem fun_laws_markTermS : Tryd.prog.funcs[F_laws_markTermS]? = some Tryd.f24 := Tryd.func24
theorem tmps_laws_markTermS : Tryd.f24.ntmps = 34 := Tryd.ntmps24
theorem ress_laws_markTermS : Tryd.f24.results = #[.tmp 4] := Tryd.results24
abbrev F_laws_markGraph : FuncId := 25
instance can_laws_markGraph : Callable Tryd.prog 25 := ⟨_, Tryd.func25, by kernel_rfl, by kernel_rfl⟩
theorem fun_laws_markGraph : Tryd.prog.funcs[F_laws_markGraph]? = some Tryd.f25 := Tryd.func25
theorem tmps_laws_markGraph : Tryd.f25.ntmps = 10 := Tryd.ntmps25
theorem ress_laws_markGraph : Tryd.f25.results = #[.tmp 4] := Tryd.results25
abbrev F_laws_heldGraph : FuncId := 26
instance can_laws_heldGraph : Callable Tryd.prog 26 := ⟨_, Tryd.func26, by kernel_rfl, by kernel_rfl⟩
theorem fun_laws_heldGraph : Tryd.prog.funcs[F_laws_heldGraph]? = some Tryd.f26 := Tryd.func26
theorem tmps_laws_heldGraph : Tryd.f26.ntmps = 12 := Tryd.ntmps26
theorem ress_laws_heldGraph : Tryd.f26.results = #[.tmp 4] := Tryd.results26
abbrev F_spec_DrawTermOk : FuncId := 27
instance can_spec_DrawTermOk : Callable Tryd.prog 27 := ⟨_, Tryd.func27, by kernel_rfl, by kernel_rfl⟩
theorem fun_spec_DrawTermOk : Tryd.prog.funcs[F_spec_DrawTermOk]? = some Tryd.f27 := Tryd.func27
theorem tmps_spec_DrawTermOk : Tryd.f27.ntmps = 14 := Tryd.ntmps27
theorem ress_spec_DrawTermOk : Tryd.f27.results = #[.cell 2 29] := Tryd.results27
abbrev F_spec_TermOk : FuncId := 28
instance can_spec_TermOk : Callable Tryd.prog 28 := ⟨_, Tryd.func28, by kernel_rfl, by kernel_rfl⟩
theorem fun_spec_TermOk : Tryd.prog.funcs[F_spec_TermOk]? = some Tryd.f28 := Tryd.func28
theorem tmps_spec_TermOk : Tryd.f28.ntmps = 6 := Tryd.ntmps28
theorem ress_spec_TermOk : Tryd.f28.results = #[.tmp 2] := Tryd.results28
abbrev F_impl_TermRead : FuncId := 29
instance can_impl_TermRead : Callable Tryd.prog 29 := ⟨_, Tryd.func29, by kernel_rfl, by kernel_rfl⟩
theorem fun_impl_TermRead : Tryd.prog.funcs[F_impl_TermRead]? = some Tryd.f29 := Tryd.func29
theorem tmps_impl_TermRead : Tryd.f29.ntmps = 30 := Tryd.ntmps29
theorem ress_impl_TermRead : Tryd.f29.results = #[.cell 2 29, .tmp 3] := Tryd.results29
abbrev F_laws_mnTerm : FuncId := 30
instance can_laws_mnTerm : Callable Tryd.prog 30 := ⟨_, Tryd.func30, by kernel_rfl, by kernel_rfl⟩
theorem fun_laws_mnTerm : Tryd.prog.funcs[F_laws_mnTerm]? = some Tryd.f30 := Tryd.func30
theorem tmps_laws_mnTerm : Tryd.f30.ntmps = 24 := Tryd.ntmps30
theorem ress_laws_mnTerm : Tryd.f30.results = #[.tmp 4] := Tryd.results30
abbrev F_spec_TermRead : FuncId := 31
instance can_spec_TermRead : Callable Tryd.prog 31 := ⟨_, Tryd.func31, by kernel_rfl, by kernel_rfl⟩
theorem fun_spec_TermRead : Tryd.prog.funcs[F_spec_TermRead]? = some Tryd.f31 := Tryd.func31
theorem tmps_spec_TermRead : Tryd.f31.ntmps = 26 := Tryd.ntmps31
theorem ress_spec_TermRead : Tryd.f31.results = #[.cell 2 29, .tmp 3] := Tryd.results31
abbrev F_laws_heldTerm : FuncId := 32
instance can_laws_heldTerm : Callable Tryd.prog 32 := ⟨_, Tryd.func32, by kernel_rfl, by kernel_rfl⟩
theorem fun_laws_heldTerm : Tryd.prog.funcs[F_laws_heldTerm]? = some Tryd.f32 := Tryd.func32
theorem tmps_laws_heldTerm : Tryd.f32.ntmps = 12 := Tryd.ntmps32
theorem ress_laws_heldTerm : Tryd.f32.results = #[.tmp 4] := Tryd.results32
abbrev F_spec_DrawTermRead : FuncId := 33
instance can_spec_DrawTermRead : Callable Tryd.prog 33 := ⟨_, Tryd.func33, by kernel_rfl, by kernel_rfl⟩
theorem fun_spec_DrawTermRead : Tryd.prog.funcs[F_spec_DrawTermRead]? = some Tryd.f33 := Tryd.func33
theorem tmps_spec_DrawTermRead : Tryd.f33.ntmps = 23 := Tryd.ntmps33
theorem ress_spec_DrawTermRead : Tryd.f33.results = #[.tmp 2] := Tryd.results33
abbrev F_spec_l2Text : FuncId := 34
instance can_spec_l2Text : Callable Tryd.prog 34 := ⟨_, Tryd.func34, by kernel_rfl, by kernel_rfl⟩
theorem fun_spec_l2Text : Tryd.prog.funcs[F_spec_l2Text]? = some Tryd.f34 := Tryd.func34
theorem tmps_spec_l2Text : Tryd.f34.ntmps = 58 := Tryd.ntmps34
theorem ress_spec_l2Text : Tryd.f34.results = #[.tmp 2] := Tryd.results34
abbrev F_impl_textOf : FuncId := 35
instance can_impl_textOf : Callable Tryd.prog 35 := ⟨_, Tryd.func35, by kernel_rfl, by kernel_rfl⟩
theorem fun_impl_textOf : Tryd.prog.funcs[F_impl_textOf]? = some Tryd.f35 := Tryd.func35
theorem tmps_impl_textOf : Tryd.f35.ntmps = 71 := Tryd.ntmps35
theorem ress_impl_textOf : Tryd.f35.results = #[.tmp 2] := Tryd.results35
abbrev F_spec_l6Open : FuncId := 36
instance can_spec_l6Open : Callable Tryd.prog 36 := ⟨_, Tryd.func36, by kernel_rfl, by kernel_rfl⟩
theorem fun_spec_l6Open : Tryd.prog.funcs[F_spec_l6Open]? = some Tryd.f36 := Tryd.func36
theorem tmps_spec_l6Open : Tryd.f36.ntmps = 11 := Tryd.ntmps36
theorem ress_spec_l6Open : Tryd.f36.results = #[.tmp 2] := Tryd.results36
abbrev F_spec_l91Called : FuncId := 37
instance can_spec_l91Called : Callable Tryd.prog 37 := ⟨_, Tryd.func37, by kernel_rfl, by kernel_rfl⟩
theorem fun_spec_l91Called : Tryd.prog.funcs[F_spec_l91Called]? = some Tryd.f37 := Tryd.func37
theorem tmps_spec_l91Called : Tryd.f37.ntmps = 27 := Tryd.ntmps37
theorem ress_spec_l91Called : Tryd.f37.results = #[.cell 2 29, .tmp 3] := Tryd.results37
abbrev F_impl_termNodes : FuncId := 38
instance can_impl_termNodes : Callable Tryd.prog 38 := ⟨_, Tryd.func38, by kernel_rfl, by kernel_rfl⟩
theorem fun_impl_termNodes : Tryd.prog.funcs[F_impl_termNodes]? = some Tryd.f38 := Tryd.func38
theorem tmps_impl_termNodes : Tryd.f38.ntmps = 28 := Tryd.ntmps38
theorem ress_impl_termNodes : Tryd.f38.results = #[.tmp 4] := Tryd.results38
abbrev F_impl_termShape : FuncId := 39
instance can_impl_termShape : Callable Tryd.prog 39 := ⟨_, Tryd.func39, by kernel_rfl, by kernel_rfl⟩
theorem fun_impl_termShape : Tryd.prog.funcs[F_impl_termShape]? = some Tryd.f39 := Tryd.func39
theorem tmps_impl_termShape : Tryd.f39.ntmps = 50 := Tryd.ntmps39
theorem ress_impl_termShape : Tryd.f39.results = #[.tmp 2] := Tryd.results39
abbrev F_spec_l3Asked : FuncId := 40
instance can_spec_l3Asked : Callable Tryd.prog 40 := ⟨_, Tryd.func40, by kernel_rfl, by kernel_rfl⟩
theorem fun_spec_l3Asked : Tryd.prog.funcs[F_spec_l3Asked]? = some Tryd.f40 := Tryd.func40
theorem tmps_spec_l3Asked : Tryd.f40.ntmps = 13 := Tryd.ntmps40
theorem ress_spec_l3Asked : Tryd.f40.results = #[.tmp 4] := Tryd.results40
abbrev F_spec_l3Graph : FuncId := 41
instance can_spec_l3Graph : Callable Tryd.prog 41 := ⟨_, Tryd.func41, by kernel_rfl, by kernel_rfl⟩
theorem fun_spec_l3Graph : Tryd.prog.funcs[F_spec_l3Graph]? = some Tryd.f41 := Tryd.func41
theorem tmps_spec_l3Graph : Tryd.f41.ntmps = 106 := Tryd.ntmps41
theorem ress_spec_l3Graph : Tryd.f41.results = #[.cell 4 41, .tmp 5] := Tryd.results41
abbrev F_impl_DefsOk : FuncId := 42
instance can_impl_DefsOk : Callable Tryd.prog 42 := ⟨_, Tryd.func42, by kernel_rfl, by kernel_rfl⟩
theorem fun_impl_DefsOk : Tryd.prog.funcs[F_impl_DefsOk]? = some Tryd.f42 := Tryd.func42
theorem tmps_impl_DefsOk : Tryd.f42.ntmps = 12 := Tryd.ntmps42
theorem ress_impl_DefsOk : Tryd.f42.results = #[.tmp 2] := Tryd.results42
abbrev F_impl_TermFits : FuncId := 43
instance can_impl_TermFits : Callable Tryd.prog 43 := ⟨_, Tryd.func43, by kernel_rfl, by kernel_rfl⟩
theorem fun_impl_TermFits : Tryd.prog.funcs[F_impl_TermFits]? = some Tryd.f43 := Tryd.func43
theorem tmps_impl_TermFits : Tryd.f43.ntmps = 20 := Tryd.ntmps43
theorem ress_impl_TermFits : Tryd.f43.results = #[.tmp 4] := Tryd.results43
abbrev F_impl_built_impl_Term : FuncId := 44
instance can_impl_built_impl_Term : Callable Tryd.prog 44 := ⟨_, Tryd.func44, by kernel_rfl, by kernel_rfl⟩
theorem fun_impl_built_impl_Term : Tryd.prog.funcs[F_impl_built_impl_Term]? = some Tryd.f44 := Tryd.func44
theorem tmps_impl_built_impl_Term : Tryd.f44.ntmps = 97 := Tryd.ntmps44
theorem ress_impl_built_impl_Term : Tryd.f44.results = #[.cell 6 41, .tmp 7] := Tryd.results44
abbrev F_impl_GraphOf_1 : FuncId := 45
instance can_impl_GraphOf_1 : Callable Tryd.prog 45 := ⟨_, Tryd.func45, by kernel_rfl, by kernel_rfl⟩
theorem fun_impl_GraphOf_1 : Tryd.prog.funcs[F_impl_GraphOf_1]? = some Tryd.f45 := Tryd.func45
theorem tmps_impl_GraphOf_1 : Tryd.f45.ntmps = 37 := Tryd.ntmps45
theorem ress_impl_GraphOf_1 : Tryd.f45.results = #[.tmp 3, .tmp 4, .tmp 5] := Tryd.results45
abbrev F_impl_stepsOf : FuncId := 46
instance can_impl_stepsOf : Callable Tryd.prog 46 := ⟨_, Tryd.func46, by kernel_rfl, by kernel_rfl⟩
theorem fun_impl_stepsOf : Tryd.prog.funcs[F_impl_stepsOf]? = some Tryd.f46 := Tryd.func46
theorem tmps_impl_stepsOf : Tryd.f46.ntmps = 183 := Tryd.ntmps46
theorem ress_impl_stepsOf : Tryd.f46.results = #[.tmp 4] := Tryd.results46
abbrev F_laws_eqMoveSS : FuncId := 47
instance can_laws_eqMoveSS : Callable Tryd.prog 47 := ⟨_, Tryd.func47, by kernel_rfl, by kernel_rfl⟩
theorem fun_laws_eqMoveSS : Tryd.prog.funcs[F_laws_eqMoveSS]? = some Tryd.f47 := Tryd.func47
theorem tmps_laws_eqMoveSS : Tryd.f47.ntmps = 27 := Tryd.ntmps47
theorem ress_laws_eqMoveSS : Tryd.f47.results = #[.tmp 4] := Tryd.results47
abbrev F_laws_markMoveSS : FuncId := 48
instance can_laws_markMoveSS : Callable Tryd.prog 48 := ⟨_, Tryd.func48, by kernel_rfl, by kernel_rfl⟩
theorem fun_laws_markMoveSS : Tryd.prog.funcs[F_laws_markMoveSS]? = some Tryd.f48 := Tryd.func48
theorem tmps_laws_markMoveSS : Tryd.f48.ntmps = 19 := Tryd.ntmps48
theorem ress_laws_markMoveSS : Tryd.f48.results = #[.tmp 4] := Tryd.results48
abbrev F_laws_heldMoveSS : FuncId := 49
instance can_laws_heldMoveSS : Callable Tryd.prog 49 := ⟨_, Tryd.func49, by kernel_rfl, by kernel_rfl⟩
theorem fun_laws_heldMoveSS : Tryd.prog.funcs[F_laws_heldMoveSS]? = some Tryd.f49 := Tryd.func49
theorem tmps_laws_heldMoveSS : Tryd.f49.ntmps = 21 := Tryd.ntmps49
theorem ress_laws_heldMoveSS : Tryd.f49.results = #[.tmp 4] := Tryd.results49
abbrev F_spec_l6In : FuncId := 50
instance can_spec_l6In : Callable Tryd.prog 50 := ⟨_, Tryd.func50, by kernel_rfl, by kernel_rfl⟩
theorem fun_spec_l6In : Tryd.prog.funcs[F_spec_l6In]? = some Tryd.f50 := Tryd.func50
theorem tmps_spec_l6In : Tryd.f50.ntmps = 15 := Tryd.ntmps50
theorem ress_spec_l6In : Tryd.f50.results = #[.tmp 6] := Tryd.results50
abbrev F_spec_l2Nodes : FuncId := 51
instance can_spec_l2Nodes : Callable Tryd.prog 51 := ⟨_, Tryd.func51, by kernel_rfl, by kernel_rfl⟩
theorem fun_spec_l2Nodes : Tryd.prog.funcs[F_spec_l2Nodes]? = some Tryd.f51 := Tryd.func51
theorem tmps_spec_l2Nodes : Tryd.f51.ntmps = 60 := Tryd.ntmps51
theorem ress_spec_l2Nodes : Tryd.f51.results = #[.tmp 2] := Tryd.results51
abbrev F_impl_scan_term : FuncId := 52
instance can_impl_scan_term : Callable Tryd.prog 52 := ⟨_, Tryd.func52, by kernel_rfl, by kernel_rfl⟩
theorem fun_impl_scan_term : Tryd.prog.funcs[F_impl_scan_term]? = some Tryd.f52 := Tryd.func52
theorem tmps_impl_scan_term : Tryd.f52.ntmps = 73 := Tryd.ntmps52
theorem ress_impl_scan_term : Tryd.f52.results = #[.cell 2 29] := Tryd.results52
abbrev F_laws_mnTerms : FuncId := 53
instance can_laws_mnTerms : Callable Tryd.prog 53 := ⟨_, Tryd.func53, by kernel_rfl, by kernel_rfl⟩
theorem fun_laws_mnTerms : Tryd.prog.funcs[F_laws_mnTerms]? = some Tryd.f53 := Tryd.func53
theorem tmps_laws_mnTerms : Tryd.f53.ntmps = 27 := Tryd.ntmps53
theorem ress_laws_mnTerms : Tryd.f53.results = #[.tmp 4] := Tryd.results53
abbrev F_spec_l2Read : FuncId := 54
instance can_spec_l2Read : Callable Tryd.prog 54 := ⟨_, Tryd.func54, by kernel_rfl, by kernel_rfl⟩
theorem fun_spec_l2Read : Tryd.prog.funcs[F_spec_l2Read]? = some Tryd.f54 := Tryd.func54
theorem tmps_spec_l2Read : Tryd.f54.ntmps = 185 := Tryd.ntmps54
theorem ress_spec_l2Read : Tryd.f54.results = #[.cell 4 29, .tmp 5, .tmp 6] := Tryd.results54
abbrev F_laws_heldTermS : FuncId := 55
instance can_laws_heldTermS : Callable Tryd.prog 55 := ⟨_, Tryd.func55, by kernel_rfl, by kernel_rfl⟩
theorem fun_laws_heldTermS : Tryd.prog.funcs[F_laws_heldTermS]? = some Tryd.f55 := Tryd.func55
theorem tmps_laws_heldTermS : Tryd.f55.ntmps = 40 := Tryd.ntmps55
theorem ress_laws_heldTermS : Tryd.f55.results = #[.tmp 4] := Tryd.results55
abbrev F_spec_l6Rd_pick : FuncId := 56
instance can_spec_l6Rd_pick : Callable Tryd.prog 56 := ⟨_, Tryd.func56, by kernel_rfl, by kernel_rfl⟩
theorem fun_spec_l6Rd_pick : Tryd.prog.funcs[F_spec_l6Rd_pick]? = some Tryd.f56 := Tryd.func56
theorem tmps_spec_l6Rd_pick : Tryd.f56.ntmps = 99 := Tryd.ntmps56
theorem ress_spec_l6Rd_pick : Tryd.f56.results = #[.tmp 4] := Tryd.results56
abbrev F_spec_l91Spoil : FuncId := 57
instance can_spec_l91Spoil : Callable Tryd.prog 57 := ⟨_, Tryd.func57, by kernel_rfl, by kernel_rfl⟩
theorem fun_spec_l91Spoil : Tryd.prog.funcs[F_spec_l91Spoil]? = some Tryd.f57 := Tryd.func57
theorem tmps_spec_l91Spoil : Tryd.f57.ntmps = 52 := Tryd.ntmps57
theorem ress_spec_l91Spoil : Tryd.f57.results = #[.tmp 4] := Tryd.results57
abbrev F_spec_l6Dec : FuncId := 58
instance can_spec_l6Dec : Callable Tryd.prog 58 := ⟨_, Tryd.func58, by kernel_rfl, by kernel_rfl⟩
theorem fun_spec_l6Dec : Tryd.prog.funcs[F_spec_l6Dec]? = some Tryd.f58 := Tryd.func58
theorem tmps_spec_l6Dec : Tryd.f58.ntmps = 28 := Tryd.ntmps58
theorem ress_spec_l6Dec : Tryd.f58.results = #[.tmp 2] := Tryd.results58
abbrev F_spec_l2Words : FuncId := 59
instance can_spec_l2Words : Callable Tryd.prog 59 := ⟨_, Tryd.func59, by kernel_rfl, by kernel_rfl⟩
theorem fun_spec_l2Words : Tryd.prog.funcs[F_spec_l2Words]? = some Tryd.f59 := Tryd.func59
theorem tmps_spec_l2Words : Tryd.f59.ntmps = 2 := Tryd.ntmps59
theorem ress_spec_l2Words : Tryd.f59.results = #[.tmp 0] := Tryd.results59
abbrev F_spec_l1Text : FuncId := 60
instance can_spec_l1Text : Callable Tryd.prog 60 := ⟨_, Tryd.func60, by kernel_rfl, by kernel_rfl⟩
theorem fun_spec_l1Text : Tryd.prog.funcs[F_spec_l1Text]? = some Tryd.f60 := Tryd.func60
theorem tmps_spec_l1Text : Tryd.f60.ntmps = 22 := Tryd.ntmps60
theorem ress_spec_l1Text : Tryd.f60.results = #[.tmp 2] := Tryd.results60
abbrev F_impl_ActText : FuncId := 61
instance can_impl_ActText : Callable Tryd.prog 61 := ⟨_, Tryd.func61, by kernel_rfl, by kernel_rfl⟩
theorem fun_impl_ActText : Tryd.prog.funcs[F_impl_ActText]? = some Tryd.f61 := Tryd.func61
theorem tmps_impl_ActText : Tryd.f61.ntmps = 20 := Tryd.ntmps61
theorem ress_impl_ActText : Tryd.f61.results = #[.tmp 2] := Tryd.results61
abbrev F_impl_nameText : FuncId := 62
instance can_impl_nameText : Callable Tryd.prog 62 := ⟨_, Tryd.func62, by kernel_rfl, by kernel_rfl⟩
theorem fun_impl_nameText : Tryd.prog.funcs[F_impl_nameText]? = some Tryd.f62 := Tryd.func62
theorem tmps_impl_nameText : Tryd.f62.ntmps = 8 := Tryd.ntmps62
theorem ress_impl_nameText : Tryd.f62.results = #[.tmp 2] := Tryd.results62
abbrev F_strconv_Itoa : FuncId := 63
instance can_strconv_Itoa : Callable Tryd.prog 63 := ⟨_, Tryd.func63, by kernel_rfl, by kernel_rfl⟩
theorem fun_strconv_Itoa : Tryd.prog.funcs[F_strconv_Itoa]? = some Tryd.f63 := Tryd.func63
theorem tmps_strconv_Itoa : Tryd.f63.ntmps = 5 := Tryd.ntmps63
theorem ress_strconv_Itoa : Tryd.f63.results = #[.tmp 2] := Tryd.results63
abbrev F_spec_l91Defs : FuncId := 64
instance can_spec_l91Defs : Callable Tryd.prog 64 := ⟨_, Tryd.func64, by kernel_rfl, by kernel_rfl⟩
theorem fun_spec_l91Defs : Tryd.prog.funcs[F_spec_l91Defs]? = some Tryd.f64 := Tryd.func64
theorem tmps_spec_l91Defs : Tryd.f64.ntmps = 41 := Tryd.ntmps64
theorem ress_spec_l91Defs : Tryd.f64.results = #[.tmp 2] := Tryd.results64
abbrev F_spec_l91Term : FuncId := 65
instance can_spec_l91Term : Callable Tryd.prog 65 := ⟨_, Tryd.func65, by kernel_rfl, by kernel_rfl⟩
theorem fun_spec_l91Term : Tryd.prog.funcs[F_spec_l91Term]? = some Tryd.f65 := Tryd.func65
theorem tmps_spec_l91Term : Tryd.f65.ntmps = 34 := Tryd.ntmps65
theorem ress_spec_l91Term : Tryd.f65.results = #[.cell 4 29] := Tryd.results65
abbrev F_impl_ActOk : FuncId := 66
instance can_impl_ActOk : Callable Tryd.prog 66 := ⟨_, Tryd.func66, by kernel_rfl, by kernel_rfl⟩
theorem fun_impl_ActOk : Tryd.prog.funcs[F_impl_ActOk]? = some Tryd.f66 := Tryd.func66
theorem tmps_impl_ActOk : Tryd.f66.ntmps = 9 := Tryd.ntmps66
theorem ress_impl_ActOk : Tryd.f66.results = #[.tmp 2] := Tryd.results66
abbrev F_impl_nameOk : FuncId := 67
instance can_impl_nameOk : Callable Tryd.prog 67 := ⟨_, Tryd.func67, by kernel_rfl, by kernel_rfl⟩
theorem fun_impl_nameOk : Tryd.prog.funcs[F_impl_nameOk]? = some Tryd.f67 := Tryd.func67
theorem tmps_impl_nameOk : Tryd.f67.ntmps = 9 := Tryd.ntmps67
theorem ress_impl_nameOk : Tryd.f67.results = #[.tmp 2] := Tryd.results67
abbrev F_slices_ContainsFunc_impl_Term_impl_Term : FuncId := 68
instance can_slices_ContainsFunc_impl_Term_impl_Term : Callable Tryd.prog 68 := ⟨_, Tryd.func68, by kernel_rfl, by kernel_rfl⟩
theorem fun_slices_ContainsFunc_impl_Term_impl_Term : Tryd.prog.funcs[F_slices_ContainsFunc_impl_Term_impl_Term]? = some Tryd.f68 := Tryd.func68
theorem tmps_slices_ContainsFunc_impl_Term_impl_Term : Tryd.f68.ntmps = 9 := Tryd.ntmps68
theorem ress_slices_ContainsFunc_impl_Term_impl_Term : Tryd.f68.results = #[.tmp 4] := Tryd.results68
abbrev F_impl_termShape_1 : FuncId := 69
instance can_impl_termShape_1 : Callable Tryd.prog 69 := ⟨_, Tryd.func69, by kernel_rfl, by kernel_rfl⟩
theorem fun_impl_termShape_1 : Tryd.prog.funcs[F_impl_termShape_1]? = some Tryd.f69 := Tryd.func69
theorem tmps_impl_termShape_1 : Tryd.f69.ntmps = 6 := Tryd.ntmps69
theorem ress_impl_termShape_1 : Tryd.f69.results = #[.tmp 2] := Tryd.results69
abbrev F_spec_DefsOk : FuncId := 70
instance can_spec_DefsOk : Callable Tryd.prog 70 := ⟨_, Tryd.func70, by kernel_rfl, by kernel_rfl⟩
theorem fun_spec_DefsOk : Tryd.prog.funcs[F_spec_DefsOk]? = some Tryd.f70 := Tryd.func70
theorem tmps_spec_DefsOk : Tryd.f70.ntmps = 29 := Tryd.ntmps70
theorem ress_spec_DefsOk : Tryd.f70.results = #[.tmp 2] := Tryd.results70
abbrev F_spec_TermFits : FuncId := 71
instance can_spec_TermFits : Callable Tryd.prog 71 := ⟨_, Tryd.func71, by kernel_rfl, by kernel_rfl⟩
theorem fun_spec_TermFits : Tryd.prog.funcs[F_spec_TermFits]? = some Tryd.f71 := Tryd.func71
theorem tmps_spec_TermFits : Tryd.f71.ntmps = 17 := Tryd.ntmps71
theorem ress_spec_TermFits : Tryd.f71.results = #[.tmp 4] := Tryd.results71
abbrev F_spec_l3Steps : FuncId := 72
instance can_spec_l3Steps : Callable Tryd.prog 72 := ⟨_, Tryd.func72, by kernel_rfl, by kernel_rfl⟩
theorem fun_spec_l3Steps : Tryd.prog.funcs[F_spec_l3Steps]? = some Tryd.f72 := Tryd.func72
theorem tmps_spec_l3Steps : Tryd.f72.ntmps = 217 := Tryd.ntmps72
theorem ress_spec_l3Steps : Tryd.f72.results = #[.tmp 4] := Tryd.results72
abbrev F_spec_l3Sorted : FuncId := 73
instance can_spec_l3Sorted : Callable Tryd.prog 73 := ⟨_, Tryd.func73, by kernel_rfl, by kernel_rfl⟩
theorem fun_spec_l3Sorted : Tryd.prog.funcs[F_spec_l3Sorted]? = some Tryd.f73 := Tryd.func73
theorem tmps_spec_l3Sorted : Tryd.f73.ntmps = 74 := Tryd.ntmps73
theorem ress_spec_l3Sorted : Tryd.f73.results = #[.tmp 2] := Tryd.results73
abbrev F_impl_DefsOk_1 : FuncId := 74
instance can_impl_DefsOk_1 : Callable Tryd.prog 74 := ⟨_, Tryd.func74, by kernel_rfl, by kernel_rfl⟩
theorem fun_impl_DefsOk_1 : Tryd.prog.funcs[F_impl_DefsOk_1]? = some Tryd.f74 := Tryd.func74
theorem tmps_impl_DefsOk_1 : Tryd.f74.ntmps = 13 := Tryd.ntmps74
theorem ress_impl_DefsOk_1 : Tryd.f74.results = #[.tmp 3] := Tryd.results74
abbrev F_impl_bare : FuncId := 75
instance can_impl_bare : Callable Tryd.prog 75 := ⟨_, Tryd.func75, by kernel_rfl, by kernel_rfl⟩
theorem fun_impl_bare : Tryd.prog.funcs[F_impl_bare]? = some Tryd.f75 := Tryd.func75
theorem tmps_impl_bare : Tryd.f75.ntmps = 16 := Tryd.ntmps75
theorem ress_impl_bare : Tryd.f75.results = #[.tmp 2] := Tryd.results75
abbrev F_impl_callsBelow : FuncId := 76
instance can_impl_callsBelow : Callable Tryd.prog 76 := ⟨_, Tryd.func76, by kernel_rfl, by kernel_rfl⟩
theorem fun_impl_callsBelow : Tryd.prog.funcs[F_impl_callsBelow]? = some Tryd.f76 := Tryd.func76
theorem tmps_impl_callsBelow : Tryd.f76.ntmps = 21 := Tryd.ntmps76
theorem ress_impl_callsBelow : Tryd.f76.results = #[.tmp 4] := Tryd.results76
abbrev F_impl_tidy : FuncId := 77
instance can_impl_tidy : Callable Tryd.prog 77 := ⟨_, Tryd.func77, by kernel_rfl, by kernel_rfl⟩
theorem fun_impl_tidy : Tryd.prog.funcs[F_impl_tidy]? = some Tryd.f77 := Tryd.func77
theorem tmps_impl_tidy : Tryd.f77.ntmps = 7 := Tryd.ntmps77
theorem ress_impl_tidy : Tryd.f77.results = #[.tmp 2] := Tryd.results77
abbrev F_impl_parOf : FuncId := 78
instance can_impl_parOf : Callable Tryd.prog 78 := ⟨_, Tryd.func78, by kernel_rfl, by kernel_rfl⟩
theorem fun_impl_parOf : Tryd.prog.funcs[F_impl_parOf]? = some Tryd.f78 := Tryd.func78
theorem tmps_impl_parOf : Tryd.f78.ntmps = 9 := Tryd.ntmps78
theorem ress_impl_parOf : Tryd.f78.results = #[.cell 4 29] := Tryd.results78
abbrev F_impl_nameOf : FuncId := 79
instance can_impl_nameOf : Callable Tryd.prog 79 := ⟨_, Tryd.func79, by kernel_rfl, by kernel_rfl⟩
theorem fun_impl_nameOf : Tryd.prog.funcs[F_impl_nameOf]? = some Tryd.f79 := Tryd.func79
theorem tmps_impl_nameOf : Tryd.f79.ntmps = 8 := Tryd.ntmps79
theorem ress_impl_nameOf : Tryd.f79.results = #[.tmp 2] := Tryd.results79
abbrev F_impl_hideOf : FuncId := 80
instance can_impl_hideOf : Callable Tryd.prog 80 := ⟨_, Tryd.func80, by kernel_rfl, by kernel_rfl⟩
theorem fun_impl_hideOf : Tryd.prog.funcs[F_impl_hideOf]? = some Tryd.f80 := Tryd.func80
theorem tmps_impl_hideOf : Tryd.f80.ntmps = 9 := Tryd.ntmps80
theorem ress_impl_hideOf : Tryd.f80.results = #[.cell 4 29] := Tryd.results80
abbrev F_laws_eqMoveS : FuncId := 81
instance can_laws_eqMoveS : Callable Tryd.prog 81 := ⟨_, Tryd.func81, by kernel_rfl, by kernel_rfl⟩
theorem fun_laws_eqMoveS : Tryd.prog.funcs[F_laws_eqMoveS]? = some Tryd.f81 := Tryd.func81
theorem tmps_laws_eqMoveS : Tryd.f81.ntmps = 27 := Tryd.ntmps81
theorem ress_laws_eqMoveS : Tryd.f81.results = #[.tmp 4] := Tryd.results81
abbrev F_laws_markMoveS : FuncId := 82
instance can_laws_markMoveS : Callable Tryd.prog 82 := ⟨_, Tryd.func82, by kernel_rfl, by kernel_rfl⟩
theorem fun_laws_markMoveS : Tryd.prog.funcs[F_laws_markMoveS]? = some Tryd.f82 := Tryd.func82
theorem tmps_laws_markMoveS : Tryd.f82.ntmps = 27 := Tryd.ntmps82
theorem ress_laws_markMoveS : Tryd.f82.results = #[.tmp 4] := Tryd.results82
abbrev F_laws_heldMoveS : FuncId := 83
instance can_laws_heldMoveS : Callable Tryd.prog 83 := ⟨_, Tryd.func83, by kernel_rfl, by kernel_rfl⟩
theorem fun_laws_heldMoveS : Tryd.prog.funcs[F_laws_heldMoveS]? = some Tryd.f83 := Tryd.func83
theorem tmps_laws_heldMoveS : Tryd.f83.ntmps = 31 := Tryd.ntmps83
theorem ress_laws_heldMoveS : Tryd.f83.results = #[.tmp 4] := Tryd.results83
abbrev F_spec_ActOk : FuncId := 84
instance can_spec_ActOk : Callable Tryd.prog 84 := ⟨_, Tryd.func84, by kernel_rfl, by kernel_rfl⟩
theorem fun_spec_ActOk : Tryd.prog.funcs[F_spec_ActOk]? = some Tryd.f84 := Tryd.func84
theorem tmps_spec_ActOk : Tryd.f84.ntmps = 5 := Tryd.ntmps84
theorem ress_spec_ActOk : Tryd.f84.results = #[.tmp 2] := Tryd.results84
abbrev F_impl_scan_node : FuncId := 85
instance can_impl_scan_node : Callable Tryd.prog 85 := ⟨_, Tryd.func85, by kernel_rfl, by kernel_rfl⟩
theorem fun_impl_scan_node : Tryd.prog.funcs[F_impl_scan_node]? = some Tryd.f85 := Tryd.func85
theorem tmps_impl_scan_node : Tryd.f85.ntmps = 23 := Tryd.ntmps85
theorem ress_impl_scan_node : Tryd.f85.results = #[.tmp 2] := Tryd.results85
abbrev F_impl_scan_term_1 : FuncId := 86
instance can_impl_scan_term_1 : Callable Tryd.prog 86 := ⟨_, Tryd.func86, by kernel_rfl, by kernel_rfl⟩
theorem fun_impl_scan_term_1 : Tryd.prog.funcs[F_impl_scan_term_1]? = some Tryd.f86 := Tryd.func86
theorem tmps_impl_scan_term_1 : Tryd.f86.ntmps = 18 := Tryd.ntmps86
theorem ress_impl_scan_term_1 : Tryd.f86.results = #[] := Tryd.results86
abbrev F_impl_scan_must : FuncId := 87
instance can_impl_scan_must : Callable Tryd.prog 87 := ⟨_, Tryd.func87, by kernel_rfl, by kernel_rfl⟩
theorem fun_impl_scan_must : Tryd.prog.funcs[F_impl_scan_must]? = some Tryd.f87 := Tryd.func87
theorem tmps_impl_scan_must : Tryd.f87.ntmps = 11 := Tryd.ntmps87
theorem ress_impl_scan_must : Tryd.f87.results = #[] := Tryd.results87
abbrev F_impl_scan_take : FuncId := 88
instance can_impl_scan_take : Callable Tryd.prog 88 := ⟨_, Tryd.func88, by kernel_rfl, by kernel_rfl⟩
theorem fun_impl_scan_take : Tryd.prog.funcs[F_impl_scan_take]? = some Tryd.f88 := Tryd.func88
theorem tmps_impl_scan_take : Tryd.f88.ntmps = 22 := Tryd.ntmps88
theorem ress_impl_scan_take : Tryd.f88.results = #[.tmp 4] := Tryd.results88
abbrev F_impl_scan_act : FuncId := 89
instance can_impl_scan_act : Callable Tryd.prog 89 := ⟨_, Tryd.func89, by kernel_rfl, by kernel_rfl⟩
theorem fun_impl_scan_act : Tryd.prog.funcs[F_impl_scan_act]? = some Tryd.f89 := Tryd.func89
theorem tmps_impl_scan_act : Tryd.f89.ntmps = 23 := Tryd.ntmps89
theorem ress_impl_scan_act : Tryd.f89.results = #[.tmp 2] := Tryd.results89
abbrev F_impl_scan_name : FuncId := 90
instance can_impl_scan_name : Callable Tryd.prog 90 := ⟨_, Tryd.func90, by kernel_rfl, by kernel_rfl⟩
theorem fun_impl_scan_name : Tryd.prog.funcs[F_impl_scan_name]? = some Tryd.f90 := Tryd.func90
theorem tmps_impl_scan_name : Tryd.f90.ntmps = 28 := Tryd.ntmps90
theorem ress_impl_scan_name : Tryd.f90.results = #[.tmp 2] := Tryd.results90
abbrev F_impl_scan_word : FuncId := 91
instance can_impl_scan_word : Callable Tryd.prog 91 := ⟨_, Tryd.func91, by kernel_rfl, by kernel_rfl⟩
theorem fun_impl_scan_word : Tryd.prog.funcs[F_impl_scan_word]? = some Tryd.f91 := Tryd.func91
theorem tmps_impl_scan_word : Tryd.f91.ntmps = 33 := Tryd.ntmps91
theorem ress_impl_scan_word : Tryd.f91.results = #[.tmp 2] := Tryd.results91
abbrev F_spec_l2Word : FuncId := 92
instance can_spec_l2Word : Callable Tryd.prog 92 := ⟨_, Tryd.func92, by kernel_rfl, by kernel_rfl⟩
theorem fun_spec_l2Word : Tryd.prog.funcs[F_spec_l2Word]? = some Tryd.f92 := Tryd.func92
theorem tmps_spec_l2Word : Tryd.f92.ntmps = 35 := Tryd.ntmps92
theorem ress_spec_l2Word : Tryd.f92.results = #[.tmp 2, .tmp 3] := Tryd.results92
abbrev F_spec_ActRead : FuncId := 93
instance can_spec_ActRead : Callable Tryd.prog 93 := ⟨_, Tryd.func93, by kernel_rfl, by kernel_rfl⟩
theorem fun_spec_ActRead : Tryd.prog.funcs[F_spec_ActRead]? = some Tryd.f93 := Tryd.func93
theorem tmps_spec_ActRead : Tryd.f93.ntmps = 14 := Tryd.ntmps93
theorem ress_spec_ActRead : Tryd.f93.results = #[.tmp 2, .tmp 3] := Tryd.results93
abbrev F_spec_l6Rd_of : FuncId := 94
instance can_spec_l6Rd_of : Callable Tryd.prog 94 := ⟨_, Tryd.func94, by kernel_rfl, by kernel_rfl⟩
theorem fun_spec_l6Rd_of : Tryd.prog.funcs[F_spec_l6Rd_of]? = some Tryd.f94 := Tryd.func94
theorem tmps_spec_l6Rd_of : Tryd.f94.ntmps = 12 := Tryd.ntmps94
theorem ress_spec_l6Rd_of : Tryd.f94.results = #[.tmp 4] := Tryd.results94
abbrev F_spec_l1Name : FuncId := 95
instance can_spec_l1Name : Callable Tryd.prog 95 := ⟨_, Tryd.func95, by kernel_rfl, by kernel_rfl⟩
theorem fun_spec_l1Name : Tryd.prog.funcs[F_spec_l1Name]? = some Tryd.f95 := Tryd.func95
theorem tmps_spec_l1Name : Tryd.f95.ntmps = 8 := Tryd.ntmps95
theorem ress_spec_l1Name : Tryd.f95.results = #[.tmp 2] := Tryd.results95
abbrev F_spec_l91Good : FuncId := 97
instance can_spec_l91Good : Callable Tryd.prog 97 := ⟨_, Tryd.func97, by kernel_rfl, by kernel_rfl⟩
theorem fun_spec_l91Good : Tryd.prog.funcs[F_spec_l91Good]? = some Tryd.f97 := Tryd.func97
theorem tmps_spec_l91Good : Tryd.f97.ntmps = 94 := Tryd.ntmps97
theorem ress_spec_l91Good : Tryd.f97.results = #[.cell 8 29] := Tryd.results97
abbrev F_slices_IndexFunc_impl_Term_impl_Term : FuncId := 98
instance can_slices_IndexFunc_impl_Term_impl_Term : Callable Tryd.prog 98 := ⟨_, Tryd.func98, by kernel_rfl, by kernel_rfl⟩
theorem fun_slices_IndexFunc_impl_Term_impl_Term : Tryd.prog.funcs[F_slices_IndexFunc_impl_Term_impl_Term]? = some Tryd.f98 := Tryd.func98
theorem tmps_slices_IndexFunc_impl_Term_impl_Term : Tryd.f98.ntmps = 19 := Tryd.ntmps98
theorem ress_slices_IndexFunc_impl_Term_impl_Term : Tryd.f98.results = #[.tmp 4] := Tryd.results98
abbrev F_spec_l2Calls : FuncId := 99
instance can_spec_l2Calls : Callable Tryd.prog 99 := ⟨_, Tryd.func99, by kernel_rfl, by kernel_rfl⟩
theorem fun_spec_l2Calls : Tryd.prog.funcs[F_spec_l2Calls]? = some Tryd.f99 := Tryd.func99
theorem tmps_spec_l2Calls : Tryd.f99.ntmps = 38 := Tryd.ntmps99
theorem ress_spec_l2Calls : Tryd.f99.results = #[.tmp 4] := Tryd.results99
abbrev F_spec_l3Less : FuncId := 100
instance can_spec_l3Less : Callable Tryd.prog 100 := ⟨_, Tryd.func100, by kernel_rfl, by kernel_rfl⟩
theorem fun_spec_l3Less : Tryd.prog.funcs[F_spec_l3Less]? = some Tryd.f100 := Tryd.func100
theorem tmps_spec_l3Less : Tryd.f100.ntmps = 24 := Tryd.ntmps100
theorem ress_spec_l3Less : Tryd.f100.results = #[.tmp 4] := Tryd.results100
abbrev F_impl_callsBelow_1 : FuncId := 101
instance can_impl_callsBelow_1 : Callable Tryd.prog 101 := ⟨_, Tryd.func101, by kernel_rfl, by kernel_rfl⟩
theorem fun_impl_callsBelow_1 : Tryd.prog.funcs[F_impl_callsBelow_1]? = some Tryd.f101 := Tryd.func101
theorem tmps_impl_callsBelow_1 : Tryd.f101.ntmps = 8 := Tryd.ntmps101
theorem ress_impl_callsBelow_1 : Tryd.f101.results = #[.tmp 3] := Tryd.results101
abbrev F_slices_SortFunc_impl_Move_impl_Move : FuncId := 102
instance can_slices_SortFunc_impl_Move_impl_Move : Callable Tryd.prog 102 := ⟨_, Tryd.func102, by kernel_rfl, by kernel_rfl⟩
theorem fun_slices_SortFunc_impl_Move_impl_Move : Tryd.prog.funcs[F_slices_SortFunc_impl_Move_impl_Move]? = some Tryd.f102 := Tryd.func102
theorem tmps_slices_SortFunc_impl_Move_impl_Move : Tryd.f102.ntmps = 14 := Tryd.ntmps102
theorem ress_slices_SortFunc_impl_Move_impl_Move : Tryd.f102.results = #[] := Tryd.results102
abbrev F_impl_byMove : FuncId := 103
instance can_impl_byMove : Callable Tryd.prog 103 := ⟨_, Tryd.func103, by kernel_rfl, by kernel_rfl⟩
theorem fun_impl_byMove : Tryd.prog.funcs[F_impl_byMove]? = some Tryd.f103 := Tryd.func103
theorem tmps_impl_byMove : Tryd.f103.ntmps = 19 := Tryd.ntmps103
theorem ress_impl_byMove : Tryd.f103.results = #[.tmp 4] := Tryd.results103
abbrev F_slices_Compact_impl_Move_impl_Move : FuncId := 104
instance can_slices_Compact_impl_Move_impl_Move : Callable Tryd.prog 104 := ⟨_, Tryd.func104, by kernel_rfl, by kernel_rfl⟩
theorem fun_slices_Compact_impl_Move_impl_Move : Tryd.prog.funcs[F_slices_Compact_impl_Move_impl_Move]? = some Tryd.f104 := Tryd.func104
theorem tmps_slices_Compact_impl_Move_impl_Move : Tryd.f104.ntmps = 61 := Tryd.ntmps104
theorem ress_slices_Compact_impl_Move_impl_Move : Tryd.f104.results = #[.tmp 2] := Tryd.results104
abbrev F_laws_eqMove : FuncId := 105
instance can_laws_eqMove : Callable Tryd.prog 105 := ⟨_, Tryd.func105, by kernel_rfl, by kernel_rfl⟩
theorem fun_laws_eqMove : Tryd.prog.funcs[F_laws_eqMove]? = some Tryd.f105 := Tryd.func105
theorem tmps_laws_eqMove : Tryd.f105.ntmps = 15 := Tryd.ntmps105
theorem ress_laws_eqMove : Tryd.f105.results = #[.tmp 4] := Tryd.results105
abbrev F_strings_CutPrefix : FuncId := 106
instance can_strings_CutPrefix : Callable Tryd.prog 106 := ⟨_, Tryd.func106, by kernel_rfl, by kernel_rfl⟩
theorem fun_strings_CutPrefix : Tryd.prog.funcs[F_strings_CutPrefix]? = some Tryd.f106 := Tryd.func106
theorem tmps_strings_CutPrefix : Tryd.f106.ntmps = 11 := Tryd.ntmps106
theorem ress_strings_CutPrefix : Tryd.f106.results = #[.tmp 4, .tmp 5] := Tryd.results106
abbrev F_impl_ActRead : FuncId := 107
instance can_impl_ActRead : Callable Tryd.prog 107 := ⟨_, Tryd.func107, by kernel_rfl, by kernel_rfl⟩
theorem fun_impl_ActRead : Tryd.prog.funcs[F_impl_ActRead]? = some Tryd.f107 := Tryd.func107
theorem tmps_impl_ActRead : Tryd.f107.ntmps = 14 := Tryd.ntmps107
theorem ress_impl_ActRead : Tryd.f107.results = #[.tmp 2, .tmp 3] := Tryd.results107
abbrev F_strings_IndexAny : FuncId := 108
instance can_strings_IndexAny : Callable Tryd.prog 108 := ⟨_, Tryd.func108, by kernel_rfl, by kernel_rfl⟩
theorem fun_strings_IndexAny : Tryd.prog.funcs[F_strings_IndexAny]? = some Tryd.f108 := Tryd.func108
theorem tmps_strings_IndexAny : Tryd.f108.ntmps = 55 := Tryd.ntmps108
theorem ress_strings_IndexAny : Tryd.f108.results = #[.tmp 4] := Tryd.results108
abbrev F_spec_l91Do : FuncId := 110
instance can_spec_l91Do : Callable Tryd.prog 110 := ⟨_, Tryd.func110, by kernel_rfl, by kernel_rfl⟩
theorem fun_spec_l91Do : Tryd.prog.funcs[F_spec_l91Do]? = some Tryd.f110 := Tryd.func110
theorem tmps_spec_l91Do : Tryd.f110.ntmps = 12 := Tryd.ntmps110
theorem ress_spec_l91Do : Tryd.f110.results = #[.tmp 2] := Tryd.results110
abbrev F_slices_pdqsortCmpFunc_impl_Move : FuncId := 111
instance can_slices_pdqsortCmpFunc_impl_Move : Callable Tryd.prog 111 := ⟨_, Tryd.func111, by kernel_rfl, by kernel_rfl⟩
theorem fun_slices_pdqsortCmpFunc_impl_Move : Tryd.prog.funcs[F_slices_pdqsortCmpFunc_impl_Move]? = some Tryd.f111 := Tryd.func111
theorem tmps_slices_pdqsortCmpFunc_impl_Move : Tryd.f111.ntmps = 148 := Tryd.ntmps111
theorem ress_slices_pdqsortCmpFunc_impl_Move : Tryd.f111.results = #[] := Tryd.results111
abbrev F_bits_Len : FuncId := 112
instance can_bits_Len : Callable Tryd.prog 112 := ⟨_, Tryd.func112, by kernel_rfl, by kernel_rfl⟩
theorem fun_bits_Len : Tryd.prog.funcs[F_bits_Len]? = some Tryd.f112 := Tryd.func112
theorem tmps_bits_Len : Tryd.f112.ntmps = 8 := Tryd.ntmps112
theorem ress_bits_Len : Tryd.f112.results = #[.tmp 2] := Tryd.results112
abbrev F_cmp_Compare_int : FuncId := 113
instance can_cmp_Compare_int : Callable Tryd.prog 113 := ⟨_, Tryd.func113, by kernel_rfl, by kernel_rfl⟩
theorem fun_cmp_Compare_int : Tryd.prog.funcs[F_cmp_Compare_int]? = some Tryd.f113 := Tryd.func113
theorem tmps_cmp_Compare_int : Tryd.f113.ntmps = 20 := Tryd.ntmps113
theorem ress_cmp_Compare_int : Tryd.f113.results = #[.tmp 4] := Tryd.results113
abbrev F_strings_IndexRune : FuncId := 115
instance can_strings_IndexRune : Callable Tryd.prog 115 := ⟨_, Tryd.func115, by kernel_rfl, by kernel_rfl⟩
theorem fun_strings_IndexRune : Tryd.prog.funcs[F_strings_IndexRune]? = some Tryd.f115 := Tryd.func115
theorem tmps_strings_IndexRune : Tryd.f115.ntmps = 187 := Tryd.ntmps115
theorem ress_strings_IndexRune : Tryd.f115.results = #[.tmp 4] := Tryd.results115
abbrev F_strings_shouldUseASCIISet : FuncId := 116
instance can_strings_shouldUseASCIISet : Callable Tryd.prog 116 := ⟨_, Tryd.func116, by kernel_rfl, by kernel_rfl⟩
theorem fun_strings_shouldUseASCIISet : Tryd.prog.funcs[F_strings_shouldUseASCIISet]? = some Tryd.f116 := Tryd.func116
theorem tmps_strings_shouldUseASCIISet : Tryd.f116.ntmps = 5 := Tryd.ntmps116
theorem ress_strings_shouldUseASCIISet : Tryd.f116.results = #[.tmp 2] := Tryd.results116
abbrev F_strings_makeASCIISet : FuncId := 117
instance can_strings_makeASCIISet : Callable Tryd.prog 117 := ⟨_, Tryd.func117, by kernel_rfl, by kernel_rfl⟩
theorem fun_strings_makeASCIISet : Tryd.prog.funcs[F_strings_makeASCIISet]? = some Tryd.f117 := Tryd.func117
theorem tmps_strings_makeASCIISet : Tryd.f117.ntmps = 21 := Tryd.ntmps117
theorem ress_strings_makeASCIISet : Tryd.f117.results = #[.cell 2 126, .tmp 3] := Tryd.results117
abbrev F_strings_asciiSet_contains : FuncId := 118
instance can_strings_asciiSet_contains : Callable Tryd.prog 118 := ⟨_, Tryd.func118, by kernel_rfl, by kernel_rfl⟩
theorem fun_strings_asciiSet_contains : Tryd.prog.funcs[F_strings_asciiSet_contains]? = some Tryd.f118 := Tryd.func118
theorem tmps_strings_asciiSet_contains : Tryd.f118.ntmps = 10 := Tryd.ntmps118
theorem ress_strings_asciiSet_contains : Tryd.f118.results = #[.tmp 4] := Tryd.results118
abbrev F_slices_insertionSortCmpFunc_impl_Move : FuncId := 123
instance can_slices_insertionSortCmpFunc_impl_Move : Callable Tryd.prog 123 := ⟨_, Tryd.func123, by kernel_rfl, by kernel_rfl⟩
theorem fun_slices_insertionSortCmpFunc_impl_Move : Tryd.prog.funcs[F_slices_insertionSortCmpFunc_impl_Move]? = some Tryd.f123 := Tryd.func123
theorem tmps_slices_insertionSortCmpFunc_impl_Move : Tryd.f123.ntmps = 53 := Tryd.ntmps123
theorem ress_slices_insertionSortCmpFunc_impl_Move : Tryd.f123.results = #[] := Tryd.results123
abbrev F_slices_heapSortCmpFunc_impl_Move : FuncId := 124
instance can_slices_heapSortCmpFunc_impl_Move : Callable Tryd.prog 124 := ⟨_, Tryd.func124, by kernel_rfl, by kernel_rfl⟩
theorem fun_slices_heapSortCmpFunc_impl_Move : Tryd.prog.funcs[F_slices_heapSortCmpFunc_impl_Move]? = some Tryd.f124 := Tryd.func124
theorem tmps_slices_heapSortCmpFunc_impl_Move : Tryd.f124.ntmps = 60 := Tryd.ntmps124
theorem ress_slices_heapSortCmpFunc_impl_Move : Tryd.f124.results = #[] := Tryd.results124
abbrev F_slices_breakPatternsCmpFunc_impl_Move : FuncId := 125
instance can_slices_breakPatternsCmpFunc_impl_Move : Callable Tryd.prog 125 := ⟨_, Tryd.func125, by kernel_rfl, by kernel_rfl⟩
theorem fun_slices_breakPatternsCmpFunc_impl_Move : Tryd.prog.funcs[F_slices_breakPatternsCmpFunc_impl_Move]? = some Tryd.f125 := Tryd.func125
theorem tmps_slices_breakPatternsCmpFunc_impl_Move : Tryd.f125.ntmps = 67 := Tryd.ntmps125
theorem ress_slices_breakPatternsCmpFunc_impl_Move : Tryd.f125.results = #[] := Tryd.results125
abbrev F_slices_choosePivotCmpFunc_impl_Move : FuncId := 126
instance can_slices_choosePivotCmpFunc_impl_Move : Callable Tryd.prog 126 := ⟨_, Tryd.func126, by kernel_rfl, by kernel_rfl⟩
theorem fun_slices_choosePivotCmpFunc_impl_Move : Tryd.prog.funcs[F_slices_choosePivotCmpFunc_impl_Move]? = some Tryd.f126 := Tryd.func126
theorem tmps_slices_choosePivotCmpFunc_impl_Move : Tryd.f126.ntmps = 63 := Tryd.ntmps126
theorem ress_slices_choosePivotCmpFunc_impl_Move : Tryd.f126.results = #[.tmp 8, .tmp 9] := Tryd.results126
abbrev F_slices_reverseRangeCmpFunc_impl_Move : FuncId := 127
instance can_slices_reverseRangeCmpFunc_impl_Move : Callable Tryd.prog 127 := ⟨_, Tryd.func127, by kernel_rfl, by kernel_rfl⟩
theorem fun_slices_reverseRangeCmpFunc_impl_Move : Tryd.prog.funcs[F_slices_reverseRangeCmpFunc_impl_Move]? = some Tryd.f127 := Tryd.func127
theorem tmps_slices_reverseRangeCmpFunc_impl_Move : Tryd.f127.ntmps = 34 := Tryd.ntmps127
theorem ress_slices_reverseRangeCmpFunc_impl_Move : Tryd.f127.results = #[] := Tryd.results127
abbrev F_slices_partialInsertionSortCmpFunc_impl_Move : FuncId := 128
instance can_slices_partialInsertionSortCmpFunc_impl_Move : Callable Tryd.prog 128 := ⟨_, Tryd.func128, by kernel_rfl, by kernel_rfl⟩
theorem fun_slices_partialInsertionSortCmpFunc_impl_Move : Tryd.prog.funcs[F_slices_partialInsertionSortCmpFunc_impl_Move]? = some Tryd.f128 := Tryd.func128
theorem tmps_slices_partialInsertionSortCmpFunc_impl_Move : Tryd.f128.ntmps = 141 := Tryd.ntmps128
theorem ress_slices_partialInsertionSortCmpFunc_impl_Move : Tryd.f128.results = #[.tmp 8] := Tryd.results128
abbrev F_slices_partitionEqualCmpFunc_impl_Move : FuncId := 129
instance can_slices_partitionEqualCmpFunc_impl_Move : Callable Tryd.prog 129 := ⟨_, Tryd.func129, by kernel_rfl, by kernel_rfl⟩
theorem fun_slices_partitionEqualCmpFunc_impl_Move : Tryd.prog.funcs[F_slices_partitionEqualCmpFunc_impl_Move]? = some Tryd.f129 := Tryd.func129
theorem tmps_slices_partitionEqualCmpFunc_impl_Move : Tryd.f129.ntmps = 90 := Tryd.ntmps129
theorem ress_slices_partitionEqualCmpFunc_impl_Move : Tryd.f129.results = #[.tmp 10] := Tryd.results129
abbrev F_slices_partitionCmpFunc_impl_Move : FuncId := 130
instance can_slices_partitionCmpFunc_impl_Move : Callable Tryd.prog 130 := ⟨_, Tryd.func130, by kernel_rfl, by kernel_rfl⟩
theorem fun_slices_partitionCmpFunc_impl_Move : Tryd.prog.funcs[F_slices_partitionCmpFunc_impl_Move]? = some Tryd.f130 := Tryd.func130
theorem tmps_slices_partitionCmpFunc_impl_Move : Tryd.f130.ntmps = 178 := Tryd.ntmps130
theorem ress_slices_partitionCmpFunc_impl_Move : Tryd.f130.results = #[.tmp 10, .tmp 11] := Tryd.results130
abbrev F_bits_Len32 : FuncId := 131
instance can_bits_Len32 : Callable Tryd.prog 131 := ⟨_, Tryd.func131, by kernel_rfl, by kernel_rfl⟩
theorem fun_bits_Len32 : Tryd.prog.funcs[F_bits_Len32]? = some Tryd.f131 := Tryd.func131
theorem tmps_bits_Len32 : Tryd.f131.ntmps = 19 := Tryd.ntmps131
theorem ress_bits_Len32 : Tryd.f131.results = #[.tmp 2] := Tryd.results131
abbrev F_bits_Len64 : FuncId := 132
instance can_bits_Len64 : Callable Tryd.prog 132 := ⟨_, Tryd.func132, by kernel_rfl, by kernel_rfl⟩
theorem fun_bits_Len64 : Tryd.prog.funcs[F_bits_Len64]? = some Tryd.f132 := Tryd.func132
theorem tmps_bits_Len64 : Tryd.f132.ntmps = 25 := Tryd.ntmps132
theorem ress_bits_Len64 : Tryd.f132.results = #[.tmp 2] := Tryd.results132
abbrev F_cmp_isNaN_int : FuncId := 133
instance can_cmp_isNaN_int : Callable Tryd.prog 133 := ⟨_, Tryd.func133, by kernel_rfl, by kernel_rfl⟩
theorem fun_cmp_isNaN_int : Tryd.prog.funcs[F_cmp_isNaN_int]? = some Tryd.f133 := Tryd.func133
theorem tmps_cmp_isNaN_int : Tryd.f133.ntmps = 6 := Tryd.ntmps133
theorem ress_cmp_isNaN_int : Tryd.f133.results = #[.tmp 2] := Tryd.results133
abbrev F_strings_IndexByte : FuncId := 135
instance can_strings_IndexByte : Callable Tryd.prog 135 := ⟨_, Tryd.func135, by kernel_rfl, by kernel_rfl⟩
theorem fun_strings_IndexByte : Tryd.prog.funcs[F_strings_IndexByte]? = some Tryd.f135 := Tryd.func135
theorem tmps_strings_IndexByte : Tryd.f135.ntmps = 8 := Tryd.ntmps135
theorem ress_strings_IndexByte : Tryd.f135.results = #[.tmp 4] := Tryd.results135
abbrev F_utf8_ValidRune : FuncId := 136
instance can_utf8_ValidRune : Callable Tryd.prog 136 := ⟨_, Tryd.func136, by kernel_rfl, by kernel_rfl⟩
theorem fun_utf8_ValidRune : Tryd.prog.funcs[F_utf8_ValidRune]? = some Tryd.f136 := Tryd.func136
theorem tmps_utf8_ValidRune : Tryd.f136.ntmps = 17 := Tryd.ntmps136
theorem ress_utf8_ValidRune : Tryd.f136.results = #[.tmp 2] := Tryd.results136
abbrev F_bits_TrailingZeros : FuncId := 142
instance can_bits_TrailingZeros : Callable Tryd.prog 142 := ⟨_, Tryd.func142, by kernel_rfl, by kernel_rfl⟩
theorem fun_bits_TrailingZeros : Tryd.prog.funcs[F_bits_TrailingZeros]? = some Tryd.f142 := Tryd.func142
theorem tmps_bits_TrailingZeros : Tryd.f142.ntmps = 8 := Tryd.ntmps142
theorem ress_bits_TrailingZeros : Tryd.f142.results = #[.tmp 2] := Tryd.results142
abbrev F_slices_siftDownCmpFunc_impl_Move : FuncId := 143
instance can_slices_siftDownCmpFunc_impl_Move : Callable Tryd.prog 143 := ⟨_, Tryd.func143, by kernel_rfl, by kernel_rfl⟩
theorem fun_slices_siftDownCmpFunc_impl_Move : Tryd.prog.funcs[F_slices_siftDownCmpFunc_impl_Move]? = some Tryd.f143 := Tryd.func143
theorem tmps_slices_siftDownCmpFunc_impl_Move : Tryd.f143.ntmps = 82 := Tryd.ntmps143
theorem ress_slices_siftDownCmpFunc_impl_Move : Tryd.f143.results = #[] := Tryd.results143
abbrev F_slices_nextPowerOfTwo : FuncId := 144
instance can_slices_nextPowerOfTwo : Callable Tryd.prog 144 := ⟨_, Tryd.func144, by kernel_rfl, by kernel_rfl⟩
theorem fun_slices_nextPowerOfTwo : Tryd.prog.funcs[F_slices_nextPowerOfTwo]? = some Tryd.f144 := Tryd.func144
theorem tmps_slices_nextPowerOfTwo : Tryd.f144.ntmps = 7 := Tryd.ntmps144
theorem ress_slices_nextPowerOfTwo : Tryd.f144.results = #[.tmp 2] := Tryd.results144
abbrev F_slices_xorshift_Next : FuncId := 145
instance can_slices_xorshift_Next : Callable Tryd.prog 145 := ⟨_, Tryd.func145, by kernel_rfl, by kernel_rfl⟩
theorem fun_slices_xorshift_Next : Tryd.prog.funcs[F_slices_xorshift_Next]? = some Tryd.f145 := Tryd.func145
theorem tmps_slices_xorshift_Next : Tryd.f145.ntmps = 33 := Tryd.ntmps145
theorem ress_slices_xorshift_Next : Tryd.f145.results = #[.tmp 2] := Tryd.results145
abbrev F_slices_medianAdjacentCmpFunc_impl_Move : FuncId := 146
instance can_slices_medianAdjacentCmpFunc_impl_Move : Callable Tryd.prog 146 := ⟨_, Tryd.func146, by kernel_rfl, by kernel_rfl⟩
theorem fun_slices_medianAdjacentCmpFunc_impl_Move : Tryd.prog.funcs[F_slices_medianAdjacentCmpFunc_impl_Move]? = some Tryd.f146 := Tryd.func146
theorem tmps_slices_medianAdjacentCmpFunc_impl_Move : Tryd.f146.ntmps = 18 := Tryd.ntmps146
theorem ress_slices_medianAdjacentCmpFunc_impl_Move : Tryd.f146.results = #[.tmp 8] := Tryd.results146
abbrev F_slices_medianCmpFunc_impl_Move : FuncId := 147
instance can_slices_medianCmpFunc_impl_Move : Callable Tryd.prog 147 := ⟨_, Tryd.func147, by kernel_rfl, by kernel_rfl⟩
theorem fun_slices_medianCmpFunc_impl_Move : Tryd.prog.funcs[F_slices_medianCmpFunc_impl_Move]? = some Tryd.f147 := Tryd.func147
theorem tmps_slices_medianCmpFunc_impl_Move : Tryd.f147.ntmps = 41 := Tryd.ntmps147
theorem ress_slices_medianCmpFunc_impl_Move : Tryd.f147.results = #[.tmp 12] := Tryd.results147
abbrev F_bits_TrailingZeros32 : FuncId := 149
instance can_bits_TrailingZeros32 : Callable Tryd.prog 149 := ⟨_, Tryd.func149, by kernel_rfl, by kernel_rfl⟩
theorem fun_bits_TrailingZeros32 : Tryd.prog.funcs[F_bits_TrailingZeros32]? = some Tryd.f149 := Tryd.func149
theorem tmps_bits_TrailingZeros32 : Tryd.f149.ntmps = 14 := Tryd.ntmps149
theorem ress_bits_TrailingZeros32 : Tryd.f149.results = #[.tmp 2] := Tryd.results149
abbrev F_bits_TrailingZeros64 : FuncId := 150
instance can_bits_TrailingZeros64 : Callable Tryd.prog 150 := ⟨_, Tryd.func150, by kernel_rfl, by kernel_rfl⟩
theorem fun_bits_TrailingZeros64 : Tryd.prog.funcs[F_bits_TrailingZeros64]? = some Tryd.f150 := Tryd.func150
theorem tmps_bits_TrailingZeros64 : Tryd.f150.ntmps = 14 := Tryd.ntmps150
theorem ress_bits_TrailingZeros64 : Tryd.f150.results = #[.tmp 2] := Tryd.results150
abbrev F_slices_order2CmpFunc_impl_Move : FuncId := 151
instance can_slices_order2CmpFunc_impl_Move : Callable Tryd.prog 151 := ⟨_, Tryd.func151, by kernel_rfl, by kernel_rfl⟩
theorem fun_slices_order2CmpFunc_impl_Move : Tryd.prog.funcs[F_slices_order2CmpFunc_impl_Move]? = some Tryd.f151 := Tryd.func151
theorem tmps_slices_order2CmpFunc_impl_Move : Tryd.f151.ntmps = 32 := Tryd.ntmps151
theorem ress_slices_order2CmpFunc_impl_Move : Tryd.f151.results = #[.tmp 10, .tmp 11] := Tryd.results151
abbrev F_gosem_cut_vars : FuncId := 174
instance can_gosem_cut_vars : Callable Tryd.prog 174 := ⟨_, Tryd.func174, by kernel_rfl, by kernel_rfl⟩
theorem fun_gosem_cut_vars : Tryd.prog.funcs[F_gosem_cut_vars]? = some Tryd.f174 := Tryd.func174
theorem tmps_gosem_cut_vars : Tryd.f174.ntmps = 3 := Tryd.ntmps174
theorem ress_gosem_cut_vars : Tryd.f174.results = #[] := Tryd.results174
theorem mixed_ : Tryd.prog.follows .mixedOrders = true := by kernel_rfl
end Go.Proofs.YtpkgcdpebomalaaDoor.Asl
