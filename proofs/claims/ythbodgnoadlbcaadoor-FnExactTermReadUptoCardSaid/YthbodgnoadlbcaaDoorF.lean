/- Facts on the translation's types and functions, by name. Written by a program of this session. -/
import Derived.Test.YthbodgnoadlbcaaDoorProg
import Derived.Test.YthbodgnoadlbcaaDoorB6
namespace Go.Proofs.YthbodgnoadlbcaaDoor.Asl
open Go.RowKit
set_option linter.unusedVariables false
abbrev T_func1 : TypeId := 1
instance ty_func1 : Ty Tryd.prog 1 false 1 8 (.nilFunc) := ⟨by kernel_rfl, by kernel_rfl⟩
abbrev T_int64 : TypeId := 2
instance ty_int64 : Ty Tryd.prog 2 false 1 8 (.int .i64 0) := ⟨by kernel_rfl, by kernel_rfl⟩
instance un_int64 : Un Tryd.prog 2 (.int .i64) := ⟨by kernel_rfl⟩
abbrev T_int : TypeId := 3
instance ty_int : Ty Tryd.prog 3 false 1 8 (.int .i64 0) := ⟨by kernel_rfl, by kernel_rfl⟩
instance un_int : Un Tryd.prog 3 (.int .i64) := ⟨by kernel_rfl⟩
abbrev T_bool : TypeId := 4
instance ty_bool : Ty Tryd.prog 4 false 1 1 (.bool false) := ⟨by kernel_rfl, by kernel_rfl⟩
instance un_bool : Un Tryd.prog 4 (.bool) := ⟨by kernel_rfl⟩
abbrev T_uint8 : TypeId := 5
instance ty_uint8 : Ty Tryd.prog 5 false 1 1 (.int .u8 0) := ⟨by kernel_rfl, by kernel_rfl⟩
instance un_uint8 : Un Tryd.prog 5 (.int .u8) := ⟨by kernel_rfl⟩
abbrev T_string : TypeId := 9
instance ty_string : Ty Tryd.prog 9 false 1 16 (.string ⟨#[]⟩) := ⟨by kernel_rfl, by kernel_rfl⟩
instance un_string : Un Tryd.prog 9 (.string) := ⟨by kernel_rfl⟩
abbrev T_int32 : TypeId := 21
instance ty_int32 : Ty Tryd.prog 21 false 1 4 (.int .i32 0) := ⟨by kernel_rfl, by kernel_rfl⟩
instance un_int32 : Un Tryd.prog 21 (.int .i32) := ⟨by kernel_rfl⟩
abbrev T_s_uint8 : TypeId := 22
instance ty_s_uint8 : Ty Tryd.prog 22 false 1 24 (.slice none 0 0) := ⟨by kernel_rfl, by kernel_rfl⟩
instance un_s_uint8 : Un Tryd.prog 22 (.slice 5) := ⟨by kernel_rfl⟩
abbrev T_s_impl_Term : TypeId := 23
instance ty_s_impl_Term : Ty Tryd.prog 23 false 1 24 (.slice none 0 0) := ⟨by kernel_rfl, by kernel_rfl⟩
instance un_s_impl_Term : Un Tryd.prog 23 (.slice 25) := ⟨by kernel_rfl⟩
abbrev T_impl_Term : TypeId := 25
instance ty_impl_Term : Ty Tryd.prog 25 true 3 40 (.agg #[(.int .i64 0), (.int .i64 0), (.slice none 0 0)]) := ⟨by kernel_rfl, by kernel_rfl⟩
abbrev T_func26 : TypeId := 26
instance ty_func26 : Ty Tryd.prog 26 false 1 8 (.nilFunc) := ⟨by kernel_rfl, by kernel_rfl⟩
abbrev T_func27 : TypeId := 27
instance ty_func27 : Ty Tryd.prog 27 false 1 8 (.nilFunc) := ⟨by kernel_rfl, by kernel_rfl⟩
abbrev T_func28 : TypeId := 28
instance ty_func28 : Ty Tryd.prog 28 false 1 8 (.nilFunc) := ⟨by kernel_rfl, by kernel_rfl⟩
abbrev T_func30 : TypeId := 30
instance ty_func30 : Ty Tryd.prog 30 false 1 8 (.nilFunc) := ⟨by kernel_rfl, by kernel_rfl⟩
abbrev T_func31 : TypeId := 31
instance ty_func31 : Ty Tryd.prog 31 false 1 8 (.nilFunc) := ⟨by kernel_rfl, by kernel_rfl⟩
abbrev T_func32 : TypeId := 32
instance ty_func32 : Ty Tryd.prog 32 false 1 8 (.nilFunc) := ⟨by kernel_rfl, by kernel_rfl⟩
abbrev T_func33 : TypeId := 33
instance ty_func33 : Ty Tryd.prog 33 false 1 8 (.nilFunc) := ⟨by kernel_rfl, by kernel_rfl⟩
abbrev T_func34 : TypeId := 34
instance ty_func34 : Ty Tryd.prog 34 false 1 8 (.nilFunc) := ⟨by kernel_rfl, by kernel_rfl⟩
abbrev T_func35 : TypeId := 35
instance ty_func35 : Ty Tryd.prog 35 false 1 8 (.nilFunc) := ⟨by kernel_rfl, by kernel_rfl⟩
abbrev T_p_spec_l6Rd : TypeId := 36
instance ty_p_spec_l6Rd : Ty Tryd.prog 36 false 1 8 (.pointer none) := ⟨by kernel_rfl, by kernel_rfl⟩
instance un_p_spec_l6Rd : Un Tryd.prog 36 (.pointer 53) := ⟨by kernel_rfl⟩
abbrev T_func37 : TypeId := 37
instance ty_func37 : Ty Tryd.prog 37 false 1 8 (.nilFunc) := ⟨by kernel_rfl, by kernel_rfl⟩
abbrev T_func39 : TypeId := 39
instance ty_func39 : Ty Tryd.prog 39 false 1 8 (.nilFunc) := ⟨by kernel_rfl, by kernel_rfl⟩
abbrev T_func40 : TypeId := 40
instance ty_func40 : Ty Tryd.prog 40 false 1 8 (.nilFunc) := ⟨by kernel_rfl, by kernel_rfl⟩
abbrev T_func41 : TypeId := 41
instance ty_func41 : Ty Tryd.prog 41 false 1 8 (.nilFunc) := ⟨by kernel_rfl, by kernel_rfl⟩
abbrev T_p_impl_scan : TypeId := 42
instance ty_p_impl_scan : Ty Tryd.prog 42 false 1 8 (.pointer none) := ⟨by kernel_rfl, by kernel_rfl⟩
instance un_p_impl_scan : Un Tryd.prog 42 (.pointer 44) := ⟨by kernel_rfl⟩
abbrev T_impl_scan : TypeId := 44
instance ty_impl_scan : Ty Tryd.prog 44 true 3 32 (.agg #[(.string ⟨#[]⟩), (.int .i64 0), (.bool false)]) := ⟨by kernel_rfl, by kernel_rfl⟩
abbrev T_func45 : TypeId := 45
instance ty_func45 : Ty Tryd.prog 45 false 1 8 (.nilFunc) := ⟨by kernel_rfl, by kernel_rfl⟩
abbrev T_func46 : TypeId := 46
instance ty_func46 : Ty Tryd.prog 46 false 1 8 (.nilFunc) := ⟨by kernel_rfl, by kernel_rfl⟩
abbrev T_func48 : TypeId := 48
instance ty_func48 : Ty Tryd.prog 48 false 1 8 (.nilFunc) := ⟨by kernel_rfl, by kernel_rfl⟩
abbrev T_func49 : TypeId := 49
instance ty_func49 : Ty Tryd.prog 49 false 1 8 (.nilFunc) := ⟨by kernel_rfl, by kernel_rfl⟩
abbrev T_func50 : TypeId := 50
instance ty_func50 : Ty Tryd.prog 50 false 1 8 (.nilFunc) := ⟨by kernel_rfl, by kernel_rfl⟩
abbrev T_func51 : TypeId := 51
instance ty_func51 : Ty Tryd.prog 51 false 1 8 (.nilFunc) := ⟨by kernel_rfl, by kernel_rfl⟩
abbrev T_spec_l6Rd : TypeId := 53
instance ty_spec_l6Rd : Ty Tryd.prog 53 true 2 32 (.agg #[(.slice none 0 0), (.int .i64 0)]) := ⟨by kernel_rfl, by kernel_rfl⟩
abbrev T_func54 : TypeId := 54
instance ty_func54 : Ty Tryd.prog 54 false 1 8 (.nilFunc) := ⟨by kernel_rfl, by kernel_rfl⟩
abbrev T_func55 : TypeId := 55
instance ty_func55 : Ty Tryd.prog 55 false 1 8 (.nilFunc) := ⟨by kernel_rfl, by kernel_rfl⟩
abbrev T_func56 : TypeId := 56
instance ty_func56 : Ty Tryd.prog 56 false 1 8 (.nilFunc) := ⟨by kernel_rfl, by kernel_rfl⟩
abbrev T_func57 : TypeId := 57
instance ty_func57 : Ty Tryd.prog 57 false 1 8 (.nilFunc) := ⟨by kernel_rfl, by kernel_rfl⟩
abbrev T_func58 : TypeId := 58
instance ty_func58 : Ty Tryd.prog 58 false 1 8 (.nilFunc) := ⟨by kernel_rfl, by kernel_rfl⟩
abbrev T_func59 : TypeId := 59
instance ty_func59 : Ty Tryd.prog 59 false 1 8 (.nilFunc) := ⟨by kernel_rfl, by kernel_rfl⟩
abbrev T_func60 : TypeId := 60
instance ty_func60 : Ty Tryd.prog 60 false 1 8 (.nilFunc) := ⟨by kernel_rfl, by kernel_rfl⟩
abbrev T_func61 : TypeId := 61
instance ty_func61 : Ty Tryd.prog 61 false 1 8 (.nilFunc) := ⟨by kernel_rfl, by kernel_rfl⟩
abbrev T_func62 : TypeId := 62
instance ty_func62 : Ty Tryd.prog 62 false 1 8 (.nilFunc) := ⟨by kernel_rfl, by kernel_rfl⟩
abbrev T_func64 : TypeId := 64
instance ty_func64 : Ty Tryd.prog 64 false 1 8 (.nilFunc) := ⟨by kernel_rfl, by kernel_rfl⟩
abbrev T_s_string : TypeId := 65
instance ty_s_string : Ty Tryd.prog 65 false 1 24 (.slice none 0 0) := ⟨by kernel_rfl, by kernel_rfl⟩
instance un_s_string : Un Tryd.prog 65 (.slice 9) := ⟨by kernel_rfl⟩
abbrev T_func66 : TypeId := 66
instance ty_func66 : Ty Tryd.prog 66 false 1 8 (.nilFunc) := ⟨by kernel_rfl, by kernel_rfl⟩
abbrev T_func68 : TypeId := 68
instance ty_func68 : Ty Tryd.prog 68 false 1 8 (.nilFunc) := ⟨by kernel_rfl, by kernel_rfl⟩
abbrev T_func69 : TypeId := 69
instance ty_func69 : Ty Tryd.prog 69 false 1 8 (.nilFunc) := ⟨by kernel_rfl, by kernel_rfl⟩
abbrev T_func70 : TypeId := 70
instance ty_func70 : Ty Tryd.prog 70 false 1 8 (.nilFunc) := ⟨by kernel_rfl, by kernel_rfl⟩
abbrev T_func71 : TypeId := 71
instance ty_func71 : Ty Tryd.prog 71 false 1 8 (.nilFunc) := ⟨by kernel_rfl, by kernel_rfl⟩
abbrev T_func73 : TypeId := 73
instance ty_func73 : Ty Tryd.prog 73 false 1 8 (.nilFunc) := ⟨by kernel_rfl, by kernel_rfl⟩
abbrev T_func74 : TypeId := 74
instance ty_func74 : Ty Tryd.prog 74 false 1 8 (.nilFunc) := ⟨by kernel_rfl, by kernel_rfl⟩
abbrev T_func75 : TypeId := 75
instance ty_func75 : Ty Tryd.prog 75 false 1 8 (.nilFunc) := ⟨by kernel_rfl, by kernel_rfl⟩
abbrev T_func76 : TypeId := 76
instance ty_func76 : Ty Tryd.prog 76 false 1 8 (.nilFunc) := ⟨by kernel_rfl, by kernel_rfl⟩
abbrev T_func77 : TypeId := 77
instance ty_func77 : Ty Tryd.prog 77 false 1 8 (.nilFunc) := ⟨by kernel_rfl, by kernel_rfl⟩
abbrev T_a256_bool : TypeId := 78
instance ty_a256_bool : Ty Tryd.prog 78 true 256 256 (.agg #[(.bool false), (.bool false), (.bool false), (.bool false), (.bool false), (.bool false), (.bool false), (.bool false), (.bool false), (.bool false), (.bool false), (.bool false), (.bool false), (.bool false), (.bool false), (.bool false), (.bool false), (.bool false), (.bool false), (.bool false), (.bool false), (.bool false), (.bool false), (.bool false), (.bool false), (.bool false), (.bool false), (.bool false), (.bool false), (.bool false), (.bool false), (.bool false), (.bool false), (.bool false), (.bool false), (.bool false), (.bool false), (.bool false), (.bool false), (.bool false), (.bool false), (.bool false), (.bool false), (.bool false), (.bool false), (.bool false), (.bool false), (.bool false), (.bool false), (.bool false), (.bool false), (.bool false), (.bool false), (.bool false), (.bool false), (.bool false), (.bool false), (.bool false), (.bool false), (.bool false), (.bool false), (.bool false), (.bool false), (.bool false), (.bool false), (.bool false), (.bool false), (.bool false), (.bool false), (.bool false), (.bool false), (.bool false), (.bool false), (.bool false), (.bool false), (.bool false), (.bool false), (.bool false), (.bool false), (.bool false), (.bool false), (.bool false), (.bool false), (.bool false), (.bool false), (.bool false), (.bool false), (.bool false), (.bool false), (.bool false), (.bool false), (.bool false), (.bool false), (.bool false), (.bool false), (.bool false), (.bool false), (.bool false), (.bool false), (.bool false), (.bool false), (.bool false), (.bool false), (.bool false), (.bool false), (.bool false), (.bool false), (.bool false), (.bool false), (.bool false), (.bool false), (.bool false), (.bool false), (.bool false), (.bool false), (.bool false), (.bool false), (.bool false), (.bool false), (.bool false), (.bool false), (.bool false), (.bool false), (.bool false), (.bool false), (.bool false), (.bool false), (.bool false), (.bool false), (.bool false), (.bool false), (.bool false), (.bool false), (.bool false), (.bool false), (.bool false), (.bool false), (.bool false), (.bool false), (.bool false), (.bool false), (.bool false), (.bool false), (.bool false), (.bool false), (.bool false), (.bool false), (.bool false), (.bool false), (.bool false), (.bool false), (.bool false), (.bool false), (.bool false), (.bool false), (.bool false), (.bool false), (.bool false), (.bool false), (.bool false), (.bool false), (.bool false), (.bool false), (.bool false), (.bool false), (.bool false), (.bool false), (.bool false), (.bool false), (.bool false), (.bool false), (.bool false), (.bool false), (.bool false), (.bool false), (.bool false), (.bool false), (.bool false), (.bool false), (.bool false), (.bool false), (.bool false), (.bool false), (.bool false), (.bool false), (.bool false), (.bool false), (.bool false), (.bool false), (.bool false), (.bool false), (.bool false), (.bool false), (.bool false), (.bool false), (.bool false), (.bool false), (.bool false), (.bool false), (.bool false), (.bool false), (.bool false), (.bool false), (.bool false), (.bool false), (.bool false), (.bool false), (.bool false), (.bool false), (.bool false), (.bool false), (.bool false), (.bool false), (.bool false), (.bool false), (.bool false), (.bool false), (.bool false), (.bool false), (.bool false), (.bool false), (.bool false), (.bool false), (.bool false), (.bool false), (.bool false), (.bool false), (.bool false), (.bool false), (.bool false), (.bool false), (.bool false), (.bool false), (.bool false), (.bool false), (.bool false), (.bool false), (.bool false), (.bool false), (.bool false), (.bool false), (.bool false), (.bool false), (.bool false), (.bool false), (.bool false), (.bool false), (.bool false), (.bool false), (.bool false), (.bool false), (.bool false), (.bool false), (.bool false), (.bool false), (.bool false)]) := ⟨by kernel_rfl, by kernel_rfl⟩
instance un_a256_bool : Un Tryd.prog 78 (.array 256 4) := ⟨by kernel_rfl⟩
abbrev T_strings_asciiSet : TypeId := 79
instance ty_strings_asciiSet : Ty Tryd.prog 79 true 256 256 (.agg #[(.bool false), (.bool false), (.bool false), (.bool false), (.bool false), (.bool false), (.bool false), (.bool false), (.bool false), (.bool false), (.bool false), (.bool false), (.bool false), (.bool false), (.bool false), (.bool false), (.bool false), (.bool false), (.bool false), (.bool false), (.bool false), (.bool false), (.bool false), (.bool false), (.bool false), (.bool false), (.bool false), (.bool false), (.bool false), (.bool false), (.bool false), (.bool false), (.bool false), (.bool false), (.bool false), (.bool false), (.bool false), (.bool false), (.bool false), (.bool false), (.bool false), (.bool false), (.bool false), (.bool false), (.bool false), (.bool false), (.bool false), (.bool false), (.bool false), (.bool false), (.bool false), (.bool false), (.bool false), (.bool false), (.bool false), (.bool false), (.bool false), (.bool false), (.bool false), (.bool false), (.bool false), (.bool false), (.bool false), (.bool false), (.bool false), (.bool false), (.bool false), (.bool false), (.bool false), (.bool false), (.bool false), (.bool false), (.bool false), (.bool false), (.bool false), (.bool false), (.bool false), (.bool false), (.bool false), (.bool false), (.bool false), (.bool false), (.bool false), (.bool false), (.bool false), (.bool false), (.bool false), (.bool false), (.bool false), (.bool false), (.bool false), (.bool false), (.bool false), (.bool false), (.bool false), (.bool false), (.bool false), (.bool false), (.bool false), (.bool false), (.bool false), (.bool false), (.bool false), (.bool false), (.bool false), (.bool false), (.bool false), (.bool false), (.bool false), (.bool false), (.bool false), (.bool false), (.bool false), (.bool false), (.bool false), (.bool false), (.bool false), (.bool false), (.bool false), (.bool false), (.bool false), (.bool false), (.bool false), (.bool false), (.bool false), (.bool false), (.bool false), (.bool false), (.bool false), (.bool false), (.bool false), (.bool false), (.bool false), (.bool false), (.bool false), (.bool false), (.bool false), (.bool false), (.bool false), (.bool false), (.bool false), (.bool false), (.bool false), (.bool false), (.bool false), (.bool false), (.bool false), (.bool false), (.bool false), (.bool false), (.bool false), (.bool false), (.bool false), (.bool false), (.bool false), (.bool false), (.bool false), (.bool false), (.bool false), (.bool false), (.bool false), (.bool false), (.bool false), (.bool false), (.bool false), (.bool false), (.bool false), (.bool false), (.bool false), (.bool false), (.bool false), (.bool false), (.bool false), (.bool false), (.bool false), (.bool false), (.bool false), (.bool false), (.bool false), (.bool false), (.bool false), (.bool false), (.bool false), (.bool false), (.bool false), (.bool false), (.bool false), (.bool false), (.bool false), (.bool false), (.bool false), (.bool false), (.bool false), (.bool false), (.bool false), (.bool false), (.bool false), (.bool false), (.bool false), (.bool false), (.bool false), (.bool false), (.bool false), (.bool false), (.bool false), (.bool false), (.bool false), (.bool false), (.bool false), (.bool false), (.bool false), (.bool false), (.bool false), (.bool false), (.bool false), (.bool false), (.bool false), (.bool false), (.bool false), (.bool false), (.bool false), (.bool false), (.bool false), (.bool false), (.bool false), (.bool false), (.bool false), (.bool false), (.bool false), (.bool false), (.bool false), (.bool false), (.bool false), (.bool false), (.bool false), (.bool false), (.bool false), (.bool false), (.bool false), (.bool false), (.bool false), (.bool false), (.bool false), (.bool false), (.bool false), (.bool false), (.bool false), (.bool false), (.bool false), (.bool false), (.bool false), (.bool false), (.bool false), (.bool false), (.bool false), (.bool false)]) := ⟨by kernel_rfl, by kernel_rfl⟩
instance un_strings_asciiSet : Un Tryd.prog 79 (.array 256 4) := ⟨by kernel_rfl⟩
abbrev T_func81 : TypeId := 81
instance ty_func81 : Ty Tryd.prog 81 false 1 8 (.nilFunc) := ⟨by kernel_rfl, by kernel_rfl⟩
abbrev T_func82 : TypeId := 82
instance ty_func82 : Ty Tryd.prog 82 false 1 8 (.nilFunc) := ⟨by kernel_rfl, by kernel_rfl⟩
abbrev T_a24_uint8 : TypeId := 83
instance ty_a24_uint8 : Ty Tryd.prog 83 true 24 24 (.agg #[(.int .u8 0), (.int .u8 0), (.int .u8 0), (.int .u8 0), (.int .u8 0), (.int .u8 0), (.int .u8 0), (.int .u8 0), (.int .u8 0), (.int .u8 0), (.int .u8 0), (.int .u8 0), (.int .u8 0), (.int .u8 0), (.int .u8 0), (.int .u8 0), (.int .u8 0), (.int .u8 0), (.int .u8 0), (.int .u8 0), (.int .u8 0), (.int .u8 0), (.int .u8 0), (.int .u8 0)]) := ⟨by kernel_rfl, by kernel_rfl⟩
instance un_a24_uint8 : Un Tryd.prog 83 (.array 24 5) := ⟨by kernel_rfl⟩
abbrev T_uint64 : TypeId := 84
instance ty_uint64 : Ty Tryd.prog 84 false 1 8 (.int .u64 0) := ⟨by kernel_rfl, by kernel_rfl⟩
instance un_uint64 : Un Tryd.prog 84 (.int .u64) := ⟨by kernel_rfl⟩
abbrev T_func85 : TypeId := 85
instance ty_func85 : Ty Tryd.prog 85 false 1 8 (.nilFunc) := ⟨by kernel_rfl, by kernel_rfl⟩
abbrev T_func86 : TypeId := 86
instance ty_func86 : Ty Tryd.prog 86 false 1 8 (.nilFunc) := ⟨by kernel_rfl, by kernel_rfl⟩
abbrev T_func88 : TypeId := 88
instance ty_func88 : Ty Tryd.prog 88 false 1 8 (.nilFunc) := ⟨by kernel_rfl, by kernel_rfl⟩
abbrev T_func89 : TypeId := 89
instance ty_func89 : Ty Tryd.prog 89 false 1 8 (.nilFunc) := ⟨by kernel_rfl, by kernel_rfl⟩
abbrev T_func90 : TypeId := 90
instance ty_func90 : Ty Tryd.prog 90 false 1 8 (.nilFunc) := ⟨by kernel_rfl, by kernel_rfl⟩
abbrev T_func91 : TypeId := 91
instance ty_func91 : Ty Tryd.prog 91 false 1 8 (.nilFunc) := ⟨by kernel_rfl, by kernel_rfl⟩
abbrev T_uint : TypeId := 92
instance ty_uint : Ty Tryd.prog 92 false 1 8 (.int .u64 0) := ⟨by kernel_rfl, by kernel_rfl⟩
instance un_uint : Un Tryd.prog 92 (.int .u64) := ⟨by kernel_rfl⟩
abbrev T_p_strings_asciiSet : TypeId := 93
instance ty_p_strings_asciiSet : Ty Tryd.prog 93 false 1 8 (.pointer none) := ⟨by kernel_rfl, by kernel_rfl⟩
instance un_p_strings_asciiSet : Un Tryd.prog 93 (.pointer 79) := ⟨by kernel_rfl⟩
abbrev T_func94 : TypeId := 94
instance ty_func94 : Ty Tryd.prog 94 false 1 8 (.nilFunc) := ⟨by kernel_rfl, by kernel_rfl⟩
abbrev T_a20_uint64 : TypeId := 95
instance ty_a20_uint64 : Ty Tryd.prog 95 true 20 160 (.agg #[(.int .u64 0), (.int .u64 0), (.int .u64 0), (.int .u64 0), (.int .u64 0), (.int .u64 0), (.int .u64 0), (.int .u64 0), (.int .u64 0), (.int .u64 0), (.int .u64 0), (.int .u64 0), (.int .u64 0), (.int .u64 0), (.int .u64 0), (.int .u64 0), (.int .u64 0), (.int .u64 0), (.int .u64 0), (.int .u64 0)]) := ⟨by kernel_rfl, by kernel_rfl⟩
instance un_a20_uint64 : Un Tryd.prog 95 (.array 20 84) := ⟨by kernel_rfl⟩
abbrev T_uint32 : TypeId := 96
instance ty_uint32 : Ty Tryd.prog 96 false 1 4 (.int .u32 0) := ⟨by kernel_rfl, by kernel_rfl⟩
instance un_uint32 : Un Tryd.prog 96 (.int .u32) := ⟨by kernel_rfl⟩
abbrev T_a65_uint8 : TypeId := 97
instance ty_a65_uint8 : Ty Tryd.prog 97 true 65 65 (.agg #[(.int .u8 0), (.int .u8 0), (.int .u8 0), (.int .u8 0), (.int .u8 0), (.int .u8 0), (.int .u8 0), (.int .u8 0), (.int .u8 0), (.int .u8 0), (.int .u8 0), (.int .u8 0), (.int .u8 0), (.int .u8 0), (.int .u8 0), (.int .u8 0), (.int .u8 0), (.int .u8 0), (.int .u8 0), (.int .u8 0), (.int .u8 0), (.int .u8 0), (.int .u8 0), (.int .u8 0), (.int .u8 0), (.int .u8 0), (.int .u8 0), (.int .u8 0), (.int .u8 0), (.int .u8 0), (.int .u8 0), (.int .u8 0), (.int .u8 0), (.int .u8 0), (.int .u8 0), (.int .u8 0), (.int .u8 0), (.int .u8 0), (.int .u8 0), (.int .u8 0), (.int .u8 0), (.int .u8 0), (.int .u8 0), (.int .u8 0), (.int .u8 0), (.int .u8 0), (.int .u8 0), (.int .u8 0), (.int .u8 0), (.int .u8 0), (.int .u8 0), (.int .u8 0), (.int .u8 0), (.int .u8 0), (.int .u8 0), (.int .u8 0), (.int .u8 0), (.int .u8 0), (.int .u8 0), (.int .u8 0), (.int .u8 0), (.int .u8 0), (.int .u8 0), (.int .u8 0), (.int .u8 0)]) := ⟨by kernel_rfl, by kernel_rfl⟩
instance un_a65_uint8 : Un Tryd.prog 97 (.array 65 5) := ⟨by kernel_rfl⟩
abbrev T_func98 : TypeId := 98
instance ty_func98 : Ty Tryd.prog 98 false 1 8 (.nilFunc) := ⟨by kernel_rfl, by kernel_rfl⟩
abbrev T_func99 : TypeId := 99
instance ty_func99 : Ty Tryd.prog 99 false 1 8 (.nilFunc) := ⟨by kernel_rfl, by kernel_rfl⟩
abbrev T_a32_uint8 : TypeId := 100
instance ty_a32_uint8 : Ty Tryd.prog 100 true 32 32 (.agg #[(.int .u8 0), (.int .u8 0), (.int .u8 0), (.int .u8 0), (.int .u8 0), (.int .u8 0), (.int .u8 0), (.int .u8 0), (.int .u8 0), (.int .u8 0), (.int .u8 0), (.int .u8 0), (.int .u8 0), (.int .u8 0), (.int .u8 0), (.int .u8 0), (.int .u8 0), (.int .u8 0), (.int .u8 0), (.int .u8 0), (.int .u8 0), (.int .u8 0), (.int .u8 0), (.int .u8 0), (.int .u8 0), (.int .u8 0), (.int .u8 0), (.int .u8 0), (.int .u8 0), (.int .u8 0), (.int .u8 0), (.int .u8 0)]) := ⟨by kernel_rfl, by kernel_rfl⟩
instance un_a32_uint8 : Un Tryd.prog 100 (.array 32 5) := ⟨by kernel_rfl⟩
abbrev T_a64_uint8 : TypeId := 101
instance ty_a64_uint8 : Ty Tryd.prog 101 true 64 64 (.agg #[(.int .u8 0), (.int .u8 0), (.int .u8 0), (.int .u8 0), (.int .u8 0), (.int .u8 0), (.int .u8 0), (.int .u8 0), (.int .u8 0), (.int .u8 0), (.int .u8 0), (.int .u8 0), (.int .u8 0), (.int .u8 0), (.int .u8 0), (.int .u8 0), (.int .u8 0), (.int .u8 0), (.int .u8 0), (.int .u8 0), (.int .u8 0), (.int .u8 0), (.int .u8 0), (.int .u8 0), (.int .u8 0), (.int .u8 0), (.int .u8 0), (.int .u8 0), (.int .u8 0), (.int .u8 0), (.int .u8 0), (.int .u8 0), (.int .u8 0), (.int .u8 0), (.int .u8 0), (.int .u8 0), (.int .u8 0), (.int .u8 0), (.int .u8 0), (.int .u8 0), (.int .u8 0), (.int .u8 0), (.int .u8 0), (.int .u8 0), (.int .u8 0), (.int .u8 0), (.int .u8 0), (.int .u8 0), (.int .u8 0), (.int .u8 0), (.int .u8 0), (.int .u8 0), (.int .u8 0), (.int .u8 0), (.int .u8 0), (.int .u8 0), (.int .u8 0), (.int .u8 0), (.int .u8 0), (.int .u8 0), (.int .u8 0), (.int .u8 0), (.int .u8 0), (.int .u8 0)]) := ⟨by kernel_rfl, by kernel_rfl⟩
instance un_a64_uint8 : Un Tryd.prog 101 (.array 64 5) := ⟨by kernel_rfl⟩
abbrev T_func109 : TypeId := 109
instance ty_func109 : Ty Tryd.prog 109 false 1 8 (.nilFunc) := ⟨by kernel_rfl, by kernel_rfl⟩
abbrev T_p_uint8 : TypeId := 110
instance ty_p_uint8 : Ty Tryd.prog 110 false 1 8 (.pointer none) := ⟨by kernel_rfl, by kernel_rfl⟩
instance un_p_uint8 : Un Tryd.prog 110 (.pointer 5) := ⟨by kernel_rfl⟩


instance fld_impl_Term_0 : FieldAt Tryd.prog 25 0 0 := ⟨_, _, Tryd.underlying25, rfl, rfl, _, _, _, _, ty_int, by decide⟩
instance fld_impl_Term_1 : FieldAt Tryd.prog 25 1 1 := ⟨_, _, Tryd.underlying25, rfl, rfl, _, _, _, _, ty_int, by decide⟩
instance fld_impl_Term_2 : FieldAt Tryd.prog 25 2 2 := ⟨_, _, Tryd.underlying25, rfl, rfl, _, _, _, _, ty_s_impl_Term, by decide⟩
instance str_impl_Term : StructAt Tryd.prog 25 [(0, 1), (1, 1), (2, 1)] := ⟨_, Tryd.underlying25, fun w => by simp [ty_int.sizeOf, ty_s_impl_Term.sizeOf]⟩














instance fld_impl_scan_0 : FieldAt Tryd.prog 44 0 0 := ⟨_, _, Tryd.underlying44, rfl, rfl, _, _, _, _, ty_string, by decide⟩
instance fld_impl_scan_1 : FieldAt Tryd.prog 44 1 1 := ⟨_, _, Tryd.underlying44, rfl, rfl, _, _, _, _, ty_int, by decide⟩
instance fld_impl_scan_2 : FieldAt Tryd.prog 44 2 2 := ⟨_, _, Tryd.underlying44, rfl, rfl, _, _, _, _, ty_bool, by decide⟩
instance str_impl_scan : StructAt Tryd.prog 44 [(0, 1), (1, 1), (2, 1)] := ⟨_, Tryd.underlying44, fun w => by simp [ty_bool.sizeOf, ty_int.sizeOf, ty_string.sizeOf]⟩







instance fld_spec_l6Rd_0 : FieldAt Tryd.prog 53 0 0 := ⟨_, _, Tryd.underlying53, rfl, rfl, _, _, _, _, ty_s_uint8, by decide⟩
instance fld_spec_l6Rd_1 : FieldAt Tryd.prog 53 1 1 := ⟨_, _, Tryd.underlying53, rfl, rfl, _, _, _, _, ty_int, by decide⟩
instance str_spec_l6Rd : StructAt Tryd.prog 53 [(0, 1), (1, 1)] := ⟨_, Tryd.underlying53, fun w => by simp [ty_int.sizeOf, ty_s_uint8.sizeOf]⟩
































abbrev F_laws_FnTermOk : FuncId := 3
instance can_laws_FnTermOk : Callable Tryd.prog 3 := ⟨_, Tryd.func3, by kernel_rfl, by kernel_rfl⟩
theorem fun_laws_FnTermOk : Tryd.prog.funcs[F_laws_FnTermOk]? = some Tryd.f3 := Tryd.func3
theorem tmps_laws_FnTermOk : Tryd.f3.ntmps = 46 := Tryd.ntmps3
theorem ress_laws_FnTermOk : Tryd.f3.results = #[.tmp 2] := Tryd.results3
abbrev F_laws_FnExactTermRead : FuncId := 4
instance can_laws_FnExactTermRead : Callable Tryd.prog 4 := ⟨_, Tryd.func4, by kernel_rfl, by kernel_rfl⟩
theorem fun_laws_FnExactTermRead : Tryd.prog.funcs[F_laws_FnExactTermRead]? = some Tryd.f4 := Tryd.func4
theorem tmps_laws_FnExactTermRead : Tryd.f4.ntmps = 66 := Tryd.ntmps4
theorem ress_laws_FnExactTermRead : Tryd.f4.results = #[.tmp 2] := Tryd.results4
abbrev F_laws_FnTermRead : FuncId := 5
instance can_laws_FnTermRead : Callable Tryd.prog 5 := ⟨_, Tryd.func5, by kernel_rfl, by kernel_rfl⟩
theorem fun_laws_FnTermRead : Tryd.prog.funcs[F_laws_FnTermRead]? = some Tryd.f5 := Tryd.func5
theorem tmps_laws_FnTermRead : Tryd.f5.ntmps = 44 := Tryd.ntmps5
theorem ress_laws_FnTermRead : Tryd.f5.results = #[.tmp 2] := Tryd.results5
abbrev F_spec_DrawTermOk : FuncId := 6
instance can_spec_DrawTermOk : Callable Tryd.prog 6 := ⟨_, Tryd.func6, by kernel_rfl, by kernel_rfl⟩
theorem fun_spec_DrawTermOk : Tryd.prog.funcs[F_spec_DrawTermOk]? = some Tryd.f6 := Tryd.func6
theorem tmps_spec_DrawTermOk : Tryd.f6.ntmps = 14 := Tryd.ntmps6
theorem ress_spec_DrawTermOk : Tryd.f6.results = #[.cell 2 25] := Tryd.results6
abbrev F_impl_TermOk : FuncId := 7
instance can_impl_TermOk : Callable Tryd.prog 7 := ⟨_, Tryd.func7, by kernel_rfl, by kernel_rfl⟩
theorem fun_impl_TermOk : Tryd.prog.funcs[F_impl_TermOk]? = some Tryd.f7 := Tryd.func7
theorem tmps_impl_TermOk : Tryd.f7.ntmps = 10 := Tryd.ntmps7
theorem ress_impl_TermOk : Tryd.f7.results = #[.tmp 2] := Tryd.results7
abbrev F_spec_TermOk : FuncId := 8
instance can_spec_TermOk : Callable Tryd.prog 8 := ⟨_, Tryd.func8, by kernel_rfl, by kernel_rfl⟩
theorem fun_spec_TermOk : Tryd.prog.funcs[F_spec_TermOk]? = some Tryd.f8 := Tryd.func8
theorem tmps_spec_TermOk : Tryd.f8.ntmps = 6 := Tryd.ntmps8
theorem ress_spec_TermOk : Tryd.f8.results = #[.tmp 2] := Tryd.results8
abbrev F_impl_TermText : FuncId := 9
instance can_impl_TermText : Callable Tryd.prog 9 := ⟨_, Tryd.func9, by kernel_rfl, by kernel_rfl⟩
theorem fun_impl_TermText : Tryd.prog.funcs[F_impl_TermText]? = some Tryd.f9 := Tryd.func9
theorem tmps_impl_TermText : Tryd.f9.ntmps = 8 := Tryd.ntmps9
theorem ress_impl_TermText : Tryd.f9.results = #[.tmp 2] := Tryd.results9
abbrev F_impl_TermRead : FuncId := 10
instance can_impl_TermRead : Callable Tryd.prog 10 := ⟨_, Tryd.func10, by kernel_rfl, by kernel_rfl⟩
theorem fun_impl_TermRead : Tryd.prog.funcs[F_impl_TermRead]? = some Tryd.f10 := Tryd.func10
theorem tmps_impl_TermRead : Tryd.f10.ntmps = 30 := Tryd.ntmps10
theorem ress_impl_TermRead : Tryd.f10.results = #[.cell 2 25, .tmp 3] := Tryd.results10
abbrev F_laws_mnTerm : FuncId := 11
instance can_laws_mnTerm : Callable Tryd.prog 11 := ⟨_, Tryd.func11, by kernel_rfl, by kernel_rfl⟩
theorem fun_laws_mnTerm : Tryd.prog.funcs[F_laws_mnTerm]? = some Tryd.f11 := Tryd.func11
theorem tmps_laws_mnTerm : Tryd.f11.ntmps = 24 := Tryd.ntmps11
theorem ress_laws_mnTerm : Tryd.f11.results = #[.tmp 4] := Tryd.results11
abbrev F_spec_TermRead : FuncId := 12
instance can_spec_TermRead : Callable Tryd.prog 12 := ⟨_, Tryd.func12, by kernel_rfl, by kernel_rfl⟩
theorem fun_spec_TermRead : Tryd.prog.funcs[F_spec_TermRead]? = some Tryd.f12 := Tryd.func12
theorem tmps_spec_TermRead : Tryd.f12.ntmps = 26 := Tryd.ntmps12
theorem ress_spec_TermRead : Tryd.f12.results = #[.cell 2 25, .tmp 3] := Tryd.results12
abbrev F_laws_eqTerm : FuncId := 13
instance can_laws_eqTerm : Callable Tryd.prog 13 := ⟨_, Tryd.func13, by kernel_rfl, by kernel_rfl⟩
theorem fun_laws_eqTerm : Tryd.prog.funcs[F_laws_eqTerm]? = some Tryd.f13 := Tryd.func13
theorem tmps_laws_eqTerm : Tryd.f13.ntmps = 21 := Tryd.ntmps13
theorem ress_laws_eqTerm : Tryd.f13.results = #[.tmp 4] := Tryd.results13
abbrev F_laws_markTerm : FuncId := 14
instance can_laws_markTerm : Callable Tryd.prog 14 := ⟨_, Tryd.func14, by kernel_rfl, by kernel_rfl⟩
theorem fun_laws_markTerm : Tryd.prog.funcs[F_laws_markTerm]? = some Tryd.f14 := Tryd.func14
theorem tmps_laws_markTerm : Tryd.f14.ntmps = 10 := Tryd.ntmps14
theorem ress_laws_markTerm : Tryd.f14.results = #[.tmp 4] := Tryd.results14
abbrev F_laws_heldTerm : FuncId := 15
instance can_laws_heldTerm : Callable Tryd.prog 15 := ⟨_, Tryd.func15, by kernel_rfl, by kernel_rfl⟩
theorem fun_laws_heldTerm : Tryd.prog.funcs[F_laws_heldTerm]? = some Tryd.f15 := Tryd.func15
theorem tmps_laws_heldTerm : Tryd.f15.ntmps = 12 := Tryd.ntmps15
theorem ress_laws_heldTerm : Tryd.f15.results = #[.tmp 4] := Tryd.results15
abbrev F_spec_DrawTermRead : FuncId := 16
instance can_spec_DrawTermRead : Callable Tryd.prog 16 := ⟨_, Tryd.func16, by kernel_rfl, by kernel_rfl⟩
theorem fun_spec_DrawTermRead : Tryd.prog.funcs[F_spec_DrawTermRead]? = some Tryd.f16 := Tryd.func16
theorem tmps_spec_DrawTermRead : Tryd.f16.ntmps = 23 := Tryd.ntmps16
theorem ress_spec_DrawTermRead : Tryd.f16.results = #[.tmp 2] := Tryd.results16
abbrev F_spec_l6Open : FuncId := 17
instance can_spec_l6Open : Callable Tryd.prog 17 := ⟨_, Tryd.func17, by kernel_rfl, by kernel_rfl⟩
theorem fun_spec_l6Open : Tryd.prog.funcs[F_spec_l6Open]? = some Tryd.f17 := Tryd.func17
theorem tmps_spec_l6Open : Tryd.f17.ntmps = 11 := Tryd.ntmps17
theorem ress_spec_l6Open : Tryd.f17.results = #[.tmp 2] := Tryd.results17
abbrev F_spec_l91Called : FuncId := 18
instance can_spec_l91Called : Callable Tryd.prog 18 := ⟨_, Tryd.func18, by kernel_rfl, by kernel_rfl⟩
theorem fun_spec_l91Called : Tryd.prog.funcs[F_spec_l91Called]? = some Tryd.f18 := Tryd.func18
theorem tmps_spec_l91Called : Tryd.f18.ntmps = 27 := Tryd.ntmps18
theorem ress_spec_l91Called : Tryd.f18.results = #[.cell 2 25, .tmp 3] := Tryd.results18
abbrev F_impl_termNodes : FuncId := 19
instance can_impl_termNodes : Callable Tryd.prog 19 := ⟨_, Tryd.func19, by kernel_rfl, by kernel_rfl⟩
theorem fun_impl_termNodes : Tryd.prog.funcs[F_impl_termNodes]? = some Tryd.f19 := Tryd.func19
theorem tmps_impl_termNodes : Tryd.f19.ntmps = 28 := Tryd.ntmps19
theorem ress_impl_termNodes : Tryd.f19.results = #[.tmp 4] := Tryd.results19
abbrev F_impl_termShape : FuncId := 20
instance can_impl_termShape : Callable Tryd.prog 20 := ⟨_, Tryd.func20, by kernel_rfl, by kernel_rfl⟩
theorem fun_impl_termShape : Tryd.prog.funcs[F_impl_termShape]? = some Tryd.f20 := Tryd.func20
theorem tmps_impl_termShape : Tryd.f20.ntmps = 50 := Tryd.ntmps20
theorem ress_impl_termShape : Tryd.f20.results = #[.tmp 2] := Tryd.results20
abbrev F_spec_l6In : FuncId := 21
instance can_spec_l6In : Callable Tryd.prog 21 := ⟨_, Tryd.func21, by kernel_rfl, by kernel_rfl⟩
theorem fun_spec_l6In : Tryd.prog.funcs[F_spec_l6In]? = some Tryd.f21 := Tryd.func21
theorem tmps_spec_l6In : Tryd.f21.ntmps = 15 := Tryd.ntmps21
theorem ress_spec_l6In : Tryd.f21.results = #[.tmp 6] := Tryd.results21
abbrev F_spec_l2Nodes : FuncId := 22
instance can_spec_l2Nodes : Callable Tryd.prog 22 := ⟨_, Tryd.func22, by kernel_rfl, by kernel_rfl⟩
theorem fun_spec_l2Nodes : Tryd.prog.funcs[F_spec_l2Nodes]? = some Tryd.f22 := Tryd.func22
theorem tmps_spec_l2Nodes : Tryd.f22.ntmps = 60 := Tryd.ntmps22
theorem ress_spec_l2Nodes : Tryd.f22.results = #[.tmp 2] := Tryd.results22
abbrev F_impl_textOf : FuncId := 23
instance can_impl_textOf : Callable Tryd.prog 23 := ⟨_, Tryd.func23, by kernel_rfl, by kernel_rfl⟩
theorem fun_impl_textOf : Tryd.prog.funcs[F_impl_textOf]? = some Tryd.f23 := Tryd.func23
theorem tmps_impl_textOf : Tryd.f23.ntmps = 71 := Tryd.ntmps23
theorem ress_impl_textOf : Tryd.f23.results = #[.tmp 2] := Tryd.results23
abbrev F_impl_scan_term : FuncId := 24
instance can_impl_scan_term : Callable Tryd.prog 24 := ⟨_, Tryd.func24, by kernel_rfl, by kernel_rfl⟩
theorem fun_impl_scan_term : Tryd.prog.funcs[F_impl_scan_term]? = some Tryd.f24 := Tryd.func24
theorem tmps_impl_scan_term : Tryd.f24.ntmps = 73 := Tryd.ntmps24
theorem ress_impl_scan_term : Tryd.f24.results = #[.cell 2 25] := Tryd.results24
abbrev F_laws_mnTerms : FuncId := 25
instance can_laws_mnTerms : Callable Tryd.prog 25 := ⟨_, Tryd.func25, by kernel_rfl, by kernel_rfl⟩
theorem fun_laws_mnTerms : Tryd.prog.funcs[F_laws_mnTerms]? = some Tryd.f25 := Tryd.func25
theorem tmps_laws_mnTerms : Tryd.f25.ntmps = 27 := Tryd.ntmps25
theorem ress_laws_mnTerms : Tryd.f25.results = #[.tmp 4] := Tryd.results25
abbrev F_spec_l2Read : FuncId := 26
instance can_spec_l2Read : Callable Tryd.prog 26 := ⟨_, Tryd.func26, by kernel_rfl, by kernel_rfl⟩
theorem fun_spec_l2Read : Tryd.prog.funcs[F_spec_l2Read]? = some Tryd.f26 := Tryd.func26
theorem tmps_spec_l2Read : Tryd.f26.ntmps = 185 := Tryd.ntmps26
theorem ress_spec_l2Read : Tryd.f26.results = #[.cell 4 25, .tmp 5, .tmp 6] := Tryd.results26
abbrev F_laws_eqTermS : FuncId := 27
instance can_laws_eqTermS : Callable Tryd.prog 27 := ⟨_, Tryd.func27, by kernel_rfl, by kernel_rfl⟩
theorem fun_laws_eqTermS : Tryd.prog.funcs[F_laws_eqTermS]? = some Tryd.f27 := Tryd.func27
theorem tmps_laws_eqTermS : Tryd.f27.ntmps = 27 := Tryd.ntmps27
theorem ress_laws_eqTermS : Tryd.f27.results = #[.tmp 4] := Tryd.results27
abbrev F_laws_markTermS : FuncId := 28
instance can_laws_markTermS : Callable Tryd.prog 28 := ⟨_, Tryd.func28, by kernel_rfl, by kernel_rfl⟩
theorem fun_laws_markTermS : Tryd.prog.funcs[F_laws_markTermS]? = some Tryd.f28 := Tryd.func28
theorem tmps_laws_markTermS : Tryd.f28.ntmps = 34 := Tryd.ntmps28
theorem ress_laws_markTermS : Tryd.f28.results = #[.tmp 4] := Tryd.results28
abbrev F_laws_heldTermS : FuncId := 29
instance can_laws_heldTermS : Callable Tryd.prog 29 := ⟨_, Tryd.func29, by kernel_rfl, by kernel_rfl⟩
theorem fun_laws_heldTermS : Tryd.prog.funcs[F_laws_heldTermS]? = some Tryd.f29 := Tryd.func29
theorem tmps_laws_heldTermS : Tryd.f29.ntmps = 40 := Tryd.ntmps29
theorem ress_laws_heldTermS : Tryd.f29.results = #[.tmp 4] := Tryd.results29
abbrev F_spec_TermText : FuncId := 30
instance can_spec_TermText : Callable Tryd.prog 30 := ⟨_, Tryd.func30, by kernel_rfl, by kernel_rfl⟩
theorem fun_spec_TermText : Tryd.prog.funcs[F_spec_TermText]? = some Tryd.f30 := Tryd.func30
theorem tmps_spec_TermText : Tryd.f30.ntmps = 8 := Tryd.ntmps30
theorem ress_spec_TermText : Tryd.f30.results = #[.tmp 2] := Tryd.results30
abbrev F_spec_l6Rd_pick : FuncId := 31
instance can_spec_l6Rd_pick : Callable Tryd.prog 31 := ⟨_, Tryd.func31, by kernel_rfl, by kernel_rfl⟩
theorem fun_spec_l6Rd_pick : Tryd.prog.funcs[F_spec_l6Rd_pick]? = some Tryd.f31 := Tryd.func31
theorem tmps_spec_l6Rd_pick : Tryd.f31.ntmps = 99 := Tryd.ntmps31
theorem ress_spec_l6Rd_pick : Tryd.f31.results = #[.tmp 4] := Tryd.results31
abbrev F_spec_l91Spoil : FuncId := 32
instance can_spec_l91Spoil : Callable Tryd.prog 32 := ⟨_, Tryd.func32, by kernel_rfl, by kernel_rfl⟩
theorem fun_spec_l91Spoil : Tryd.prog.funcs[F_spec_l91Spoil]? = some Tryd.f32 := Tryd.func32
theorem tmps_spec_l91Spoil : Tryd.f32.ntmps = 52 := Tryd.ntmps32
theorem ress_spec_l91Spoil : Tryd.f32.results = #[.tmp 4] := Tryd.results32
abbrev F_spec_l91Defs : FuncId := 33
instance can_spec_l91Defs : Callable Tryd.prog 33 := ⟨_, Tryd.func33, by kernel_rfl, by kernel_rfl⟩
theorem fun_spec_l91Defs : Tryd.prog.funcs[F_spec_l91Defs]? = some Tryd.f33 := Tryd.func33
theorem tmps_spec_l91Defs : Tryd.f33.ntmps = 41 := Tryd.ntmps33
theorem ress_spec_l91Defs : Tryd.f33.results = #[.tmp 2] := Tryd.results33
abbrev F_spec_l91Term : FuncId := 34
instance can_spec_l91Term : Callable Tryd.prog 34 := ⟨_, Tryd.func34, by kernel_rfl, by kernel_rfl⟩
theorem fun_spec_l91Term : Tryd.prog.funcs[F_spec_l91Term]? = some Tryd.f34 := Tryd.func34
theorem tmps_spec_l91Term : Tryd.f34.ntmps = 34 := Tryd.ntmps34
theorem ress_spec_l91Term : Tryd.f34.results = #[.cell 4 25] := Tryd.results34
abbrev F_impl_ActOk : FuncId := 35
instance can_impl_ActOk : Callable Tryd.prog 35 := ⟨_, Tryd.func35, by kernel_rfl, by kernel_rfl⟩
theorem fun_impl_ActOk : Tryd.prog.funcs[F_impl_ActOk]? = some Tryd.f35 := Tryd.func35
theorem tmps_impl_ActOk : Tryd.f35.ntmps = 9 := Tryd.ntmps35
theorem ress_impl_ActOk : Tryd.f35.results = #[.tmp 2] := Tryd.results35
abbrev F_impl_nameOk : FuncId := 36
instance can_impl_nameOk : Callable Tryd.prog 36 := ⟨_, Tryd.func36, by kernel_rfl, by kernel_rfl⟩
theorem fun_impl_nameOk : Tryd.prog.funcs[F_impl_nameOk]? = some Tryd.f36 := Tryd.func36
theorem tmps_impl_nameOk : Tryd.f36.ntmps = 9 := Tryd.ntmps36
theorem ress_impl_nameOk : Tryd.f36.results = #[.tmp 2] := Tryd.results36
abbrev F_slices_ContainsFunc_impl_Term_impl_Term : FuncId := 37
instance can_slices_ContainsFunc_impl_Term_impl_Term : Callable Tryd.prog 37 := ⟨_, Tryd.func37, by kernel_rfl, by kernel_rfl⟩
theorem fun_slices_ContainsFunc_impl_Term_impl_Term : Tryd.prog.funcs[F_slices_ContainsFunc_impl_Term_impl_Term]? = some Tryd.f37 := Tryd.func37
theorem tmps_slices_ContainsFunc_impl_Term_impl_Term : Tryd.f37.ntmps = 9 := Tryd.ntmps37
theorem ress_slices_ContainsFunc_impl_Term_impl_Term : Tryd.f37.results = #[.tmp 4] := Tryd.results37
abbrev F_impl_termShape_1 : FuncId := 38
instance can_impl_termShape_1 : Callable Tryd.prog 38 := ⟨_, Tryd.func38, by kernel_rfl, by kernel_rfl⟩
theorem fun_impl_termShape_1 : Tryd.prog.funcs[F_impl_termShape_1]? = some Tryd.f38 := Tryd.func38
theorem tmps_impl_termShape_1 : Tryd.f38.ntmps = 6 := Tryd.ntmps38
theorem ress_impl_termShape_1 : Tryd.f38.results = #[.tmp 2] := Tryd.results38
abbrev F_spec_ActOk : FuncId := 39
instance can_spec_ActOk : Callable Tryd.prog 39 := ⟨_, Tryd.func39, by kernel_rfl, by kernel_rfl⟩
theorem fun_spec_ActOk : Tryd.prog.funcs[F_spec_ActOk]? = some Tryd.f39 := Tryd.func39
theorem tmps_spec_ActOk : Tryd.f39.ntmps = 5 := Tryd.ntmps39
theorem ress_spec_ActOk : Tryd.f39.results = #[.tmp 2] := Tryd.results39
abbrev F_impl_ActText : FuncId := 40
instance can_impl_ActText : Callable Tryd.prog 40 := ⟨_, Tryd.func40, by kernel_rfl, by kernel_rfl⟩
theorem fun_impl_ActText : Tryd.prog.funcs[F_impl_ActText]? = some Tryd.f40 := Tryd.func40
theorem tmps_impl_ActText : Tryd.f40.ntmps = 20 := Tryd.ntmps40
theorem ress_impl_ActText : Tryd.f40.results = #[.tmp 2] := Tryd.results40
abbrev F_impl_nameText : FuncId := 41
instance can_impl_nameText : Callable Tryd.prog 41 := ⟨_, Tryd.func41, by kernel_rfl, by kernel_rfl⟩
theorem fun_impl_nameText : Tryd.prog.funcs[F_impl_nameText]? = some Tryd.f41 := Tryd.func41
theorem tmps_impl_nameText : Tryd.f41.ntmps = 8 := Tryd.ntmps41
theorem ress_impl_nameText : Tryd.f41.results = #[.tmp 2] := Tryd.results41
abbrev F_strconv_Itoa : FuncId := 42
instance can_strconv_Itoa : Callable Tryd.prog 42 := ⟨_, Tryd.func42, by kernel_rfl, by kernel_rfl⟩
theorem fun_strconv_Itoa : Tryd.prog.funcs[F_strconv_Itoa]? = some Tryd.f42 := Tryd.func42
theorem tmps_strconv_Itoa : Tryd.f42.ntmps = 5 := Tryd.ntmps42
theorem ress_strconv_Itoa : Tryd.f42.results = #[.tmp 2] := Tryd.results42
abbrev F_impl_scan_node : FuncId := 43
instance can_impl_scan_node : Callable Tryd.prog 43 := ⟨_, Tryd.func43, by kernel_rfl, by kernel_rfl⟩
theorem fun_impl_scan_node : Tryd.prog.funcs[F_impl_scan_node]? = some Tryd.f43 := Tryd.func43
theorem tmps_impl_scan_node : Tryd.f43.ntmps = 23 := Tryd.ntmps43
theorem ress_impl_scan_node : Tryd.f43.results = #[.tmp 2] := Tryd.results43
abbrev F_impl_scan_term_1 : FuncId := 44
instance can_impl_scan_term_1 : Callable Tryd.prog 44 := ⟨_, Tryd.func44, by kernel_rfl, by kernel_rfl⟩
theorem fun_impl_scan_term_1 : Tryd.prog.funcs[F_impl_scan_term_1]? = some Tryd.f44 := Tryd.func44
theorem tmps_impl_scan_term_1 : Tryd.f44.ntmps = 18 := Tryd.ntmps44
theorem ress_impl_scan_term_1 : Tryd.f44.results = #[] := Tryd.results44
abbrev F_impl_scan_must : FuncId := 45
instance can_impl_scan_must : Callable Tryd.prog 45 := ⟨_, Tryd.func45, by kernel_rfl, by kernel_rfl⟩
theorem fun_impl_scan_must : Tryd.prog.funcs[F_impl_scan_must]? = some Tryd.f45 := Tryd.func45
theorem tmps_impl_scan_must : Tryd.f45.ntmps = 11 := Tryd.ntmps45
theorem ress_impl_scan_must : Tryd.f45.results = #[] := Tryd.results45
abbrev F_impl_scan_take : FuncId := 46
instance can_impl_scan_take : Callable Tryd.prog 46 := ⟨_, Tryd.func46, by kernel_rfl, by kernel_rfl⟩
theorem fun_impl_scan_take : Tryd.prog.funcs[F_impl_scan_take]? = some Tryd.f46 := Tryd.func46
theorem tmps_impl_scan_take : Tryd.f46.ntmps = 22 := Tryd.ntmps46
theorem ress_impl_scan_take : Tryd.f46.results = #[.tmp 4] := Tryd.results46
abbrev F_impl_scan_act : FuncId := 47
instance can_impl_scan_act : Callable Tryd.prog 47 := ⟨_, Tryd.func47, by kernel_rfl, by kernel_rfl⟩
theorem fun_impl_scan_act : Tryd.prog.funcs[F_impl_scan_act]? = some Tryd.f47 := Tryd.func47
theorem tmps_impl_scan_act : Tryd.f47.ntmps = 23 := Tryd.ntmps47
theorem ress_impl_scan_act : Tryd.f47.results = #[.tmp 2] := Tryd.results47
abbrev F_impl_scan_name : FuncId := 48
instance can_impl_scan_name : Callable Tryd.prog 48 := ⟨_, Tryd.func48, by kernel_rfl, by kernel_rfl⟩
theorem fun_impl_scan_name : Tryd.prog.funcs[F_impl_scan_name]? = some Tryd.f48 := Tryd.func48
theorem tmps_impl_scan_name : Tryd.f48.ntmps = 28 := Tryd.ntmps48
theorem ress_impl_scan_name : Tryd.f48.results = #[.tmp 2] := Tryd.results48
abbrev F_impl_scan_word : FuncId := 49
instance can_impl_scan_word : Callable Tryd.prog 49 := ⟨_, Tryd.func49, by kernel_rfl, by kernel_rfl⟩
theorem fun_impl_scan_word : Tryd.prog.funcs[F_impl_scan_word]? = some Tryd.f49 := Tryd.func49
theorem tmps_impl_scan_word : Tryd.f49.ntmps = 33 := Tryd.ntmps49
theorem ress_impl_scan_word : Tryd.f49.results = #[.tmp 2] := Tryd.results49
abbrev F_spec_l2Word : FuncId := 50
instance can_spec_l2Word : Callable Tryd.prog 50 := ⟨_, Tryd.func50, by kernel_rfl, by kernel_rfl⟩
theorem fun_spec_l2Word : Tryd.prog.funcs[F_spec_l2Word]? = some Tryd.f50 := Tryd.func50
theorem tmps_spec_l2Word : Tryd.f50.ntmps = 35 := Tryd.ntmps50
theorem ress_spec_l2Word : Tryd.f50.results = #[.tmp 2, .tmp 3] := Tryd.results50
abbrev F_spec_l6Dec : FuncId := 51
instance can_spec_l6Dec : Callable Tryd.prog 51 := ⟨_, Tryd.func51, by kernel_rfl, by kernel_rfl⟩
theorem fun_spec_l6Dec : Tryd.prog.funcs[F_spec_l6Dec]? = some Tryd.f51 := Tryd.func51
theorem tmps_spec_l6Dec : Tryd.f51.ntmps = 28 := Tryd.ntmps51
theorem ress_spec_l6Dec : Tryd.f51.results = #[.tmp 2] := Tryd.results51
abbrev F_spec_l2Words : FuncId := 52
instance can_spec_l2Words : Callable Tryd.prog 52 := ⟨_, Tryd.func52, by kernel_rfl, by kernel_rfl⟩
theorem fun_spec_l2Words : Tryd.prog.funcs[F_spec_l2Words]? = some Tryd.f52 := Tryd.func52
theorem tmps_spec_l2Words : Tryd.f52.ntmps = 2 := Tryd.ntmps52
theorem ress_spec_l2Words : Tryd.f52.results = #[.tmp 0] := Tryd.results52
abbrev F_spec_ActRead : FuncId := 53
instance can_spec_ActRead : Callable Tryd.prog 53 := ⟨_, Tryd.func53, by kernel_rfl, by kernel_rfl⟩
theorem fun_spec_ActRead : Tryd.prog.funcs[F_spec_ActRead]? = some Tryd.f53 := Tryd.func53
theorem tmps_spec_ActRead : Tryd.f53.ntmps = 14 := Tryd.ntmps53
theorem ress_spec_ActRead : Tryd.f53.results = #[.tmp 2, .tmp 3] := Tryd.results53
abbrev F_spec_l2Text : FuncId := 54
instance can_spec_l2Text : Callable Tryd.prog 54 := ⟨_, Tryd.func54, by kernel_rfl, by kernel_rfl⟩
theorem fun_spec_l2Text : Tryd.prog.funcs[F_spec_l2Text]? = some Tryd.f54 := Tryd.func54
theorem tmps_spec_l2Text : Tryd.f54.ntmps = 58 := Tryd.ntmps54
theorem ress_spec_l2Text : Tryd.f54.results = #[.tmp 2] := Tryd.results54
abbrev F_spec_l6Rd_of : FuncId := 55
instance can_spec_l6Rd_of : Callable Tryd.prog 55 := ⟨_, Tryd.func55, by kernel_rfl, by kernel_rfl⟩
theorem fun_spec_l6Rd_of : Tryd.prog.funcs[F_spec_l6Rd_of]? = some Tryd.f55 := Tryd.func55
theorem tmps_spec_l6Rd_of : Tryd.f55.ntmps = 12 := Tryd.ntmps55
theorem ress_spec_l6Rd_of : Tryd.f55.results = #[.tmp 4] := Tryd.results55
abbrev F_spec_l91Good : FuncId := 56
instance can_spec_l91Good : Callable Tryd.prog 56 := ⟨_, Tryd.func56, by kernel_rfl, by kernel_rfl⟩
theorem fun_spec_l91Good : Tryd.prog.funcs[F_spec_l91Good]? = some Tryd.f56 := Tryd.func56
theorem tmps_spec_l91Good : Tryd.f56.ntmps = 94 := Tryd.ntmps56
theorem ress_spec_l91Good : Tryd.f56.results = #[.cell 8 25] := Tryd.results56
abbrev F_slices_IndexFunc_impl_Term_impl_Term : FuncId := 57
instance can_slices_IndexFunc_impl_Term_impl_Term : Callable Tryd.prog 57 := ⟨_, Tryd.func57, by kernel_rfl, by kernel_rfl⟩
theorem fun_slices_IndexFunc_impl_Term_impl_Term : Tryd.prog.funcs[F_slices_IndexFunc_impl_Term_impl_Term]? = some Tryd.f57 := Tryd.func57
theorem tmps_slices_IndexFunc_impl_Term_impl_Term : Tryd.f57.ntmps = 19 := Tryd.ntmps57
theorem ress_slices_IndexFunc_impl_Term_impl_Term : Tryd.f57.results = #[.tmp 4] := Tryd.results57
abbrev F_impl_nameOf : FuncId := 58
instance can_impl_nameOf : Callable Tryd.prog 58 := ⟨_, Tryd.func58, by kernel_rfl, by kernel_rfl⟩
theorem fun_impl_nameOf : Tryd.prog.funcs[F_impl_nameOf]? = some Tryd.f58 := Tryd.func58
theorem tmps_impl_nameOf : Tryd.f58.ntmps = 8 := Tryd.ntmps58
theorem ress_impl_nameOf : Tryd.f58.results = #[.tmp 2] := Tryd.results58
abbrev F_strings_CutPrefix : FuncId := 60
instance can_strings_CutPrefix : Callable Tryd.prog 60 := ⟨_, Tryd.func60, by kernel_rfl, by kernel_rfl⟩
theorem fun_strings_CutPrefix : Tryd.prog.funcs[F_strings_CutPrefix]? = some Tryd.f60 := Tryd.func60
theorem tmps_strings_CutPrefix : Tryd.f60.ntmps = 11 := Tryd.ntmps60
theorem ress_strings_CutPrefix : Tryd.f60.results = #[.tmp 4, .tmp 5] := Tryd.results60
abbrev F_impl_ActRead : FuncId := 61
instance can_impl_ActRead : Callable Tryd.prog 61 := ⟨_, Tryd.func61, by kernel_rfl, by kernel_rfl⟩
theorem fun_impl_ActRead : Tryd.prog.funcs[F_impl_ActRead]? = some Tryd.f61 := Tryd.func61
theorem tmps_impl_ActRead : Tryd.f61.ntmps = 14 := Tryd.ntmps61
theorem ress_impl_ActRead : Tryd.f61.results = #[.tmp 2, .tmp 3] := Tryd.results61
abbrev F_strings_IndexAny : FuncId := 62
instance can_strings_IndexAny : Callable Tryd.prog 62 := ⟨_, Tryd.func62, by kernel_rfl, by kernel_rfl⟩
theorem fun_strings_IndexAny : Tryd.prog.funcs[F_strings_IndexAny]? = some Tryd.f62 := Tryd.func62
theorem tmps_strings_IndexAny : Tryd.f62.ntmps = 55 := Tryd.ntmps62
theorem ress_strings_IndexAny : Tryd.f62.results = #[.tmp 4] := Tryd.results62
abbrev F_spec_l1Text : FuncId := 63
instance can_spec_l1Text : Callable Tryd.prog 63 := ⟨_, Tryd.func63, by kernel_rfl, by kernel_rfl⟩
theorem fun_spec_l1Text : Tryd.prog.funcs[F_spec_l1Text]? = some Tryd.f63 := Tryd.func63
theorem tmps_spec_l1Text : Tryd.f63.ntmps = 22 := Tryd.ntmps63
theorem ress_spec_l1Text : Tryd.f63.results = #[.tmp 2] := Tryd.results63
abbrev F_spec_l91Do : FuncId := 64
instance can_spec_l91Do : Callable Tryd.prog 64 := ⟨_, Tryd.func64, by kernel_rfl, by kernel_rfl⟩
theorem fun_spec_l91Do : Tryd.prog.funcs[F_spec_l91Do]? = some Tryd.f64 := Tryd.func64
theorem tmps_spec_l91Do : Tryd.f64.ntmps = 12 := Tryd.ntmps64
theorem ress_spec_l91Do : Tryd.f64.results = #[.tmp 2] := Tryd.results64
abbrev F_strings_IndexRune : FuncId := 67
instance can_strings_IndexRune : Callable Tryd.prog 67 := ⟨_, Tryd.func67, by kernel_rfl, by kernel_rfl⟩
theorem fun_strings_IndexRune : Tryd.prog.funcs[F_strings_IndexRune]? = some Tryd.f67 := Tryd.func67
theorem tmps_strings_IndexRune : Tryd.f67.ntmps = 187 := Tryd.ntmps67
theorem ress_strings_IndexRune : Tryd.f67.results = #[.tmp 4] := Tryd.results67
abbrev F_strings_shouldUseASCIISet : FuncId := 68
instance can_strings_shouldUseASCIISet : Callable Tryd.prog 68 := ⟨_, Tryd.func68, by kernel_rfl, by kernel_rfl⟩
theorem fun_strings_shouldUseASCIISet : Tryd.prog.funcs[F_strings_shouldUseASCIISet]? = some Tryd.f68 := Tryd.func68
theorem tmps_strings_shouldUseASCIISet : Tryd.f68.ntmps = 5 := Tryd.ntmps68
theorem ress_strings_shouldUseASCIISet : Tryd.f68.results = #[.tmp 2] := Tryd.results68
abbrev F_strings_makeASCIISet : FuncId := 69
instance can_strings_makeASCIISet : Callable Tryd.prog 69 := ⟨_, Tryd.func69, by kernel_rfl, by kernel_rfl⟩
theorem fun_strings_makeASCIISet : Tryd.prog.funcs[F_strings_makeASCIISet]? = some Tryd.f69 := Tryd.func69
theorem tmps_strings_makeASCIISet : Tryd.f69.ntmps = 21 := Tryd.ntmps69
theorem ress_strings_makeASCIISet : Tryd.f69.results = #[.cell 2 79, .tmp 3] := Tryd.results69
abbrev F_strings_asciiSet_contains : FuncId := 70
instance can_strings_asciiSet_contains : Callable Tryd.prog 70 := ⟨_, Tryd.func70, by kernel_rfl, by kernel_rfl⟩
theorem fun_strings_asciiSet_contains : Tryd.prog.funcs[F_strings_asciiSet_contains]? = some Tryd.f70 := Tryd.func70
theorem tmps_strings_asciiSet_contains : Tryd.f70.ntmps = 10 := Tryd.ntmps70
theorem ress_strings_asciiSet_contains : Tryd.f70.results = #[.tmp 4] := Tryd.results70
abbrev F_spec_l1Name : FuncId := 71
instance can_spec_l1Name : Callable Tryd.prog 71 := ⟨_, Tryd.func71, by kernel_rfl, by kernel_rfl⟩
theorem fun_spec_l1Name : Tryd.prog.funcs[F_spec_l1Name]? = some Tryd.f71 := Tryd.func71
theorem tmps_spec_l1Name : Tryd.f71.ntmps = 8 := Tryd.ntmps71
theorem ress_spec_l1Name : Tryd.f71.results = #[.tmp 2] := Tryd.results71
abbrev F_strings_IndexByte : FuncId := 77
instance can_strings_IndexByte : Callable Tryd.prog 77 := ⟨_, Tryd.func77, by kernel_rfl, by kernel_rfl⟩
theorem fun_strings_IndexByte : Tryd.prog.funcs[F_strings_IndexByte]? = some Tryd.f77 := Tryd.func77
theorem tmps_strings_IndexByte : Tryd.f77.ntmps = 8 := Tryd.ntmps77
theorem ress_strings_IndexByte : Tryd.f77.results = #[.tmp 4] := Tryd.results77
abbrev F_utf8_ValidRune : FuncId := 78
instance can_utf8_ValidRune : Callable Tryd.prog 78 := ⟨_, Tryd.func78, by kernel_rfl, by kernel_rfl⟩
theorem fun_utf8_ValidRune : Tryd.prog.funcs[F_utf8_ValidRune]? = some Tryd.f78 := Tryd.func78
theorem tmps_utf8_ValidRune : Tryd.f78.ntmps = 17 := Tryd.ntmps78
theorem ress_utf8_ValidRune : Tryd.f78.results = #[.tmp 2] := Tryd.results78
abbrev F_bits_Len64 : FuncId := 82
instance can_bits_Len64 : Callable Tryd.prog 82 := ⟨_, Tryd.func82, by kernel_rfl, by kernel_rfl⟩
theorem fun_bits_Len64 : Tryd.prog.funcs[F_bits_Len64]? = some Tryd.f82 := Tryd.func82
theorem tmps_bits_Len64 : Tryd.f82.ntmps = 25 := Tryd.ntmps82
theorem ress_bits_Len64 : Tryd.f82.results = #[.tmp 2] := Tryd.results82
abbrev F_bits_TrailingZeros : FuncId := 85
instance can_bits_TrailingZeros : Callable Tryd.prog 85 := ⟨_, Tryd.func85, by kernel_rfl, by kernel_rfl⟩
theorem fun_bits_TrailingZeros : Tryd.prog.funcs[F_bits_TrailingZeros]? = some Tryd.f85 := Tryd.func85
theorem tmps_bits_TrailingZeros : Tryd.f85.ntmps = 8 := Tryd.ntmps85
theorem ress_bits_TrailingZeros : Tryd.f85.results = #[.tmp 2] := Tryd.results85
abbrev F_bits_TrailingZeros32 : FuncId := 87
instance can_bits_TrailingZeros32 : Callable Tryd.prog 87 := ⟨_, Tryd.func87, by kernel_rfl, by kernel_rfl⟩
theorem fun_bits_TrailingZeros32 : Tryd.prog.funcs[F_bits_TrailingZeros32]? = some Tryd.f87 := Tryd.func87
theorem tmps_bits_TrailingZeros32 : Tryd.f87.ntmps = 14 := Tryd.ntmps87
theorem ress_bits_TrailingZeros32 : Tryd.f87.results = #[.tmp 2] := Tryd.results87
abbrev F_bits_TrailingZeros64 : FuncId := 88
instance can_bits_TrailingZeros64 : Callable Tryd.prog 88 := ⟨_, Tryd.func88, by kernel_rfl, by kernel_rfl⟩
theorem fun_bits_TrailingZeros64 : Tryd.prog.funcs[F_bits_TrailingZeros64]? = some Tryd.f88 := Tryd.func88
theorem tmps_bits_TrailingZeros64 : Tryd.f88.ntmps = 14 := Tryd.ntmps88
theorem ress_bits_TrailingZeros64 : Tryd.f88.results = #[.tmp 2] := Tryd.results88
abbrev F_gosem_cut_vars : FuncId := 111
instance can_gosem_cut_vars : Callable Tryd.prog 111 := ⟨_, Tryd.func111, by kernel_rfl, by kernel_rfl⟩
theorem fun_gosem_cut_vars : Tryd.prog.funcs[F_gosem_cut_vars]? = some Tryd.f111 := Tryd.func111
theorem tmps_gosem_cut_vars : Tryd.f111.ntmps = 3 := Tryd.ntmps111
theorem ress_gosem_cut_vars : Tryd.f111.results = #[] := Tryd.results111
theorem mixed_ : Tryd.prog.follows .mixedOrders = true := by kernel_rfl
end Go.Proofs.YthbodgnoadlbcaaDoor.Asl
