/- strings.IndexAny at any string, the letters looked for being ASCII: the library's own text walked. -/
import Derived.Test.YthbodgnoadlbcaaDoorX0
import Derived.Lib.Builder
import Derived.Scope
import Derived.Lib.OthersKept
namespace Go.Proofs.YthbodgnoadlbcaaDoor.Asl
open Go.Shelf Go.RowKit Go.Lib Go.Proofs Go
set_option linter.unusedVariables false
set_option linter.unusedSimpArgs false
section
variable {P : Program} {ρ : Ren}
theorem below_drew (n : Nat) (w : World) : Below n w w.drew := ⟨rfl, rfl, rfl, Nat.le_refl _, fun _ _ => rfl⟩
theorem below_iterAt {w wr : World} {s : ByteArray} {p : Nat} (h : Below w.heap.size w wr) : Below w.heap.size w (World.iterAt wr w.heap.size s p) :=
  ⟨h.os, h.tape, h.output, by simpa [World.iterAt] using h.size, fun k hk => by
    rw [← h.block k hk]
    simp only [World.iterAt]
    rw [Array.getElem?_setIfInBounds_ne (by omega)]⟩
theorem scope_of {c : Code} {Q : Exit → Act → World → Prop} {a : Act} {w : World} (hQ : ∀ l a w, ¬ Q (.goto l) a w) (h : c.wp P Q a w) : (Code.scope c).wp P Q a w :=
  wp_scope_straight (wp_mono h fun e a w hq => by cases e <;> first | exact hq | exact (hQ _ _ _ hq).elim)
set_option maxHeartbeats 8000000 in
set_option maxRecDepth 1000000 in
theorem indexRune_bad (L : Lays.n152 P ρ) (s : ByteArray) (w : World) (hascii : ∀ (j : Nat) b, s.data.toList[j]? = some b → b.toNat < 128) :
    Calls P (ρ.f 152) #[.string s, .int .i32 65533] w fun e w' => e = .returned (.int .i64 (-1)) ∧ ∃ pos, w' = w.iter s pos := by
  have HA : Aside (∀ (j : Nat) b, s.data.toList[j]? = some b → b.toNat < 128) := hascii
  clear hascii
  have t3 := L.t3; have a3 := L.a3; have z3 := L.z3; have v3 := L.v3
  have t4 := L.t4; have a4 := L.a4; have z4 := L.z4; have v4 := L.v4
  have t5 := L.t5; have a5 := L.a5; have z5 := L.z5; have v5 := L.v5
  have t9 := L.t9; have a9 := L.a9; have z9 := L.z9; have v9 := L.v9
  have t21 := L.t21; have a21 := L.a21; have z21 := L.z21; have v21 := L.v21
  go_enter L.f152, Body.n152_ntmps ρ
  go_wp2
  go_loopg [5, 6] s.size (fun g _ _ wx => ∃ i : Nat, i + g = s.size ∧ wx = w.iter s i)
  case atStart => exact ⟨0, by omega, rfl⟩
  case round =>
    obtain ⟨i, hig, rfl⟩ := hrel
    cases gk with
    | zero =>
      obtain rfl : i = s.size := by omega
      have hnx := fun ty => run_next_end (P := P) w s s.size ty (by omega)
      go_wp2
      go_ret
      exact ⟨rfl, _, rfl⟩
    | succ g =>
      have hi : i < s.size := by omega
      obtain ⟨x, hx⟩ : ∃ x : UInt8, s[i]'hi = x := ⟨_, rfl⟩
      have hxl : s.data.toList[i]? = some x := by rw [← hx]; exact Lib.data_getElem? s i hi
      have hx128 : x.toNat < 128 := HA.out i x hxl
      have hnx := fun ty => run_next_ascii (P := P) w s i ty hi (by rw [hx]; exact hx128)
      rw [hx] at hnx
      have hne : ((x.toNat : Int) == 65533) = false := beq_eq_false_iff_ne.2 (by omega)
      clear hxl hx
      go_wp2
      go_roundg g
      case measure => omega
      case rel => exact ⟨i + 1, by omega, rfl⟩
set_option maxHeartbeats 8000000 in
set_option maxRecDepth 1000000 in
theorem indexRune_high (L : Lays.n152 P ρ) (s : ByteArray) (r : Int) (w : World) (h0 : 128 ≤ r) (hv : Lib.validRune r = true) (hne : r ≠ 65533) (hs : s.size < 4294967296) (hascii : ∀ b ∈ s.data.toList, b.toNat < 128) :
    Calls P (ρ.f 152) #[.string s, .int .i32 r] w fun e w' => e = .returned (.int .i64 (-1)) ∧ Below w.heap.size w w' := by
  have HA : Aside (∀ b ∈ s.data.toList, b.toNat < 128) := hascii
  clear hascii
  have mixed := L.mixed
  have t3 := L.t3; have a3 := L.a3; have z3 := L.z3; have v3 := L.v3; have u3 := run_underlying L.t3
  have t4 := L.t4; have a4 := L.a4; have z4 := L.z4; have v4 := L.v4; have u4 := run_underlying L.t4
  have t5 := L.t5; have a5 := L.a5; have z5 := L.z5; have v5 := L.v5; have u5 := run_underlying L.t5
  have t9 := L.t9; have a9 := L.a9; have z9 := L.z9; have v9 := L.v9; have u9 := run_underlying L.t9
  have t21 := L.t21; have a21 := L.a21; have z21 := L.z21; have v21 := L.v21; have u21 := run_underlying L.t21
  have e137 : ∀ args w, (callFunc (ρ.f 137) args).run P w = .ok (.enter (ρ.f 137) args) w := enters_of L.f137 (by kernel_rfl) rfl
  have e119 : ∀ args w, (callFunc (ρ.f 119) args).run P w = .ok (.enter (ρ.f 119) args) w := enters_of L.f119 (by kernel_rfl) rfl
  have hb1 : (r == 65533) = false := beq_eq_false_iff_ne.2 hne
  have hb2 : decide (r < 128) = false := decide_eq_false (by omega)
  obtain ⟨f1, f2, f3⟩ := encode_facts r (by rw [validRune_eq]; exact hv) h0
  obtain ⟨rs, hrs⟩ : ∃ rs, Utf8.encode r = rs := ⟨_, rfl⟩
  rw [hrs] at f1 f2 f3
  have hcv := fun w => run_convert_int_string (P := P) w (ρ.t 21) (ρ.t 9) .i32 r (by rw [t21]; rfl) t9
  rw [hrs] at hcv
  go_enter L.f152, Body.n152_ntmps ρ
  go_wp2_with (first
    | (go_at_fn (ρ.f 119); refine (Any.utf8_ValidRune { L with } _ _).mono ?_; rintro e w' ⟨rfl, hw⟩; rw [hw, hv])
    | (go_at_fn (ρ.f 137); refine (Any.strings_IndexByte { L with } _ _ _).mono ?_; rintro e w' ⟨rfl, hw⟩; rw [hw]))
  subst hw
  refine scope_of (fun _ _ _ h => h) ?_
  obtain ⟨m, hm⟩ : ∃ m : Nat, rs.size - 1 = m := ⟨_, rfl⟩
  have hmz : m < rs.size := by omega
  have e8 : (rs.size : Int) - 1 = (m : Int) := by omega
  have f4 : 128 ≤ (rs[m]'hmz).toNat := by subst hm; exact f3 hmz
  obtain ⟨c, hc⟩ : ∃ c : UInt8, rs[m]'hmz = c := ⟨_, rfl⟩
  rw [hc] at f4
  have hm3 : m ≤ 3 := by omega
  clear hm f3 f1 f2
  go_wp2
  go_loopg [9] 0 (fun g v9 wx => v9 = .int .i64 (m : Int) ∧ wx = w')
  case atStart => exact ⟨by first | rfl | simp [e8], rfl⟩
  case round =>
    obtain ⟨rfl, rfl⟩ := hrel
    by_cases hl : m < s.size
    · have hlz : (m : Int) < (s.size : Int) := by omega
      obtain ⟨x, hx⟩ : ∃ x : UInt8, s[m]'hl = x := ⟨_, rfl⟩
      have hxl : s.data.toList[m]? = some x := by rw [← hx]; exact Lib.data_getElem? s m hl
      have hx128 : x.toNat < 128 := HA.out x (List.mem_of_getElem? hxl)
      have hxc : ((x.toNat : Int) == (c.toNat : Int)) = false := beq_eq_false_iff_ne.2 (by omega)
      clear hxl
      have hib : ∀ t : ByteArray, (∀ b ∈ t.data.toList, b.toNat < 128) → Lib.indexByte t.data.toList c = -1 := fun t ht => indexByte_ascii ht f4
      have hex : ∀ a b : Nat, Lib.indexByte (s.extract a b).data.toList c = -1 := fun a b => hib _ fun y hy => HA.out y (mem_extract hy)
      have hback : ((c.toNat : Int)).toNat.toUInt8 = c := by simp
      clear hib
      go_wp2
      refine scope_of (fun _ _ _ h => h) ?_
      go_wp2
      go_region_o
      have hw1 : IntKind.i64.wrap ((m : Int) + 1) = (m : Int) + 1 := wrap_small _ (by omega) (by omega)
      have hs1 : (0 : Int) ≤ (m : Int) + 1 := by omega
      have hs2 : (m : Int) + 1 ≤ (s.size : Int) := by omega
      have hs3 : ((m : Int) + 1).toNat = m + 1 := by omega
      have hs4 : ¬ ((m : Int) + 1 < 0) := by omega
      have hs5 : ¬ ((s.size : Int) < (m : Int) + 1) := by omega
      have hs6 : m + 1 ≤ s.size := hl
      go_wp2
      go_region_with_o (go_at_fn (ρ.f 137); refine (Any.strings_IndexByte { L with } _ _ _).mono ?_; rintro e w' ⟨rfl, hw⟩; rw [hw, hback, hex])
      all_goals go_wp2
      go_ret
      refine ⟨rfl, ?_⟩
      first
        | exact below_drew _ _
        | exact (below_drew _ _).trans (below_drew _ _)
        | (subst hw; exact (below_drew _ _).trans (below_drew _ _))
        | trace_state
    · have hlz : ¬ (m : Int) < (s.size : Int) := by omega
      go_wp2
      go_ret
      exact ⟨rfl, Below.refl _ _⟩
/-- A rune that is not ASCII is not among ASCII letters. -/
theorem indexRune_none (L : Lays.n152 P ρ) (s : ByteArray) (r : Int) (w : World) (h0 : 128 ≤ r) (hv : Lib.validRune r = true) (hs : s.size < 4294967296) (hascii : ∀ b ∈ s.data.toList, b.toNat < 128) :
    Calls P (ρ.f 152) #[.string s, .int .i32 r] w fun e w' => e = .returned (.int .i64 (-1)) ∧ Below w.heap.size w w' := by
  by_cases h : r = 65533
  · subst h
    refine (indexRune_bad L s w fun j b hb => hascii b (List.mem_of_getElem? hb)).mono ?_
    rintro e w' ⟨rfl, pos, rfl⟩
    exact ⟨rfl, (Below.refl _ _).alloc (Nat.le_refl _) _⟩
  · exact indexRune_high L s r w h0 hv h hs hascii
set_option maxHeartbeats 8000000 in
set_option maxRecDepth 1000000 in
/-- strings.IndexAny at a short string of whatever bytes, the letters being ASCII. -/
theorem indexAny_short (L : Lays.n153 P ρ) (s chars : ByteArray) (w : World) (h2 : 2 ≤ chars.size) (h8 : s.size ≤ 8) (hcs : chars.size < 4294967296) (hascii : ∀ b ∈ chars.data.toList, b.toNat < 128) :
    Calls P (ρ.f 153) #[.string s, .string chars] w fun e w' => e = .returned (.int .i64 (Lib.indexAny s.data.toList chars.data.toList)) ∧ Below w.heap.size w w' := by
  have HA : Aside (∀ b ∈ chars.data.toList, b.toNat < 128) := hascii
  clear hascii
  have hemp : chars.toList.isEmpty = false := by
    rw [Lib.toList_data]
    cases h : chars.data.toList with
    | nil => have := Lib.size_eq chars; rw [h, List.length_nil] at this; omega
    | cons _ _ => rfl
  have hn1 : ((chars.size : Int) == 1) = false := beq_eq_false_iff_ne.2 (by omega)
  have h8z : decide ((8 : Int) < (s.size : Int)) = false := decide_eq_false (by omega)
  have t3 := L.t3; have a3 := L.a3; have z3 := L.z3; have v3 := L.v3
  have t4 := L.t4; have a4 := L.a4; have z4 := L.z4; have v4 := L.v4
  have t5 := L.t5; have a5 := L.a5; have z5 := L.z5; have v5 := L.v5
  have t9 := L.t9; have a9 := L.a9; have z9 := L.z9; have v9 := L.v9
  have t21 := L.t21; have a21 := L.a21; have z21 := L.z21; have v21 := L.v21
  have e152 : ∀ args w, (callFunc (ρ.f 152) args).run P w = .ok (.enter (ρ.f 152) args) w := enters_of L.f152 (by kernel_rfl) rfl
  have e226 : ∀ args w, (callFunc (ρ.f 226) args).run P w = .ok (.enter (ρ.f 226) args) w := enters_of L.f226 (by kernel_rfl) rfl
  go_enter L.f153, Body.n153_ntmps ρ
  go_wp2_with (go_at_fn (ρ.f 226); refine (Any.strings_shouldUseASCIISet { L with } _ _).mono ?_; rintro e w' ⟨rfl, hw⟩; rw [hw, h8z])
  go_loopg [9, 10] s.size (fun g _ _ wx => ∃ i : Nat, i + g = s.size ∧ wx.heap[w.heap.size]? = some (.stringIter s i) ∧ Below w.heap.size w wx ∧ Lib.NoAny s.data.toList chars.data.toList i)
  case atStart => exact ⟨0, by omega, World.iter_heap w s 0, (Below.refl _ _).alloc (Nat.le_refl _) _, Lib.NoAny.zero _ _⟩
  case round =>
    obtain ⟨i, hig, hit, hbl, hno⟩ := hrel
    have HN : Aside (Lib.NoAny s.data.toList chars.data.toList i) := hno
    clear hno
    cases gk with
    | zero =>
      obtain rfl : i = s.size := by omega
      have hnx := fun ty => Lib.run_next_end_at (P := P) wr w.heap.size s s.size ty hit (by omega)
      go_wp2
      go_ret
      exact ⟨by rw [Lib.indexAny_none (by rw [← Lib.size_eq]; exact HN.out)]; rfl, hbl⟩
    | succ g =>
      have hi : i < s.size := by omega
      obtain ⟨x, hx⟩ : ∃ x : UInt8, s[i]'hi = x := ⟨_, rfl⟩
      have hxl : s.data.toList[i]? = some x := by rw [← hx]; exact Lib.data_getElem? s i hi
      have hkl : w.heap.size < wr.heap.size := (Array.getElem?_eq_some_iff.1 hit).1
      by_cases hx128 : x.toNat < 128
      · have hnx := fun ty => Lib.run_next_ascii_at (P := P) wr w.heap.size s i ty hit hi (by rw [hx]; exact hx128)
        rw [hx] at hnx
        have hit1 := Lib.iterAt_heap wr w.heap.size s i (i + 1) hit
        have hbl1 := below_iterAt (s := s) (p := i + 1) hbl
        generalize World.iterAt wr w.heap.size s (i + 1) = w1 at hnx hit1 hbl1
        have Hx : Aside (s.data.toList[i]? = some x) := hxl
        clear hxl hx
        have hcon := Lib.contains_iff_indexByte chars.data.toList x
        have hback : ((x.toNat : Int)).toNat.toUInt8 = x := by simp
        cases hin : chars.data.toList.contains x
        · rw [hin] at hcon
          have hlt : ¬ ((0 : Int) ≤ Lib.indexByte chars.data.toList x) := of_decide_eq_false hcon.symm
          clear hcon
          go_wp2_with (go_at_fn (ρ.f 152); refine (Any.strings_IndexRune_ascii { L with } _ _ _ (by omega) (by omega)).mono ?_; rintro e w' ⟨rfl, hw⟩; rw [hw, hback])
          go_roundg g
          case measure => omega
          case rel => exact ⟨i + 1, by omega, hit1, hbl1, HN.out.succ Hx.out hin⟩
        · rw [hin] at hcon
          have hge : (0 : Int) ≤ Lib.indexByte chars.data.toList x := of_decide_eq_true hcon.symm
          clear hcon
          go_wp2_with (go_at_fn (ρ.f 152); refine (Any.strings_IndexRune_ascii { L with } _ _ _ (by omega) (by omega)).mono ?_; rintro e w' ⟨rfl, hw⟩; rw [hw, hback])
          go_ret
          exact ⟨by rw [Lib.indexAny_hit HN.out Hx.out hin]; rfl, hbl1⟩
      · have hgb : 128 ≤ (s.get! i).toNat := by rw [get_bang hxl]; omega
        obtain ⟨d1, d2, d3, d4⟩ := decode_rune hi hgb
        have HM : Aside (Lib.NoAny s.data.toList chars.data.toList (i + (Utf8.decode s i).2)) := noAny_high HA.out HN.out hgb
        have hnx := fun ty => Lib.run_next_any_at (P := P) wr w.heap.size s i ty hit hi
        have hit1 := Lib.iterAt_heap wr w.heap.size s i (i + (Utf8.decode s i).2) hit
        have hbl1 := below_iterAt (s := s) (p := i + (Utf8.decode s i).2) hbl
        have hsz1 : w.heap.size < (World.iterAt wr w.heap.size s (i + (Utf8.decode s i).2)).heap.size := (Array.getElem?_eq_some_iff.1 hit1).1
        generalize World.iterAt wr w.heap.size s (i + (Utf8.decode s i).2) = w1 at hnx hit1 hbl1 hsz1
        generalize (Utf8.decode s i).2 = K at *
        obtain ⟨R, hR⟩ : ∃ R : Nat, (Utf8.decode s i).1 = R := ⟨_, rfl⟩
        rw [hR] at d1 d2 hnx
        have hvr : Lib.validRune (R : Int) = true := by simp only [Lib.validRune, decide_eq_true_eq]; omega
        clear hxl hx hgb hR
        go_wp2_with (go_at_fn (ρ.f 152); refine (indexRune_none { L with } chars (R : Int) w1 (by omega) hvr hcs HA.out).mono ?_; rintro e w2 ⟨rfl, hb2⟩)
        go_roundg (s.size - (i + K))
        case measure => omega
        case rel => exact ⟨i + K, by omega, by rw [hb2.block _ hsz1]; exact hit1, hbl1.trans (hb2.mono (Nat.le_of_lt hsz1)), HM.out⟩
/-- strings.IndexAny at any string, the letters being two or more of ASCII. -/
theorem indexAny_any (L : Lays.n153 P ρ) (h116 : (P.info? (ρ.t 116)).map (fun i => (i.zero, i.size)) = some (some (.agg (Array.replicate 256 (.bool false))), 256)) (s chars : ByteArray) (w : World) (hs : s.size < 4294967281) (h2 : 2 ≤ chars.size) (hcs : chars.size < 4294967281) (hascii : ∀ b ∈ chars.data.toList, b.toNat < 128) :
    Calls P (ρ.f 153) #[.string s, .string chars] w fun e w' => e = .returned (.int .i64 (Lib.indexAny s.data.toList chars.data.toList)) ∧ Below w.heap.size w w' := by
  by_cases h8 : s.size ≤ 8
  · exact indexAny_short L s chars w h2 h8 (by omega) hascii
  · refine (Any.strings_IndexAny_long L (zero_of_info h116).1 (zero_of_info h116).2 s chars w h2 (by omega) hs hcs (fun j b hb => hascii b (List.mem_of_getElem? hb))).mono fun e w' ⟨h1, h2⟩ => ⟨h1, ?_⟩
    rw [h2]
    exact ((Below.refl _ _).alloc (Nat.le_refl _) _).alloc (by simp) _
end
end Go.Proofs.YthbodgnoadlbcaaDoor.Asl
