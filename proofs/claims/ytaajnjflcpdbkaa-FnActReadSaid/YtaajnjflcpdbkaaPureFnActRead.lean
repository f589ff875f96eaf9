/- The law FnActRead holds for every code of bytes; no condition. -/
import Derived.Test.YtaajnjflcpdbkaaQFnActReadx3
namespace Go.Proofs.Ytaajnjflcpdbkaa.Pure
open Go.RowKit Go.Proofs.Ytaajnjflcpdbkaa.PFnActRead Go.Proofs.YtaajnjflcpdbkaaW.PrintWords Go.Proofs.YtaajnjflcpdbkaaW.PrintLast Go.Proofs.YtaajnjflcpdbkaaW.PrintMore
namespace FnActRead
theorem implOk_eq (a : Int) : impl_ActOk.f a = some (decide (-4 ≤ a ∧ a ≤ 4)) := by
  unfold impl_ActOk.f
  by_cases h : a ≥ -4 <;> simp [h]
theorem range9 {a : Int} (h : -4 ≤ a ∧ a ≤ 4) : a = -4 ∨ a = -3 ∨ a = -2 ∨ a = -1 ∨ a = 0 ∨ a = 1 ∨ a = 2 ∨ a = 3 ∨ a = 4 := by omega
theorem specOk_eq (a : Int) : spec_ActOk.f a = some (decide (-4 ≤ a ∧ a ≤ 4)) := by
  unfold spec_ActOk.f spec_l6In.f
  by_cases h : a ≥ -4 <;> simp [h]
/-- The texts of both sides. -/
theorem texts {a : Int} (h : -4 ≤ a ∧ a ≤ 4) : ∃ t, impl_ActText.f a = some t ∧ spec_l1Text.f a = some t ∧ t.toList ≠ [] ∧ t.size ≤ 3 := by
  rcases range9 h with rfl | rfl | rfl | rfl | rfl | rfl | rfl | rfl | rfl
  · exact ⟨⟨#[33, 100]⟩, by decide +kernel, by decide +kernel, by decide +kernel, by decide +kernel⟩
  · exact ⟨⟨#[33, 99]⟩, by decide +kernel, by decide +kernel, by decide +kernel, by decide +kernel⟩
  · exact ⟨⟨#[33, 98]⟩, by decide +kernel, by decide +kernel, by decide +kernel, by decide +kernel⟩
  · exact ⟨⟨#[33, 97]⟩, by decide +kernel, by decide +kernel, by decide +kernel, by decide +kernel⟩
  · exact ⟨⟨#[116, 97, 117]⟩, by decide +kernel, by decide +kernel, by decide +kernel, by decide +kernel⟩
  · exact ⟨⟨#[97]⟩, by decide +kernel, by decide +kernel, by decide +kernel, by decide +kernel⟩
  · exact ⟨⟨#[98]⟩, by decide +kernel, by decide +kernel, by decide +kernel, by decide +kernel⟩
  · exact ⟨⟨#[99]⟩, by decide +kernel, by decide +kernel, by decide +kernel, by decide +kernel⟩
  · exact ⟨⟨#[100]⟩, by decide +kernel, by decide +kernel, by decide +kernel, by decide +kernel⟩
theorem implText_off {a : Int} (h : ¬ (-4 ≤ a ∧ a ≤ 4)) : impl_ActText.f a = some ⟨#[]⟩ := by
  unfold impl_ActText.f
  rw [implOk_eq, decide_eq_false h]; rfl
theorem reads (s : ByteArray) (d : Nat) : ∀ (k : Nat) (a : Int), -4 ≤ a → a ≤ 5 → 5 - a = d → d < k →
    ∃ r b, impl_ActRead.l0 k s a = some (r, b) ∧ spec_ActRead.l0 k s a = some (r, b) ∧ (b = true → -4 ≤ r ∧ r ≤ 4 ∧ ∃ t, impl_ActText.f r = some t ∧ t.toList = s.toList) := by
  induction d with
  | zero =>
    intro k a h1 h2 hd hk
    obtain ⟨k, rfl⟩ : ∃ m, k = m + 1 := ⟨k - 1, by omega⟩
    refine ⟨0, false, ?_, ?_, fun h => by cases h⟩
    · simp only [impl_ActRead.l0]; rw [if_neg (by omega)]
    · simp only [spec_ActRead.l0]; rw [if_neg (by omega)]
  | succ d ih =>
    intro k a h1 h2 hd hk
    obtain ⟨k, rfl⟩ : ∃ m, k = m + 1 := ⟨k - 1, by omega⟩
    obtain ⟨t, e1, e2, _, _⟩ := texts (a := a) ⟨h1, by omega⟩
    have hw : wrap64 (a + 1) = a + 1 := by unfold wrap64; omega
    by_cases hs : t.toList = s.toList
    · refine ⟨a, true, ?_, ?_, fun _ => ⟨h1, by omega, t, e1, hs⟩⟩
      · simp only [impl_ActRead.l0]; rw [if_pos (by omega), e1]; simp only [Option.bind_some]; rw [if_pos hs]
      · simp only [spec_ActRead.l0]; rw [if_pos (by omega), e2]; simp only [Option.bind_some]; rw [if_pos hs]
    · obtain ⟨r, b, r1, r2, r3⟩ := ih k (a + 1) (by omega) (by omega) (by omega) (by omega)
      refine ⟨r, b, ?_, ?_, r3⟩
      · simp only [impl_ActRead.l0]; rw [if_pos (by omega), e1]; simp only [Option.bind_some]; rw [if_neg hs, hw]; exact r1
      · simp only [spec_ActRead.l0]; rw [if_pos (by omega), e2]; simp only [Option.bind_some]; rw [if_neg hs, hw]; exact r2
theorem read_both (s : ByteArray) : ∃ r b, (∀ k, 10 ≤ k → impl_ActRead.f k s = some (r, b)) ∧ (∀ k, 10 ≤ k → spec_ActRead.f k s = some (r, b)) ∧ (b = true → -4 ≤ r ∧ r ≤ 4 ∧ ∃ t, impl_ActText.f r = some t ∧ t.toList = s.toList) := by
  obtain ⟨r, b, r1, r2, r3⟩ := reads s 9 10 (-4) (by omega) (by omega) (by omega) (by omega)
  exact ⟨r, b, fun k hk => at_rounds (g := fun k => impl_ActRead.f k s) (impl_ActRead.mono s) hk r1, fun k hk => at_rounds (g := fun k => spec_ActRead.f k s) (spec_ActRead.mono s) hk r2, r3⟩
theorem xor_nat (a b : Nat) (ha : a < 2 ^ 62) (hb : b < 2 ^ 62) : Go.bits .xor .i64 (a : Int) (b : Int) = ((a ^^^ b : Nat) : Int) := by
  have hx : a ^^^ b < 2 ^ 62 := Nat.xor_lt_two_pow ha hb
  have h1 : a % 2 ^ 64 = a := Nat.mod_eq_of_lt (by omega)
  have h2 : b % 2 ^ 64 = b := Nat.mod_eq_of_lt (by omega)
  have e : Go.bits .xor .i64 (a : Int) (b : Int) = IntKind.i64.wrap ((a ^^^ b : Nat) : Int) := by
    show IntKind.i64.wrap (((BitVec.ofInt 64 (a : Int) ^^^ BitVec.ofInt 64 (b : Int)).toNat : Nat) : Int) = _
    rw [BitVec.ofInt_natCast, BitVec.ofInt_natCast, BitVec.toNat_xor, BitVec.toNat_ofNat, BitVec.toNat_ofNat, h1, h2]
  rw [e, IntKind.wrap_i64]
  omega
theorem xor_ge (x y : Int) (hx : 0 ≤ x) (hy : 0 ≤ y) (hx' : x < 4611686018427387904) (hy' : y < 4611686018427387904) : 0 ≤ Go.bits .xor .i64 x y := by
  obtain ⟨a, rfl⟩ := Int.eq_ofNat_of_zero_le hx
  obtain ⟨b, rfl⟩ := Int.eq_ofNat_of_zero_le hy
  rw [xor_nat a b (by omega) (by omega)]
  omega
theorem w64 (x : Int) (h1 : -9223372036854775808 ≤ x) (h2 : x ≤ 9223372036854775807) : wrap64 x = x := by unfold wrap64; omega
/-- The bytes of a code. -/
def Bytes (l : List Int) : Prop := l.length ≤ 2000 ∧ ∀ x ∈ l, 0 ≤ x ∧ x ≤ 255
theorem Bytes.byte {l : List Int} (h : Bytes l) (i : Int) : 0 ≤ rd l i ∧ rd l i ≤ 255 := by
  unfold rd
  rw [List.getD_eq_getElem?_getD]
  cases e : l[i.toNat]? with
  | none => simp
  | some x => simpa using h.2 x (List.mem_of_getElem? e)
theorem pick_ok {l : List Int} (hl : Bytes l) (p n : Int) (hp : 0 ≤ p) (hp2 : p ≤ 1099511627776) :
    ∃ r, (∀ k, 1 ≤ k → spec_l6Rd_pick.f k l p n = some (r, p + 1)) ∧ 0 ≤ r ∧ (1 ≤ n → r < n) ∧ (n < 1 → r = 0) := by
  have e1 : wrap64 (p + 1) = p + 1 := w64 _ (by omega) (by omega)
  have e2 : wrap64 (p + 1 - 1) = p := by rw [w64 _ (by omega) (by omega)]; omega
  by_cases hn : n < 1
  · refine ⟨0, fun k hk => ?_, by omega, by omega, fun _ => rfl⟩
    obtain ⟨k, rfl⟩ : ∃ m, k = m + 1 := ⟨k - 1, by omega⟩
    unfold spec_l6Rd_pick.f
    rw [if_pos hn, e1]
    simp only [spec_l6Rd_pick.j0]
    rw [if_pos trivial]
  by_cases h0 : l.length = 0
  · refine ⟨0, fun k hk => ?_, by omega, by omega, fun _ => rfl⟩
    obtain ⟨k, rfl⟩ : ∃ m, k = m + 1 := ⟨k - 1, by omega⟩
    unfold spec_l6Rd_pick.f
    rw [if_neg hn, e1]
    simp only [spec_l6Rd_pick.j0]
    rw [if_pos (by simp [h0])]
  have hL := hl.1
  have f0 : ((l.length : Int) == 0) = false := by simpa using h0
  by_cases hlt : p < (l.length : Int)
  · refine ⟨Int.tmod (rd l p) n, fun k hk => ?_, ?_, ?_, fun h => absurd h hn⟩
    · obtain ⟨k, rfl⟩ : ∃ m, k = m + 1 := ⟨k - 1, by omega⟩
      have hr := hl.byte p
      unfold spec_l6Rd_pick.f
      rw [if_neg hn, e1, f0]
      simp only [spec_l6Rd_pick.j0]
      rw [if_neg (by simp), e2, if_pos hlt, if_pos hp, if_neg (by omega), w64 _ (by omega) (by omega)]
    · exact Int.tmod_nonneg _ (hl.byte p).1
    · intro _; exact Int.tmod_lt_of_pos _ (by omega)
  · have hc : (0 : Int) < (l.length : Int) := by omega
    have a1 := Int.tmod_nonneg (l.length : Int) hp
    have a2 := Int.tmod_lt_of_pos p hc
    have e3 : wrap64 (p * 7) = p * 7 := w64 _ (by omega) (by omega)
    have e4 : wrap64 (p * 7 + 3) = p * 7 + 3 := w64 _ (by omega) (by omega)
    have b1 := Int.tmod_nonneg (l.length : Int) (show 0 ≤ p * 7 + 3 by omega)
    have b2 := Int.tmod_lt_of_pos (p * 7 + 3) hc
    have r1 := hl.byte (Int.tmod p (l.length : Int))
    have r2 := hl.byte (Int.tmod (p * 7 + 3) (l.length : Int))
    have e5 : wrap64 (rd l (Int.tmod p (l.length : Int))) = rd l (Int.tmod p (l.length : Int)) := w64 _ (by omega) (by omega)
    have e6 : wrap64 (rd l (Int.tmod (p * 7 + 3) (l.length : Int))) = rd l (Int.tmod (p * 7 + 3) (l.length : Int)) := w64 _ (by omega) (by omega)
    have d1 : 0 ≤ Int.tdiv p (l.length : Int) := Int.tdiv_nonneg hp (by omega)
    have d2 : Int.tdiv p (l.length : Int) ≤ p := by
      rw [Int.tdiv_eq_ediv_of_nonneg hp]
      exact Int.ediv_le_self _ hp
    generalize hu : rd l (Int.tmod p (l.length : Int)) = u at *
    generalize hv : rd l (Int.tmod (p * 7 + 3) (l.length : Int)) = v at *
    generalize hq : Int.tdiv p (l.length : Int) = q at *
    have e7 : wrap64 q = q := w64 _ (by omega) (by omega)
    have e8 : wrap64 (u * 131) = u * 131 := w64 _ (by omega) (by omega)
    have e9 : wrap64 (v * 1117) = v * 1117 := w64 _ (by omega) (by omega)
    have e10 : wrap64 (u * 131 + v * 1117) = u * 131 + v * 1117 := w64 _ (by omega) (by omega)
    have e11 : wrap64 (p * 29) = p * 29 := w64 _ (by omega) (by omega)
    have e12 : wrap64 (u * 131 + v * 1117 + p * 29) = u * 131 + v * 1117 + p * 29 := w64 _ (by omega) (by omega)
    have e13 : wrap64 (q * 53) = q * 53 := w64 _ (by omega) (by omega)
    have e14 : wrap64 (u * 131 + v * 1117 + p * 29 + q * 53) = u * 131 + v * 1117 + p * 29 + q * 53 := w64 _ (by omega) (by omega)
    generalize hX : u * 131 + v * 1117 + p * 29 + q * 53 = X at *
    have hX0 : 0 ≤ X := by omega
    have hX1 : X < 4611686018427387904 := by omega
    have t1 : 0 ≤ Int.tdiv X 64 := Int.tdiv_nonneg hX0 (by omega)
    have t2 : Int.tdiv X 64 ≤ X := by
      rw [Int.tdiv_eq_ediv_of_nonneg hX0]
      omega
    have e15 : wrap64 (Int.tdiv X 64) = Int.tdiv X 64 := w64 _ (by omega) (by omega)
    have hx := xor_ge X (Int.tdiv X 64) hX0 t1 hX1 (by omega)
    refine ⟨Int.tmod (Go.bits .xor .i64 X (Int.tdiv X 64)) n, fun k hk => ?_, Int.tmod_nonneg _ hx, fun _ => Int.tmod_lt_of_pos _ (by omega), fun h => absurd h hn⟩
    obtain ⟨k, rfl⟩ : ∃ m, k = m + 1 := ⟨k - 1, by omega⟩
    unfold spec_l6Rd_pick.f
    rw [if_neg hn, e1, f0]
    simp only [spec_l6Rd_pick.j0]
    rw [if_neg (by simp), e2, if_neg hlt, if_neg (by omega), if_pos a1, if_pos a2, e3, e4, if_pos b1, if_pos b2, if_neg (by omega)]
    simp only [hu, hv, hq, e5, e6, e7, e8, e9, e10, e11, e12, e13, hX, e14, e15]
theorem open_ok (l : List Int) (hl : ∀ x ∈ l, (Lit.int .u8 x).wf = true) : ∃ b, spec_l6Open.f l = some (b, 0) ∧ Bytes b := by
  have hb : ∀ x ∈ l, 0 ≤ x ∧ x ≤ 255 := fun x hx => by
    have := hl x hx
    simpa [Lit.wf, IntKind.min, IntKind.max, IntKind.signed, IntKind.bits] using this
  unfold spec_l6Open.f
  by_cases h : (l.length : Int) > 2000
  · rw [if_pos h, if_pos (by omega)]
    exact ⟨_, rfl, by simp; omega, fun x hx => hb x (List.mem_of_mem_take hx)⟩
  · rw [if_neg h]
    exact ⟨_, rfl, by omega, hb⟩
theorem do_ok {l : List Int} (hl : Bytes l) (p : Int) (hp : 0 ≤ p) (hp2 : p ≤ 1099511627770) :
    ∃ r q, (∀ k, 1 ≤ k → spec_l91Do.f k l p = some (r, q)) ∧ p ≤ q ∧ q ≤ p + 2 ∧ -4 ≤ r ∧ r ≤ 4 := by
  obtain ⟨a, ha, a0, a1, _⟩ := pick_ok hl p 3 hp (by omega)
  by_cases h : a > 0
  · obtain ⟨b, hb, b0, b1, _⟩ := pick_ok hl (p + 1) 5 (by omega) (by omega)
    refine ⟨b - 2, p + 1 + 1, fun k hk => ?_, by omega, by omega, by omega, by omega⟩
    unfold spec_l91Do.f
    rw [ha k hk]; simp only [Option.bind_some]; rw [if_pos h, hb k hk]; simp only [Option.bind_some]; rw [w64 _ (by omega) (by omega)]
  · obtain ⟨b, hb, b0, b1, _⟩ := pick_ok hl (p + 1) 9 (by omega) (by omega)
    refine ⟨b - 4, p + 1 + 1, fun k hk => ?_, by omega, by omega, by omega, by omega⟩
    unfold spec_l91Do.f
    rw [ha k hk]; simp only [Option.bind_some]; rw [if_neg h, hb k hk]; simp only [Option.bind_some]; rw [w64 _ (by omega) (by omega)]
theorem act_ok {l : List Int} (hl : Bytes l) (p : Int) (hp : 0 ≤ p) (hp2 : p ≤ 1099511627760) :
    ∃ r q, (∀ k, 1 ≤ k → spec_l91Act.f k l p = some (r, q)) ∧ p ≤ q ∧ q ≤ p + 3 ∧ -5 ≤ r ∧ r ≤ 4611686018427387904 := by
  obtain ⟨a, ha, a0, a1, _⟩ := pick_ok hl p 30 hp (by omega)
  by_cases h : a = 0
  · obtain ⟨b, hb, b0, b1, _⟩ := pick_ok hl (p + 1) 3 (by omega) (by omega)
    have hb3 : b = 0 ∨ b = 1 ∨ b = 2 := by omega
    refine ⟨rd [5, -5, 4611686018427387904] b, p + 1 + 1, fun k hk => ?_, by omega, by omega, ?_, ?_⟩
    · unfold spec_l91Act.f
      rw [ha k hk]; simp only [Option.bind_some]; rw [if_pos h, hb k hk]; simp only [Option.bind_some]; rw [if_pos b0, if_pos (by simp; omega)]
    · rcases hb3 with rfl | rfl | rfl <;> decide
    · rcases hb3 with rfl | rfl | rfl <;> decide
  · obtain ⟨b, q, hb, q0, q1, b0, b1⟩ := do_ok hl (p + 1) (by omega) (by omega)
    refine ⟨b, q, fun k hk => ?_, by omega, by omega, by omega, by omega⟩
    unfold spec_l91Act.f
    rw [ha k hk]; simp only [Option.bind_some]; rw [if_neg h, hb k hk]; simp only [Option.bind_some]
theorem spoil_ok {l : List Int} (hl : Bytes l) (s : ByteArray) (hs : s.size ≤ 100000) (p : Int) (hp : 0 ≤ p) (hp2 : p ≤ 1099511627760) :
    ∃ r q, (∀ k, 1 ≤ k → spec_l91Spoil.f k l p s = some (r, q)) ∧ p ≤ q ∧ q ≤ p + 3 ∧ r.size ≤ s.size + 9 := by
  have hw : wrap64 ((s.size : Int) + 1) = (s.size : Int) + 1 := w64 _ (by omega) (by omega)
  obtain ⟨c, hc, c0, c1, _⟩ := pick_ok hl p ((s.size : Int) + 1) hp (by omega)
  obtain ⟨d, hd, d0, d1, _⟩ := pick_ok hl (p + 1) 4 (by omega) (by omega)
  have c2 := c1 (by omega)
  have x1 : (s.extract 0 c.toNat).size ≤ s.size := by rw [ByteArray.size_extract]; omega
  have x2 : (s.extract c.toNat s.size).size ≤ s.size := by rw [ByteArray.size_extract]; omega
  have x12 : (s.extract 0 c.toNat).size + (s.extract c.toNat s.size).size ≤ s.size := by rw [ByteArray.size_extract, ByteArray.size_extract]; omega
  by_cases h0 : d = 0
  · obtain ⟨e, he, e0, e1, _⟩ := pick_ok hl (p + 1 + 1) 256 (by omega) (by omega)
    have y1 : (strOfNums [e % 256]).size ≤ 1 := by simp [strOfNums, ByteArray.size]
    refine ⟨(s.extract 0 c.toNat ++ strOfNums [e % 256]) ++ s.extract c.toNat s.size, p + 1 + 1 + 1, fun k hk => ?_, by omega, by omega, ?_⟩
    · unfold spec_l91Spoil.f
      rw [hw, hc k hk]; simp only [Option.bind_some]; rw [hd k hk]; simp only [Option.bind_some]
      rw [if_pos h0, if_pos c0, if_pos (by omega), he k hk]; simp only [Option.bind_some]
      rw [if_pos (by omega), if_pos (by rw [ByteArray.size_append]; omega)]
    · rw [ByteArray.size_append, ByteArray.size_append]; omega
  by_cases h1 : d = 1
  · refine ⟨s.extract 0 c.toNat, p + 1 + 1, fun k hk => ?_, by omega, by omega, by omega⟩
    unfold spec_l91Spoil.f
    rw [hw, hc k hk]; simp only [Option.bind_some]; rw [hd k hk]; simp only [Option.bind_some]
    rw [if_neg h0, if_pos h1, if_pos c0, if_pos (by omega)]
  have hz : ∃ r q, (∀ k, 1 ≤ k → (spec_l6Rd_of.f k l (p + 1 + 1) [(⟨#[32]⟩ : ByteArray), (⟨#[41]⟩ : ByteArray), (⟨#[48]⟩ : ByteArray), (⟨#[97]⟩ : ByteArray), (⟨#[40, 112, 97, 114, 32, 48, 32, 48, 41]⟩ : ByteArray)]) = some (r, q)) ∧ q = p + 1 + 1 + 1 ∧ r.size ≤ 9 := by
    obtain ⟨e, he, e0, e1, _⟩ := pick_ok hl (p + 1 + 1) 5 (by omega) (by omega)
    have e5 : e = 0 ∨ e = 1 ∨ e = 2 ∨ e = 3 ∨ e = 4 := by omega
    refine ⟨rdOf ByteArray.empty [(⟨#[32]⟩ : ByteArray), (⟨#[41]⟩ : ByteArray), (⟨#[48]⟩ : ByteArray), (⟨#[97]⟩ : ByteArray), (⟨#[40, 112, 97, 114, 32, 48, 32, 48, 41]⟩ : ByteArray)] e, _, fun k hk => ?_, rfl, ?_⟩
    · unfold spec_l6Rd_of.f
      rw [show spec_l6Rd_pick.f k l (p + 1 + 1) (([(⟨#[32]⟩ : ByteArray), (⟨#[41]⟩ : ByteArray), (⟨#[48]⟩ : ByteArray), (⟨#[97]⟩ : ByteArray), (⟨#[40, 112, 97, 114, 32, 48, 32, 48, 41]⟩ : ByteArray)] : List ByteArray).length : Int) = some (e, p + 1 + 1 + 1) from he k hk]; simp only [Option.bind_some]
      rw [if_pos e0, if_pos (by simp; omega)]
    · rcases e5 with rfl | rfl | rfl | rfl | rfl <;> decide
  obtain ⟨z, q, hz1, hz2, hz3⟩ := hz
  by_cases h2 : d = 2
  · by_cases h3 : c < (s.size : Int)
    · have hw2 : wrap64 (c + 1) = c + 1 := w64 _ (by omega) (by omega)
      have x3 : (s.extract (c + 1).toNat s.size).size ≤ s.size := by rw [ByteArray.size_extract]; omega
      have x4 : (s.extract 0 c.toNat).size + (s.extract (c + 1).toNat s.size).size ≤ s.size := by rw [ByteArray.size_extract, ByteArray.size_extract]; omega
      refine ⟨s.extract 0 c.toNat ++ s.extract (c + 1).toNat s.size, p + 1 + 1, fun k hk => ?_, by omega, by omega, ?_⟩
      · unfold spec_l91Spoil.f
        rw [hw, hc k hk]; simp only [Option.bind_some]; rw [hd k hk]; simp only [Option.bind_some]
        rw [if_neg h0, if_neg h1, if_pos h2, if_pos h3, if_pos c0, if_pos (by omega), hw2, if_pos (by omega), if_pos (by omega), if_pos (by omega)]
      · rw [ByteArray.size_append]; omega
    · refine ⟨s ++ z, q, fun k hk => ?_, by omega, by omega, ?_⟩
      · unfold spec_l91Spoil.f
        rw [hw, hc k hk]; simp only [Option.bind_some]; rw [hd k hk]; simp only [Option.bind_some]
        rw [if_neg h0, if_neg h1, if_pos h2, if_neg h3, hz1 k hk]; simp only [Option.bind_some]
        rw [if_pos (by omega)]
      · rw [ByteArray.size_append]; omega
  · refine ⟨s ++ z, q, fun k hk => ?_, by omega, by omega, ?_⟩
    · unfold spec_l91Spoil.f
      rw [hw, hc k hk]; simp only [Option.bind_some]; rw [hd k hk]; simp only [Option.bind_some]
      rw [if_neg h0, if_neg h1, if_neg h2, hz1 k hk]; simp only [Option.bind_some]
      rw [if_pos (by omega)]
    · rw [ByteArray.size_append]; omega
theorem draw_ok (l : List Int) (hl : ∀ x ∈ l, (Lit.int .u8 x).wf = true) : ∃ s, spec_DrawActRead.f 12 l = some s := by
  obtain ⟨b, hb, hB⟩ := open_ok l hl
  obtain ⟨a, q, ha, q0, q1, a0, a1⟩ := act_ok hB 0 (by omega) (by omega)
  unfold spec_DrawActRead.f
  rw [hb]; simp only [Option.bind_some]; rw [ha 12 (by omega)]; simp only [Option.bind_some]
  have ht : ∃ t, spec_ActText.f a = some t ∧ t.size ≤ 3 := by
    unfold spec_ActText.f
    rw [specOk_eq]
    by_cases h : -4 ≤ a ∧ a ≤ 4
    · obtain ⟨t, _, e2, _, e4⟩ := texts h
      exact ⟨t, by rw [decide_eq_true h, e2]; rfl, e4⟩
    · exact ⟨⟨#[]⟩, by rw [decide_eq_false h]; rfl, by decide⟩
  obtain ⟨t, t1, t2⟩ := ht
  rw [t1]; simp only [Option.bind_some]
  obtain ⟨c, hc, c0, c1, _⟩ := pick_ok hB q 4 (by omega) (by omega)
  rw [hc 12 (by omega)]; simp only [Option.bind_some]
  by_cases h : c = 0
  · obtain ⟨r, q', hr, _⟩ := spoil_ok hB t (by omega) (q + 1) (by omega) (by omega)
    rw [if_pos h, hr 12 (by omega)]
    exact ⟨r, rfl⟩
  · rw [if_neg h]; exact ⟨t, rfl⟩
end FnActRead
open FnActRead
theorem FnActRead : laws_FnActRead.Pure := by
  intro l _ _ hl
  refine ⟨12, ?_⟩
  unfold laws_FnActRead.f
  by_cases hL : (l.length : Int) > 1048576
  · rw [if_pos hL]
  rw [if_neg hL]
  obtain ⟨s, hs⟩ := draw_ok l hl
  rw [hs]; simp only [Option.bind_some]
  obtain ⟨r, b, e1, e2, e3⟩ := read_both s
  rw [e1 12 (by omega), e2 12 (by omega)]; simp only [Option.bind_some]
  rw [if_pos trivial]
  cases b with
  | false => simp [laws_FnActRead.j0]
  | true =>
    obtain ⟨r1, r2, t, t1, t2⟩ := e3 rfl
    simp [laws_FnActRead.j0, implOk_eq, t1, t2, r1, r2]

end Go.Proofs.Ytaajnjflcpdbkaa.Pure
