/- Lists of numbers compared and marked; terms marked. -/
import Derived.Test.YtkgmdicbfpkihaaT10
namespace Go.Proofs.Ytkgmdicbfpkihaa.Asl
open Go.RowKit
set_option linter.unusedVariables false
attribute [local irreducible] WP WL andThen inBlock noGoto atEnd ACall DA DL PO Hold actB inB nodeOk
set_option maxHeartbeats 4000000

theorem ints_at {σ : Store} {i : Nat} {xs : List Int} (h : Has σ i (Ints xs)) {k : Nat} (hk : k < xs.length) : At σ i (0 + k * 1) 1 [I xs[k]] := by
  refine ⟨_, h.get, .inr rfl, ?_, rfl⟩
  rw [cut_cutL, Nat.zero_add, Nat.mul_one]
  unfold cutL
  rw [List.drop_eq_getElem_cons (by simpa using hk)]
  simp

section
variable {base : Nat}
theorem c_eqIntS (xs ys : List Int) (i j : Nat) (hx : xs.length ≤ 4294967296) (hy : ys.length ≤ 4294967296) (σ : Store) [hi : Has σ i (Ints xs)] [hj : Has σ j (Ints ys)] :
    ACall Try.prog base F_laws_eqIntS [.sl i 0 xs.length, .sl j 0 ys.length] σ (fun _ => False) (Ret σ (Bo (eqB xs ys))) := by
  refine acall2 fun_laws_eqIntS rfl tmps_laws_eqIntS rfl fun N B w₀ ρ₀ => ?_
  repeat' (first
    | refine wp_seqA ?_
    | refine wp_region_seq ?_
    | refine thru_seq_next ?_
    | refine thru_seq_ret ?_
    | refine wp_skipA ?_
    | refine wp_retA ?_
    | refine wp_blockA ?_
    | refine wl_nil ?_
    | refine wl_pop rfl (po_move rfl) ?_
    | refine wl_pop rfl (po_assign rfl) ?_
    | refine wl_pop rfl (po_binOp rfl rfl rfl) ?_
    | refine wl_pop rfl (po_len (ri := 0) rfl Un.eq) ?_
    | refine wp_condNP rfl (fun _ => ?_) (fun _ => ?_)
    | refine at_ret (res1 rfl rfl) ?_
    | fail)
  · refine ret_ inferInstance (congrArg Bo (eqB_ne ?_).symm)
    rintro rfl; simp_all
  rename_i hl
  have hl' : xs.length = ys.length := by omega
  refine wc_loop [(0, .sl i 0 xs.length), (1, .sl j 0 ys.length)] (fun k : Nat => [(5, I k)]) (fun k σ' => k ≤ xs.length ∧ xs.take k = ys.take k ∧ Grow σ σ') (fun k => xs.length - k) 0 ⟨Nat.zero_le _, rfl, LeS.grow inferInstance⟩ (sub_int rfl (by simp) (sub_cons rfl (sub_cons rfl sub_nil))) ?_
  rintro k σ' ⟨hk, htk, hg⟩
  repeat' (first
    | refine wp_seqA ?_
    | refine wp_region_seq ?_
    | refine thru_seq_next ?_
    | refine thru_seq ?_
    | refine exit_here ?_
    | refine wp_skipA ?_
    | refine wp_retA ?_
    | refine wp_exitA ?_
    | refine wp_blockA ?_
    | refine wl_nil ?_
    | refine wl_pop rfl (po_move rfl) ?_
    | refine wl_pop rfl (po_assign rfl) ?_
    | refine wl_pop rfl (po_binOp rfl rfl rfl) ?_
    | refine wl_pop rfl (po_len (ri := 0) rfl Un.eq) ?_
    | refine wp_condP rfl (fun _ => ?_) (fun _ => ?_)
    | refine at_ret (res1 rfl rfl) ?_
    | fail)
  rotate_left
  · refine ret_ inferInstance (congrArg Bo ?_)
    have : k = xs.length := by omega
    subst this
    rw [List.take_length, List.take_of_length_le (by omega)] at htk
    rw [htk, eqB_self]
  have hk' : k < xs.length := by omega
  have hk2 : k < ys.length := by omega
  have h1 := ints_at (inferInstance : Has σ' i (Ints xs)) hk'
  have h2 := ints_at (inferInstance : Has σ' j (Ints ys)) hk2
  refine wc_drawn [] mixed_ rfl ?_
  refine da_takeC 0 rfl rfl (by kernel_rfl) (by first | exact po_move rfl | fail) ?_
  refine da_takeC 1 rfl rfl (by kernel_rfl) (by first | exact po_move rfl | fail) ?_
  refine da_takeC 2 rfl rfl (by kernel_rfl) (by first | exact pc_indexAddr rfl rfl inferInstance inferInstance (by omega) | fail) ?_
  refine da_takeC 3 rfl rfl (by kernel_rfl) (by first | exact pc_load1L rfl inferInstance inferInstance inferInstance | fail) ?_
  refine da_takeC 4 rfl rfl (by kernel_rfl) (by first | exact po_move rfl | fail) ?_
  refine da_takeC 5 rfl rfl (by kernel_rfl) (by first | exact po_move rfl | fail) ?_
  refine da_takeC 6 rfl rfl (by kernel_rfl) (by first | exact pc_indexAddr rfl rfl inferInstance inferInstance (by omega) | fail) ?_
  refine da_takeC 7 rfl rfl (by kernel_rfl) (by first | exact pc_load1L rfl inferInstance inferInstance inferInstance | fail) ?_
  refine da_takeC 8 rfl rfl (by kernel_rfl) (by first | exact po_binOp rfl rfl rfl | fail) ?_
  refine da_done (by kernel_rfl) ?_
  repeat' (first
    | refine wp_seqA ?_
    | refine wp_region_seq ?_
    | refine thru_seq_next ?_
    | refine thru_seq_ret ?_
    | refine thru_block_ret ?_
    | refine thru_block_next ?_
    | refine wp_skipA ?_
    | refine wp_retA ?_
    | refine wl_nil ?_
    | refine wl_pop rfl (po_move rfl) ?_
    | refine wl_pop rfl (po_assign rfl) ?_
    | refine wl_pop rfl (pc_add rfl rfl (by omega) (by omega)) ?_
    | refine wp_condNP rfl (fun _ => ?_) (fun _ => ?_)
    | refine at_ret (res1 rfl rfl) ?_
    | fail)
  · rename_i he
    refine ret_ inferInstance (congrArg Bo (eqB_ne ?_).symm)
    rintro rfl; exact he rfl
  · rename_i he
    exact ⟨k + 1, by omega, ⟨hk', by rw [List.take_succ_eq_append_getElem hk', List.take_succ_eq_append_getElem hk2, htk, he], LeS.grow inferInstance⟩, sub_int rfl (by simp) (sub_cons rfl (sub_cons rfl sub_nil))⟩
theorem c_eqIntS_self (xs : List Int) (i j : Nat) (hx : xs.length ≤ 4294967296) (σ : Store) [hi : Has σ i (Ints xs)] [hj : Has σ j (Ints xs)] :
    ACall Try.prog base F_laws_eqIntS [.sl i 0 xs.length, .sl j 0 xs.length] σ (fun _ => False) (Ret σ (Bo true)) := by
  have := c_eqIntS (base := base) xs xs i j hx hx σ
  rwa [eqB_self] at this

/-- Numbers that count on. -/
def countFrom (a : Int) : Nat → List Int
  | 0 => []
  | n + 1 => countFrom a n ++ [a + n]
theorem countFrom_len (a : Int) (n : Nat) : (countFrom a n).length = n := by induction n <;> simp_all [countFrom]
theorem countFrom_get (a : Int) {n k : Nat} (h : k < n) : (countFrom a n)[k]? = some (a + k) := by
  induction n with
  | zero => omega
  | succ n ih =>
    simp only [countFrom]
    rcases Nat.lt_or_ge k n with h1 | h1
    · rw [List.getElem?_append_left (by rw [countFrom_len]; exact h1)]; exact ih h1
    · obtain rfl : k = n := by omega
      rw [List.getElem?_append_right (by rw [countFrom_len]; omega), countFrom_len]; simp
theorem c_markIntS (xs : List Int) (i : Nat) (a : Int) (hx : xs.length ≤ 4294967296) (ha : 0 ≤ a) (ha2 : a ≤ 4294967296) (σ : Store) [hi : Has σ i (Ints xs)] :
    ACall Try.prog base F_laws_markIntS [.sl i 0 xs.length, I a] σ (fun j => j = i) (RetUpd σ i (I (a + xs.length)) (Ints (countFrom a xs.length))) := by
  refine acall2 fun_laws_markIntS rfl tmps_laws_markIntS rfl fun N B w₀ ρ₀ => ?_
  repeat' (first
    | refine wp_seqA ?_
    | refine wp_region_seq ?_
    | refine thru_seq_next ?_
    | refine wp_blockA ?_
    | refine wl_nil ?_
    | refine wl_pop rfl (po_assign rfl) ?_
    | fail)
  refine wc_loop [(0, .sl i 0 xs.length)] (fun k : Nat => [(5, I k), (1, I (a + k))]) (fun k σ' => k ≤ xs.length ∧ Has σ' i (Ints (countFrom a k ++ xs.drop k)) ∧ LeX i σ σ') (fun k => xs.length - k) 0 ⟨Nat.zero_le _, by simpa [countFrom] using hi, LeX.refl i σ⟩ (sub_int rfl (by simp) (sub_int rfl (by simp) (sub_cons rfl sub_nil))) ?_
  rintro k σ' ⟨hk, hh, hl⟩
  repeat' (first
    | (refine wc_store1 rfl rfl inferInstance inferInstance inferInstance (by simp [countFrom_len]; omega) (.inl rfl) ?_; intro _ _)
    | refine wp_seqA ?_
    | refine wp_region_seq ?_
    | refine thru_seq_next ?_
    | refine thru_seq ?_
    | refine thru_block_next ?_
    | refine exit_here ?_
    | refine wp_skipA ?_
    | refine wp_retA ?_
    | refine wp_exitA ?_
    | refine wp_blockA ?_
    | refine wl_nil ?_
    | refine wl_pop rfl (po_move rfl) ?_
    | refine wl_pop rfl (po_assign rfl) ?_
    | refine wl_pop rfl (pc_add rfl rfl (by omega) (by omega)) ?_
    | refine wl_pop rfl (po_binOp rfl rfl rfl) ?_
    | refine wl_pop rfl (pc_indexAddr rfl rfl inferInstance inferInstance (by omega)) ?_
    | refine wl_pop rfl (po_len (ri := 0) rfl Un.eq) ?_
    | refine wp_condP rfl (fun _ => ?_) (fun _ => ?_)
    | refine at_ret (res1 rfl rfl) ?_
    | fail)
  · rename_i hk1 σ2 u
    refine ⟨k + 1, by omega, ⟨by omega, ?_, hl.upd u⟩, sub_int rfl (by simp) (sub_int rfl (by push_cast; omega) (sub_cons rfl sub_nil))⟩
    have h3 : Has σ2 i ⟨.own, 1, splice ((countFrom a k ++ xs.drop k).map I) (0 + k * 1) [I (a + k)], []⟩ := inferInstance
    rw [splice_one _ _ _ (by simp [countFrom_len]; omega)] at h3
    have e : ((countFrom a k ++ xs.drop k).map I).set (0 + k * 1) (I (a + k)) = (countFrom a (k + 1) ++ xs.drop (k + 1)).map I := by
      rw [Nat.zero_add, Nat.mul_one, ← List.map_set, List.set_append_right _ _ (by rw [countFrom_len]; omega), countFrom_len, Nat.sub_self, List.drop_eq_getElem_cons (show k < xs.length by omega)]
      simp only [List.set_cons_zero, countFrom, List.append_assoc, List.singleton_append]
    rw [e] at h3; exact h3
  · obtain rfl : k = xs.length := by omega
    refine ⟨rfl, by simpa using hh, hl⟩
theorem c_heldIntS (n i : Nat) (a : Int) (hx : n ≤ 4294967296) (ha : 0 ≤ a) (ha2 : a ≤ 4294967296) (σ : Store) [hi : Has σ i (Ints (countFrom a n))] :
    ACall Try.prog base F_laws_heldIntS [.sl i 0 n, I a] σ (fun _ => False) (Ret σ (I (a + n))) := by
  refine acall2 fun_laws_heldIntS rfl tmps_laws_heldIntS rfl fun N B w₀ ρ₀ => ?_
  repeat' (first
    | refine wp_seqA ?_
    | refine wp_region_seq ?_
    | refine thru_seq_next ?_
    | refine wp_blockA ?_
    | refine wl_nil ?_
    | refine wl_pop rfl (po_assign rfl) ?_
    | fail)
  refine wc_loop [(0, .sl i 0 n)] (fun k : Nat => [(5, I k), (1, I (a + k))]) (fun k σ' => k ≤ n ∧ Grow σ σ') (fun k => n - k) 0 ⟨Nat.zero_le _, LeS.grow inferInstance⟩ (sub_int rfl (by simp) (sub_int rfl (by simp) (sub_cons rfl sub_nil))) ?_
  rintro k σ' ⟨hk, hg⟩
  repeat' (first
    | refine wp_seqA ?_
    | refine wp_region_seq ?_
    | refine thru_seq_next ?_
    | refine thru_seq ?_
    | refine exit_here ?_
    | refine wp_skipA ?_
    | refine wp_retA ?_
    | refine wp_exitA ?_
    | refine wp_blockA ?_
    | refine wl_nil ?_
    | refine wl_pop rfl (po_move rfl) ?_
    | refine wl_pop rfl (po_assign rfl) ?_
    | refine wl_pop rfl (po_binOp rfl rfl rfl) ?_
    | refine wl_pop rfl (pc_indexAddr rfl rfl inferInstance inferInstance (by omega)) ?_
    | refine wl_pop rfl (po_len (ri := 0) rfl Un.eq) ?_
    | refine wp_condP rfl (fun _ => ?_) (fun _ => ?_)
    | refine at_ret (res1 rfl rfl) ?_
    | fail)
  rotate_left
  · obtain rfl : k = n := by omega
    exact ret_ inferInstance rfl
  have hk' : k < n := by omega
  have h1 := ints_at (inferInstance : Has σ' i (Ints (countFrom a n))) (k := k) (by rw [countFrom_len]; exact hk')
  have e : (countFrom a n)[k]'(by rw [countFrom_len]; exact hk') = a + k := by
    have := countFrom_get a hk'
    rw [List.getElem?_eq_getElem (by rw [countFrom_len]; exact hk')] at this
    exact Option.some.inj this
  rw [e] at h1
  repeat' (first
    | refine wp_seqA ?_
    | refine wp_region_seq ?_
    | refine thru_seq_next ?_
    | refine thru_seq_ret ?_
    | refine thru_block_ret ?_
    | refine thru_block_next ?_
    | refine wp_skipA ?_
    | refine wp_retA ?_
    | refine wl_nil ?_
    | refine wl_pop rfl (po_move rfl) ?_
    | refine wl_pop rfl (po_assign rfl) ?_
    | refine wl_pop rfl (pc_add rfl rfl (by omega) (by omega)) ?_
    | refine wl_pop rfl (po_binOp rfl rfl rfl) ?_
    | refine wc_load1 rfl inferInstance inferInstance rfl ?_
    | refine wp_condNP rfl (fun _ => ?_) (fun _ => ?_)
    | refine at_ret (res1 rfl rfl) ?_
    | fail)
  · rename_i hne; exact absurd rfl hne
  · exact ⟨k + 1, by omega, ⟨hk', LeS.grow inferInstance⟩, sub_int rfl (by simp) (sub_int rfl (by push_cast; omega) (sub_cons rfl sub_nil))⟩
end
end Go.Proofs.Ytkgmdicbfpkihaa.Asl
