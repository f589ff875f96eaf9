/- The free names of a term: the program's marks. -/
import Derived.Test.YtcmkkmlgdkhmiaaT8
namespace Go.Proofs.Ytcmkkmlgdkhmiaa.Asl
open Go.RowKit
set_option linter.unusedVariables false
attribute [local irreducible] WP WL andThen inBlock noGoto atEnd ACall DA DL PO Hold actB inB nodeOk
set_option maxHeartbeats 4000000

section
variable {base : Nat}
theorem c_freeNames_of {op n : Int} {ps : List Tm} (hs0 : (Tm.node op n ps).shape = true) (h : ∀ p ∈ ps, p.shape = true → ∀ (m : Nat → Bool) (i : Nat) (σ : Store) (s : AV) [RTs σ s p.ps] [Has σ i (Arr m)],
      ACall Try.prog base F_impl_freeNames [.agg [I p.op, I p.n, s], .pt i 0] σ (fun j => j = i) (RetUpd σ i (.tup []) (Arr fun k => m k || p.fr k)))
    (m : Nat → Bool) (i : Nat) (σ : Store) (s : AV) [hs : RTs σ s ps] [hi : Has σ i (Arr m)] : ACall Try.prog base F_impl_freeNames [.agg [I op, I n, s], .pt i 0] σ (fun j => j = i) (RetUpd σ i (.tup []) (Arr fun k => m k || (Tm.node op n ps).fr k)) := by
  have hb := hs.bound
  have := hs.one
  obtain ⟨hno, hps⟩ := Tm.shape_node hs0
  rw [nodeOk_iff] at hno
  refine acall2 fun_impl_freeNames rfl tmps_impl_freeNames rfl fun N B w₀ ρ₀ => ?_
  repeat' (first
    | refine wl_pop rfl (pc_buildZ (cs := arr fun _ => false) inferInstance inferInstance inferInstance rfl) ?_
    | (refine wc_storeA rfl rfl inferInstance inferInstance rfl (arr_ones _) (Nat.le_of_ble_eq_true rfl) (.inr (may_new _)) ?_; intro _ _)
    | refine wp_seqA ?_
    | refine wp_region_seq ?_
    | refine thru_seq_next ?_
    | refine wp_blockA ?_
    | refine wl_nil ?_
    | refine wl_pop rfl (po_move rfl) ?_
    | refine wl_pop rfl (po_fieldAddr rfl inferInstance) ?_
    | refine wc_load1 rfl inferInstance (at_has (.inl rfl) rfl rfl) rfl ?_
    | (refine wc_boxA rfl inferInstance rfl ?_; intro _ _ _ _ _)
    | (refine wc_allocA (cs := [_, _, _, _]) inferInstance rfl inferInstance rfl ?_; intro _ _ _ _ _)
    | refine wl_pop rfl (pc_lenT rfl inferInstance inferInstance) ?_
    | fail)
  rename_i i2 σ₂ g2 n2 h2 j σ₃ g3 n3 h3 σ₄ u4
  have h4 : Has σ₄ j (Arr fun _ => false) := by
    have : Has σ₄ j ⟨.own, 1, splice [Bo false, Bo false, Bo false, Bo false] 0 (arr fun _ => false), []⟩ := inferInstance
    exact this
  refine wc_loop [(1, .pt i 0), (2, .pt i2 0), (4, .pt j 0), (11, s), (12, I ps.length)] (fun k : Nat => [(13, I k)]) (fun k σ' => k ≤ ps.length ∧ Has σ' j (Arr fun q => Tm.frs q (ps.take k)) ∧ LeS σ₂ σ') (fun k => ps.length - k) 0 ⟨Nat.zero_le _, by simpa [Tm.frs] using h4, inferInstance⟩ (sub_int rfl (by simp) (sub_cons rfl (sub_cons rfl (sub_cons rfl (sub_cons rfl (sub_cons rfl sub_nil)))))) ?_
  rintro k σ' ⟨hk, hj, hg⟩
  have := hg.grow
  repeat' (first
    | refine wc_holdR 7 ?_
    | refine wp_seqA ?_
    | refine wp_region_seq ?_
    | refine thru_seq_next ?_
    | refine thru_seq ?_
    | refine exit_here ?_
    | refine wp_skipA ?_
    | refine wp_exitA ?_
    | refine wp_blockA ?_
    | refine wl_nil ?_
    | refine wl_pop rfl (po_binOp rfl rfl rfl) ?_
    | refine wp_condP rfl (fun _ => ?_) (fun _ => ?_)
    | fail)
  · have hk' : k < ps.length := by omega
    obtain ⟨id, off, s', rfl, hat, hrs⟩ := (inferInstance : RTs σ' s ps).part hk'
    have := hrs.one
    repeat' (first
      | (refine wc_callU rfl inferInstance rfl (h _ (List.getElem_mem hk') (hps _ (List.getElem_mem hk')) _ _ _ _) inferInstance (.inr (may_new _)) rfl ?_; intro _ _ _ _)
      | refine wp_region_seq ?_
      | refine thru_seq_next ?_
      | refine thru_block_next ?_
      | refine wl_nil ?_
      | refine wl_pop rfl (po_move rfl) ?_
      | refine wl_pop rfl (pc_add rfl rfl (by omega) (by omega)) ?_
      | refine wl_pop rfl (pc_indexAddr rfl rfl inferInstance inferInstance (by omega)) ?_
      | refine wc_loadn rfl inferInstance (at_has (cs := [_, _, _]) (.inl rfl) rfl rfl) rfl ?_
      | refine wc_loadn rfl inferInstance inferInstance rfl ?_
      | (refine wc_storeA rfl rfl inferInstance inferInstance rfl inferInstance (Nat.le_of_ble_eq_true rfl) (.inr (may_new _)) ?_; intro _ _)
      | (refine wc_allocA (cs := [_, _, _]) inferInstance rfl inferInstance rfl ?_; intro _ _ _ _ _)
      | fail)
    rename_i σ5 σ6 g6 u6
    refine ⟨k + 1, by omega, ⟨hk', ?_, inferInstance⟩, sub_int rfl (by simp) (sub_cons rfl (sub_cons rfl (sub_cons rfl (sub_cons rfl (sub_cons rfl sub_nil)))))⟩
    have e : (Arr fun q => Tm.frs q (ps.take k) || ps[k].fr q) = Arr fun q => Tm.frs q (ps.take (k + 1)) := by
      simp only [Tm.frs_take _ hk']
    rw [← e]
    infer_instance
  obtain rfl : k = ps.length := by omega
  rw [List.take_length] at hj
  refine wc_cut (ι := Bool) [(1, .pt i 0), (2, .pt i2 0), (4, .pt j 0)] (fun b => [(27, Bo b)]) (fun b σ' => LeS σ₂ σ' ∧ Has σ' j (Arr fun q => Tm.frs q ps) ∧ (b = true ↔ op = 1 ∧ n ≠ 0)) ?_ ?_
  · repeat' (first
      | refine wp_region_seq ?_
      | refine thru_seq_next ?_
      | refine wl_nil ?_
      | refine wl_pop rfl (po_move rfl) ?_
      | refine wl_pop rfl (po_binOp rfl rfl rfl) ?_
      | refine wl_pop rfl (po_fieldAddr rfl inferInstance) ?_
      | refine wc_load1 rfl inferInstance (at_has (.inl rfl) rfl rfl) rfl ?_
      | refine wl_pop rfl (po_pick rfl rfl) ?_
      | refine wc_guardT_true rfl rfl rfl ?_
      | refine wc_guardF_true rfl rfl rfl rfl ?_
      | refine wc_guardP_true rfl rfl rfl rfl (fun _ => ?_) (fun _ => ?_)
      | fail)
    all_goals refine ⟨_, ⟨inferInstance, inferInstance, ?_⟩, sub_cons rfl (sub_cons rfl (sub_cons rfl (sub_cons rfl sub_nil)))⟩
    all_goals simp_all
  rintro b σ5 ⟨hg5, hj5, hb5⟩
  have := hg5.grow
  repeat' (first
    | refine wc_holdIf ?_
    | fail)
  refine wc_cut (ι := Unit) [(1, .pt i 0), (2, .pt i2 0), (4, .pt j 0)] (fun _ => []) (fun _ σ' => LeS σ₂ σ' ∧ Has σ' j (Arr fun q => Tm.frs q ps || decide (op = 1 ∧ n ≠ 0 ∧ max n (-n) - 1 = (q : Int)))) ?_ ?_
  · repeat' (first
      | refine wp_region_seq ?_
      | refine thru_seq_next ?_
      | refine wp_skipA ?_
      | refine wl_pop rfl (po_fieldAddr rfl inferInstance) ?_
      | refine wc_load1 rfl inferInstance (at_has (.inl rfl) rfl rfl) rfl ?_
      | refine wp_condA rfl (fun _ => ?_) (fun _ => ?_)
      | fail)
    · rename_i hbt
      obtain ⟨ho, hn0⟩ := hb5.mp hbt
      have hr : -4 ≤ n ∧ n ≤ 4 := by omega
      repeat' (first
        | (refine wc_callR rfl inferInstance rfl (c_nameOf _ _ hr.1 hr.2 hn0) rfl ?_; intro _ _)
        | refine wl_pop rfl (pc_indexAddrArr rfl rfl inferInstance inferInstance (by omega)) ?_
        | (refine wc_store1 rfl rfl inferInstance inferInstance inferInstance (by simp [arr]; omega) (.inr (may_new _)) ?_; intro _ _)
        | refine thru_seq_next ?_
        | refine wl_nil ?_
        | fail)
      rename_i σ7 u7
      refine ⟨(), ⟨inferInstance, ?_⟩, sub_cons rfl (sub_cons rfl (sub_cons rfl sub_nil))⟩
      have hh : Has σ7 j ⟨.own, 1, splice (arr fun q => Tm.frs q ps) (0 + (max n (-n) - 1).toNat * 1) [Bo true], []⟩ := inferInstance
      rw [Nat.zero_add, Nat.mul_one, arr_set (by omega)] at hh
      have e : arr (fun q => if q = (max n (-n) - 1).toNat then true else Tm.frs q ps) = arr (fun q => Tm.frs q ps || decide (op = 1 ∧ n ≠ 0 ∧ max n (-n) - 1 = (q : Int))) := by
        refine arr_ext fun k hk => ?_
        by_cases hq : k = (max n (-n) - 1).toNat
        · rw [if_pos hq]
          have : (op = 1 ∧ n ≠ 0 ∧ max n (-n) - 1 = (k : Int)) := ⟨ho, hn0, by omega⟩
          simp [this]
        · rw [if_neg hq]
          have : ¬ (op = 1 ∧ n ≠ 0 ∧ max n (-n) - 1 = (k : Int)) := by omega
          simp [this]
      rw [e] at hh; exact hh
    · rename_i hbf
      refine ⟨(), ⟨inferInstance, ?_⟩, sub_cons rfl (sub_cons rfl (sub_cons rfl sub_nil))⟩
      refine hj5.arr fun k hk => ?_
      have : ¬ (op = 1 ∧ n ≠ 0 ∧ max n (-n) - 1 = (k : Int)) := fun h => by
        have := hb5.mpr ⟨h.1, h.2.1⟩; simp [this] at hbf
      simp [this]
  rintro _ σ6 ⟨hg6, hj6⟩
  have := hg6.grow
  repeat' (first
    | refine wc_holdIf ?_
    | refine wp_seqA ?_
    | refine wp_region_seq ?_
    | refine thru_seq_next ?_
    | refine wl_nil ?_
    | refine wl_pop rfl (po_binOp rfl rfl rfl) ?_
    | refine wl_pop rfl (po_fieldAddr rfl inferInstance) ?_
    | refine wc_load1 rfl inferInstance (at_has (.inl rfl) rfl rfl) rfl ?_
    | fail)
  refine wc_cut (ι := Unit) [(1, .pt i 0), (2, .pt i2 0), (4, .pt j 0)] (fun _ => []) (fun _ σ' => LeS σ₂ σ' ∧ Has σ' j (Arr fun q => (Tm.node op n ps).fr q)) ?_ ?_
  · repeat' (first
      | refine wp_region_seq ?_
      | refine thru_seq_next ?_
      | refine wp_skipA ?_
      | refine wl_pop rfl (po_fieldAddr rfl inferInstance) ?_
      | refine wc_load1 rfl inferInstance (at_has (.inl rfl) rfl rfl) rfl ?_
      | refine wp_condP rfl (fun _ => ?_) (fun _ => ?_)
      | fail)
    · rename_i ho
      have hr : 0 ≤ n ∧ n ≤ 3 := by omega
      obtain ⟨n', rfl⟩ := Int.eq_ofNat_of_zero_le hr.1
      repeat' (first
        | refine wl_pop rfl (pc_indexAddrArr rfl rfl inferInstance inferInstance (by omega)) ?_
        | (refine wc_store1 rfl rfl inferInstance inferInstance inferInstance (by simp [arr]; omega) (.inr (may_new _)) ?_; intro _ _)
        | refine thru_seq_next ?_
        | refine wl_nil ?_
        | fail)
      rename_i σ7 u7
      refine ⟨(), ⟨inferInstance, ?_⟩, sub_cons rfl (sub_cons rfl (sub_cons rfl sub_nil))⟩
      have hh : Has σ7 j ⟨.own, 1, splice (arr fun q => Tm.frs q ps || decide (op = 1 ∧ (n' : Int) ≠ 0 ∧ max (n' : Int) (-(n' : Int)) - 1 = (q : Int))) (0 + n' * 1) [Bo false], []⟩ := inferInstance
      rw [Nat.zero_add, Nat.mul_one, arr_set (by omega)] at hh
      refine cast (congrArg (fun l => Has σ7 j ⟨.own, 1, l, []⟩) (arr_ext fun k hk => ?_)) hh
      simp only [Tm.fr]
      by_cases hq : k = n'
      · subst hq; simp [ho]
      · have : ¬ (op = 4 ∧ (n' : Int) = (k : Int)) := by omega
        rw [if_neg hq, if_neg this]
    · rename_i ho
      refine ⟨(), ⟨inferInstance, ?_⟩, sub_cons rfl (sub_cons rfl (sub_cons rfl sub_nil))⟩
      refine cast (congrArg (fun l => Has _ j ⟨.own, 1, l, []⟩) (arr_ext fun k hk => ?_)) hj6
      simp only [Tm.fr]
      have : ¬ (op = 4 ∧ n = (k : Int)) := by omega
      rw [if_neg this]
  rintro _ σ7 ⟨hg7, hj7⟩
  have := hg7.grow
  have hat4 := arr_at4 hj7
  repeat' (first
    | refine wp_seqA ?_
    | refine wp_region_seq ?_
    | refine thru_seq_next ?_
    | refine wp_blockA ?_
    | refine wl_nil ?_
    | refine wl_pop rfl (po_move rfl) ?_
    | refine wc_loadn rfl inferInstance (at_has (cs := [_, _, _, _]) (.inl rfl) rfl rfl) rfl ?_
    | fail)
  refine wc_loop [(1, .pt i 0), (38, .agg (arr fun q => (Tm.node op n ps).fr q))] (fun k : Nat => [(39, I k)]) (fun k σ' => k ≤ 4 ∧ Has σ' i (Arr fun q => if q < k then m q || (Tm.node op n ps).fr q else m q) ∧ LeX i σ σ') (fun k => 4 - k) 0 ⟨Nat.zero_le _, Has.arr (m := m) inferInstance (fun k _ => by simp), (LeX.refl i σ).les inferInstance⟩ (sub_int rfl (by simp) (sub_cons rfl (sub_cons rfl sub_nil))) ?_
  rintro k σ' ⟨hk, hi', hx⟩
  repeat' (first
    | refine wl_pop rfl (pc_indexArr rfl rfl inferInstance inferInstance (by omega) (arr_get (by omega))) ?_
    | refine wp_seqA ?_
    | refine wp_region_seq ?_
    | refine thru_seq_next ?_
    | refine thru_seq ?_
    | refine exit_here ?_
    | refine wp_skipA ?_
    | refine wp_exitA ?_
    | refine wp_blockA ?_
    | refine wl_nil ?_
    | refine wl_pop rfl (po_move rfl) ?_
    | refine wl_pop rfl (po_assign rfl) ?_
    | refine wl_pop rfl (po_binOp rfl rfl rfl) ?_
    | refine wp_condP rfl (fun _ => ?_) (fun _ => ?_)
    | fail)
  rotate_left
  · obtain rfl : k = 4 := by omega
    refine at_next (res0 rfl) ?_
    exact ⟨rfl, hi'.arr fun q hq => by rw [if_pos hq], hx⟩
  have hk4 : k < 4 := by omega
  have hatk : At σ' i (0 + k * 1) 1 [Bo (m k)] := by
    have := arr_at hi' hk4
    simpa using this
  have hnext : ∀ σ'', Upd σ' i ⟨.own, 1, splice (arr fun q => if q < k then m q || (Tm.node op n ps).fr q else m q) (0 + k * 1) [Bo (m k || (Tm.node op n ps).fr k)], []⟩ σ'' →
      k + 1 ≤ 4 ∧ Has σ'' i (Arr fun q => if q < k + 1 then m q || (Tm.node op n ps).fr q else m q) ∧ LeX i σ σ'' := by
    intro σ'' u
    refine ⟨hk4, ?_, hx.upd u⟩
    have hh : Has σ'' i ⟨.own, 1, splice (arr fun q => if q < k then m q || (Tm.node op n ps).fr q else m q) (0 + k * 1) [Bo (m k || (Tm.node op n ps).fr k)], []⟩ := inferInstance
    rw [Nat.zero_add, Nat.mul_one, arr_set hk4] at hh
    refine Has.arr hh fun q hq => ?_
    by_cases e : q = k
    · subst e; rw [if_pos rfl, if_pos (by omega)]
    · rw [if_neg e]
      by_cases h1 : q < k
      · rw [if_pos h1, if_pos (by omega)]
      · rw [if_neg h1, if_neg (by omega)]
  refine wc_drawn [12] mixed_ rfl ?_
  refine da_takeC 0 rfl rfl (by kernel_rfl) (by first | exact po_move rfl | fail) ?_
  refine da_takeC 1 rfl rfl (by kernel_rfl) (by first | exact po_move rfl | fail) ?_
  refine da_takeC 2 rfl rfl (by kernel_rfl) (by first | exact po_move rfl | fail) ?_
  refine da_takeC 3 rfl rfl (by kernel_rfl) (by first | exact po_move rfl | fail) ?_
  refine da_takeC 4 rfl rfl (by kernel_rfl) (by first | exact po_nilCheck rfl | fail) ?_
  refine da_takeC 5 rfl rfl (by kernel_rfl) (by first | exact pc_indexAddrArr rfl rfl inferInstance inferInstance (by omega) | fail) ?_
  refine da_takeC 6 rfl rfl (by kernel_rfl) (by first | exact pc_load1L rfl inferInstance inferInstance inferInstance | fail) ?_
  refine da_takeC 7 rfl rfl (by kernel_rfl) (by first | exact po_move rfl | fail) ?_
  refine da_case (t := 50) rfl (fun hm => ?_) (fun hm => ?_)
  · refine da_offC 8 rfl rfl rfl rfl rfl rfl (by kernel_rfl) ?_
    refine da_takeC 9 rfl rfl (by kernel_rfl) (by first | exact po_pick rfl rfl | fail) ?_
    refine da_takeC 10 rfl rfl (by kernel_rfl) (by first | exact po_nilCheck rfl | fail) ?_
    refine da_takeC 11 rfl rfl (by kernel_rfl) (by first | exact pc_indexAddrArr rfl rfl inferInstance inferInstance (by omega) | fail) ?_
    refine da_store1 12 rfl (by decide) (by kernel_rfl) rfl rfl inferInstance inferInstance inferInstance (by simp [arr]; omega) (.inl rfl) ?_
    intro σ'' u
    refine dl_done (by kernel_rfl) ?_
    repeat' (first
      | refine wp_region_seq ?_
      | refine thru_seq_next ?_
      | refine thru_block_next ?_
      | refine wl_nil ?_
      | refine wl_pop rfl (po_move rfl) ?_
      | refine wl_pop rfl (pc_add rfl rfl (by omega) (by omega)) ?_
      | fail)
    exact ⟨k + 1, by omega, hnext _ (by rw [hm, Bool.true_or]; exact u), sub_int rfl (by simp) (sub_cons rfl (sub_cons rfl sub_nil))⟩
  · refine da_onC 8 rfl rfl rfl rfl rfl (by kernel_rfl) (po_move rfl) ?_
    refine da_takeC 9 rfl rfl (by kernel_rfl) (by first | exact po_pick rfl rfl | fail) ?_
    refine da_takeC 10 rfl rfl (by kernel_rfl) (by first | exact po_nilCheck rfl | fail) ?_
    refine da_takeC 11 rfl rfl (by kernel_rfl) (by first | exact pc_indexAddrArr rfl rfl inferInstance inferInstance (by omega) | fail) ?_
    refine da_store1 12 rfl (by decide) (by kernel_rfl) rfl rfl inferInstance inferInstance inferInstance (by simp [arr]; omega) (.inl rfl) ?_
    intro σ'' u
    refine dl_done (by kernel_rfl) ?_
    repeat' (first
      | refine wp_region_seq ?_
      | refine thru_seq_next ?_
      | refine thru_block_next ?_
      | refine wl_nil ?_
      | refine wl_pop rfl (po_move rfl) ?_
      | refine wl_pop rfl (pc_add rfl rfl (by omega) (by omega)) ?_
      | fail)
    exact ⟨k + 1, by omega, hnext _ (by rw [hm, Bool.false_or]; exact u), sub_int rfl (by simp) (sub_cons rfl (sub_cons rfl sub_nil))⟩
theorem c_freeNames (t : Tm) : t.shape = true → ∀ (m : Nat → Bool) (i : Nat) (σ : Store) (s : AV) [RTs σ s t.ps] [Has σ i (Arr m)],
      ACall Try.prog base F_impl_freeNames [.agg [I t.op, I t.n, s], .pt i 0] σ (fun j => j = i) (RetUpd σ i (.tup []) (Arr fun k => m k || t.fr k)) :=
  Tm.ind (P := fun t => t.shape = true → ∀ (m : Nat → Bool) (i : Nat) (σ : Store) (s : AV) [RTs σ s t.ps] [Has σ i (Arr m)],
      ACall Try.prog base F_impl_freeNames [.agg [I t.op, I t.n, s], .pt i 0] σ (fun j => j = i) (RetUpd σ i (.tup []) (Arr fun k => m k || t.fr k)))
    (fun op n ps ih hs => c_freeNames_of hs ih) t
end
end Go.Proofs.Ytcmkkmlgdkhmiaa.Asl
