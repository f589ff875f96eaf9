/- The text of a term, as the program says it. -/
import Derived.Test.YthbodgnoadlbcaaDoorH4
import Derived.Test.YthbodgnoadlbcaaDoorSL
namespace Go.Proofs.YthbodgnoadlbcaaDoor.Asl
open Go.RowKit Go.Proofs.YthbodgnoadlbcaaDoorW.PrintLast
set_option linter.unusedVariables false
set_option linter.unusedSimpArgs false
attribute [local irreducible] WP WL andThen inBlock noGoto atEnd ACall DA DL PO Hold nodeOk
set_option maxHeartbeats 4000000
set_option synthInstance.maxHeartbeats 400000
set_option synthInstance.maxSize 10000
section
variable {base : Nat}
theorem acall_plain1 {P : Program} {f : FuncId} {σ : Store} {u v : Value} (h : ∀ w, Calls P f #[u] w fun e w' => e = .returned v ∧ w' = w) : ACall P base f [.lit u] σ (fun _ => False) (Ret σ (.lit v)) := by
  unfold ACall
  intro w ρ us h1 h2
  cases h1 with
  | cons a b =>
    cases b
    have := R_lit a
    subst this
    refine (h w).mono ?_
    rintro e w' ⟨rfl, rfl⟩
    exact ⟨.lit v, v, σ, ρ, rfl, .lit v, ret_ inferInstance rfl, h2, Le.refl _, Nat.le_refl _, fun _ _ h _ => h, fun id p hp hi => absurd (h2.dom id p hp) (by omega), Fr.refl _ _ _⟩
theorem c_Itoa (n : Int) (hn : 0 ≤ n ∧ n ≤ 2) (σ : Store) : ACall Tryd.prog base F_strconv_Itoa [I n] σ (fun _ => False) (Ret σ (Str (ofL (decB n)))) := by
  obtain ⟨k, rfl⟩ := Int.eq_ofNat_of_zero_le hn.1
  have e : Lib.decDigits k = decB k := by
    have : k = 0 ∨ k = 1 ∨ k = 2 := by omega
    rcases this with rfl | rfl | rfl <;> decide +kernel
  rw [← e]
  exact acall_plain1 fun w => Any.strconv_Itoa_small Tryd.layItoa k (by omega) w
theorem c_nameText (n : Int) (h0 : 0 ≤ n) (h1 : n ≤ 3) (σ : Store) : ACall Tryd.prog base F_impl_nameText [I n] σ (fun _ => False) (Ret σ (Str (ofL [letB n]))) := by
  refine acall1 fun_impl_nameText rfl tmps_impl_nameText rfl fun N B w₀ ρ₀ => ?_
  repeat' (first
    | refine wl_pop rfl (pc_toByte rfl inferInstance inferInstance (by omega) (by omega)) ?_
    | (refine wc_oneU8 rfl inferInstance inferInstance rfl (by decide) rfl ?_; intro _ _ _ _ _)
    | refine wl_pop rfl (pc_convByte rfl inferInstance inferInstance inferInstance (at_has (cs := [_]) (.inl rfl) rfl rfl) (Has.lt inferInstance)) ?_
    | refine wp_seqA ?_
    | refine wp_region_seq ?_
    | refine thru_seq_next ?_
    | refine wp_retA ?_
    | refine wl_nil ?_
    | refine wl_pop rfl (po_move rfl) ?_
    | refine wl_pop rfl (po_assign rfl) ?_
    | refine wl_pop rfl (pc_add rfl rfl (by omega) (by omega)) ?_
    | refine at_ret (res1 rfl rfl) ?_
    | exact ret_ inferInstance rfl
    | fail)
theorem c_nameOfP (a : Int) (h0 : 0 < a) (h1 : a ≤ 4) (σ : Store) : ACall Tryd.prog base F_impl_nameOf [I a] σ (fun _ => False) (Ret σ (I (a - 1))) := by
  have h := c_nameOf (base := base) σ a (by omega) h1 (by omega)
  rwa [show (((max a (-a) - 1).toNat : Nat) : Int) = a - 1 by omega] at h
theorem c_nameOfN (a : Int) (h0 : a < 0) (h1 : -4 ≤ a) (σ : Store) : ACall Tryd.prog base F_impl_nameOf [I a] σ (fun _ => False) (Ret σ (I (-a - 1))) := by
  have h := c_nameOf (base := base) σ a h1 (by omega) (by omega)
  rwa [show (((max a (-a) - 1).toNat : Nat) : Int) = -a - 1 by omega] at h
theorem c_ActText (a : Int) (h0 : -4 ≤ a) (h1 : a ≤ 4) (σ : Store) : ACall Tryd.prog base F_impl_ActText [I a] σ (fun _ => False) (Ret σ (Str (ofL (actT a)))) := by
  have hact : actB a = true := by simp [actB, inB]; omega
  refine acall1 fun_impl_ActText rfl tmps_impl_ActText rfl fun N B w₀ ρ₀ => ?_
  repeat' (first
    | (refine wc_callR rfl inferInstance rfl (hact ▸ c_ActOk _ _) rfl ?_; intro _ _)
    | (refine wc_callR rfl inferInstance rfl (c_nameOfP a (by omega) h1 _) rfl ?_; intro _ _)
    | (refine wc_callR rfl inferInstance rfl (c_nameOfN a (by omega) h0 _) rfl ?_; intro _ _)
    | (refine wc_callR rfl inferInstance rfl (c_nameText _ (by omega) (by omega) _) rfl ?_; intro _ _)
    | refine wl_pop rfl (pc_cat (a := [33]) rfl rfl (by simp)) ?_
    | refine wp_seqA ?_
    | refine wp_region_seq ?_
    | refine thru_seq_next ?_
    | refine thru_seq_ret ?_
    | refine thru_block_ret ?_
    | refine thru_block_next ?_
    | refine wp_skipA ?_
    | refine wp_retA ?_
    | refine wp_blockA ?_
    | refine wl_nil ?_
    | refine wl_pop rfl (po_move rfl) ?_
    | refine wl_pop rfl (po_assign rfl) ?_
    | refine wl_pop rfl (po_binOp rfl rfl rfl) ?_
    | refine wl_pop rfl (po_not rfl) ?_
    | refine wp_condF rfl ?_
    | refine wp_condP rfl (fun _ => ?_) (fun _ => ?_)
    | refine at_ret (res1 rfl rfl) ?_
    | fail)
  · subst_vars; exact ret_ (inferInstance : LeS σ _) rfl
  · exact ret_ inferInstance (congrArg (fun x => Str (ofL x)) (show [letB (a - 1)] = actT a by unfold actT; rw [if_neg (by omega), if_neg (by omega)]))
  · refine ret_ inferInstance ?_
    refine congrArg (fun x => Str (ofL x)) ?_
    unfold actT
    rw [if_neg (by omega), if_pos (by omega)]; rfl
theorem c_tO_nil (σ : Store) (s : AV) [hs : RTs σ s []] : ACall Tryd.prog base F_impl_textOf [.agg [I 0, I 0, s]] σ (fun _ => False) (Ret σ (Str (ofL [48]))) := by
  have := hs.one
  refine acall1 fun_impl_textOf rfl tmps_impl_textOf rfl fun N B w₀ ρ₀ => ?_
  repeat' (first
    | refine wp_seqA ?_
    | refine wp_region_seq ?_
    | refine thru_seq_next ?_
    | refine thru_block_next ?_
    | refine wp_skipA ?_
    | refine wp_retA ?_
    | refine wp_blockA ?_
    | refine wl_nil ?_
    | refine wl_pop rfl (po_assign rfl) ?_
    | refine wl_pop rfl (po_binOp rfl rfl rfl) ?_
    | refine wl_pop rfl (po_fieldAddr rfl inferInstance) ?_
    | refine wc_load1 rfl inferInstance (at_has (.inl rfl) rfl rfl) rfl ?_
    | (refine wc_boxA rfl inferInstance rfl ?_; intro _ _ _ _ _)
    | refine wp_condF rfl ?_
    | refine at_ret (res1 rfl rfl) ?_
    | exact ret_ inferInstance rfl
    | fail)
theorem c_tO_call (n : Int) (hn : 0 ≤ n ∧ n ≤ 2) (σ : Store) (s : AV) [hs : RTs σ s []] : ACall Tryd.prog base F_impl_textOf [.agg [I 5, I n, s]] σ (fun _ => False) (Ret σ (Str (ofL (88 :: decB n)))) := by
  have := hs.one
  refine acall1 fun_impl_textOf rfl tmps_impl_textOf rfl fun N B w₀ ρ₀ => ?_
  repeat' (first
    | (refine wc_callR rfl inferInstance rfl (c_Itoa n hn _) rfl ?_; intro _ _)
    | refine wl_pop rfl (pc_cat (a := [88]) rfl rfl (by simp [decB])) ?_
    | refine wp_seqA ?_
    | refine wp_region_seq ?_
    | refine thru_seq_next ?_
    | refine thru_seq_ret ?_
    | refine thru_block_ret ?_
    | refine wp_retA ?_
    | refine wp_blockA ?_
    | refine wl_nil ?_
    | refine wl_pop rfl (po_assign rfl) ?_
    | refine wl_pop rfl (po_binOp rfl rfl rfl) ?_
    | refine wl_pop rfl (po_fieldAddr rfl inferInstance) ?_
    | refine wc_load1 rfl inferInstance (at_has (.inl rfl) rfl rfl) rfl ?_
    | (refine wc_boxA rfl inferInstance rfl ?_; intro _ _ _ _ _)
    | refine wp_condT rfl ?_
    | refine wp_condF rfl ?_
    | refine at_ret (res1 rfl rfl) ?_
    | exact ret_ inferInstance rfl
    | fail)
theorem c_tO_act (n : Int) (hn : -4 ≤ n ∧ n ≤ 4) (p : Tm) (hc : p.cnt ≤ 1000000) (hp : CTx base F_impl_textOf p) (σ : Store) (s : AV) [hs : RTs σ s [p]] : ACall Tryd.prog base F_impl_textOf [.agg [I 1, I n, s]] σ (fun _ => False) (Ret σ (Str (ofL (Tm.node 1 n [p]).txt))) := by
  have hal := actT_len n
  have htl := Tm.txt_len p
  obtain ⟨id, off, s', rfl, hat, hrs⟩ := hs.part (k := 0) (by simp)
  have := hrs.one
  simp only [List.getElem_cons_zero] at hat hrs
  refine acall1 fun_impl_textOf rfl tmps_impl_textOf rfl fun N B w₀ ρ₀ => ?_
  repeat' (first
    | refine wp_seqA ?_
    | refine wp_region_seq ?_
    | refine thru_seq_next ?_
    | refine wp_blockA ?_
    | refine wl_nil ?_
    | refine wl_pop rfl (po_assign rfl) ?_
    | refine wl_pop rfl (po_binOp rfl rfl rfl) ?_
    | refine wl_pop rfl (po_fieldAddr rfl inferInstance) ?_
    | refine wc_load1 rfl inferInstance (at_has (.inl rfl) rfl rfl) rfl ?_
    | (refine wc_boxA rfl inferInstance rfl ?_; intro _ _ _ _ _)
    | refine wp_condT rfl ?_
    | fail)
  rename_i i1 σ1 g1 n1 h1
  have hat1 : At σ1 id (off + Int.toNat 0 * 3) 3 [I p.op, I p.n, s'] := hat.grow inferInstance
  refine wc_drawn [] mixed_ rfl ?_
  all_goals (first | refine da_takeC 0 rfl rfl (by kernel_rfl) (by first | exact po_fieldAddr rfl inferInstance | fail) ?_ | (refine da_one 0 rfl (by kernel_rfl) (fun _ _ _ _ => ?_); (repeat' (first | fail)); all_goals (first | refine wl_nil ⟨rfl, (by first | exact LeS.len inferInstance | exact App.len (by assumption)), ?_⟩ | fail)))
  all_goals (first | refine da_takeC 1 rfl rfl (by kernel_rfl) (by first | exact pc_load1L rfl inferInstance (at_has (.inl rfl) rfl rfl) inferInstance | fail) ?_ | (refine da_one 1 rfl (by kernel_rfl) (fun _ _ _ _ => ?_); (repeat' (first | fail)); all_goals (first | refine wl_nil ⟨rfl, (by first | exact LeS.len inferInstance | exact App.len (by assumption)), ?_⟩ | fail)))
  all_goals (first | refine da_takeC 5 rfl rfl (by kernel_rfl) (by first | exact po_fieldAddr rfl inferInstance | fail) ?_ | (refine da_one 5 rfl (by kernel_rfl) (fun _ _ _ _ => ?_); (repeat' (first | fail)); all_goals (first | refine wl_nil ⟨rfl, (by first | exact LeS.len inferInstance | exact App.len (by assumption)), ?_⟩ | fail)))
  all_goals (first | refine da_takeC 6 rfl rfl (by kernel_rfl) (by first | exact pc_load1L rfl inferInstance (at_has (.inl rfl) rfl rfl) inferInstance | fail) ?_ | (refine da_one 6 rfl (by kernel_rfl) (fun _ _ _ _ => ?_); (repeat' (first | fail)); all_goals (first | refine wl_nil ⟨rfl, (by first | exact LeS.len inferInstance | exact App.len (by assumption)), ?_⟩ | fail)))
  all_goals (first | refine da_takeC 7 rfl rfl (by kernel_rfl) (by first | exact pc_indexSlZ rfl rfl inferInstance inferInstance (by decide) (by simp) | fail) ?_ | (refine da_one 7 rfl (by kernel_rfl) (fun _ _ _ _ => ?_); (repeat' (first | fail)); all_goals (first | refine wl_nil ⟨rfl, (by first | exact LeS.len inferInstance | exact App.len (by assumption)), ?_⟩ | fail)))
  all_goals (first | refine da_takeC 8 rfl rfl (by kernel_rfl) (by first | exact pc_loadnL rfl inferInstance inferInstance inferInstance | fail) ?_ | (refine da_one 8 rfl (by kernel_rfl) (fun _ _ _ _ => ?_); (repeat' (first | fail)); all_goals (first | refine wl_nil ⟨rfl, (by first | exact LeS.len inferInstance | exact App.len (by assumption)), ?_⟩ | fail)))
  all_goals (first | (refine da_one 2 rfl (by kernel_rfl) (fun _ _ _ _ => ?_); (repeat' (first | (refine wc_callR rfl inferInstance rfl (c_ActText n hn.1 hn.2 _) rfl ?_; intro _ _) | fail)); all_goals (first | refine wl_nil ⟨rfl, (by first | exact LeS.len inferInstance | exact App.len (by assumption)), ?_⟩ | trace_state)))
  all_goals (first | refine da_takeC 3 rfl rfl (by kernel_rfl) (by first | exact pc_cat (a := [40, 97, 99, 116, 32]) rfl rfl (by simp only [List.length_cons, List.length_nil]; omega) | fail) ?_ | (refine da_one 3 rfl (by kernel_rfl) (fun _ _ _ _ => ?_); (repeat' (first | fail)); all_goals (first | refine wl_nil ⟨rfl, (by first | exact LeS.len inferInstance | exact App.len (by assumption)), ?_⟩ | fail)))
  all_goals (first | refine da_takeC 4 rfl rfl (by kernel_rfl) (by first | exact pc_cat (b := [32]) rfl rfl (by simp only [List.length_append, List.length_cons, List.length_nil]; omega) | fail) ?_ | (refine da_one 4 rfl (by kernel_rfl) (fun _ _ _ _ => ?_); (repeat' (first | fail)); all_goals (first | refine wl_nil ⟨rfl, (by first | exact LeS.len inferInstance | exact App.len (by assumption)), ?_⟩ | fail)))
  all_goals (first | (refine da_one 9 rfl (by kernel_rfl) (fun _ _ _ _ => ?_); (repeat' (first | (refine wc_callR rfl inferInstance rfl (hp _ _ inferInstance) rfl ?_; intro _ _) | fail)); all_goals (first | refine wl_nil ⟨rfl, (by first | exact LeS.len inferInstance | exact App.len (by assumption)), ?_⟩ | trace_state)))
  all_goals (first | refine da_takeC 10 rfl rfl (by kernel_rfl) (by first | exact pc_cat rfl rfl (by simp only [List.length_append, List.length_cons, List.length_nil]; omega) | fail) ?_ | (refine da_one 10 rfl (by kernel_rfl) (fun _ _ _ _ => ?_); (repeat' (first | fail)); all_goals (first | refine wl_nil ⟨rfl, (by first | exact LeS.len inferInstance | exact App.len (by assumption)), ?_⟩ | fail)))
  all_goals (first | refine da_takeC 11 rfl rfl (by kernel_rfl) (by first | exact pc_cat (b := [41]) rfl rfl (by simp only [List.length_append, List.length_cons, List.length_nil]; omega) | fail) ?_ | (refine da_one 11 rfl (by kernel_rfl) (fun _ _ _ _ => ?_); (repeat' (first | fail)); all_goals (first | refine wl_nil ⟨rfl, (by first | exact LeS.len inferInstance | exact App.len (by assumption)), ?_⟩ | fail)))
  all_goals (first | refine da_takeC 12 rfl rfl (by kernel_rfl) (by first | exact po_assign rfl | fail) ?_ | (refine da_one 12 rfl (by kernel_rfl) (fun _ _ _ _ => ?_); (repeat' (first | fail)); all_goals (first | refine wl_nil ⟨rfl, (by first | exact LeS.len inferInstance | exact App.len (by assumption)), ?_⟩ | fail)))
  all_goals refine da_done (by kernel_rfl) ?_
  repeat' (first
    | refine thru_seq_next ?_
    | refine thru_seq_ret ?_
    | refine thru_block_ret ?_
    | refine wp_retA ?_
    | refine at_ret (res1 rfl rfl) ?_
    | fail)
  exact ret_ inferInstance (congrArg (fun x => Str (ofL x)) (by rw [txt_1]; simp))
theorem c_tO_hide (n : Int) (hn : 0 ≤ n ∧ n ≤ 3) (p : Tm) (hc : p.cnt ≤ 1000000) (hp : CTx base F_impl_textOf p) (σ : Store) (s : AV) [hs : RTs σ s [p]] : ACall Tryd.prog base F_impl_textOf [.agg [I 4, I n, s]] σ (fun _ => False) (Ret σ (Str (ofL (Tm.node 4 n [p]).txt))) := by
  have htl := Tm.txt_len p
  obtain ⟨id, off, s', rfl, hat, hrs⟩ := hs.part (k := 0) (by simp)
  have := hrs.one
  simp only [List.getElem_cons_zero] at hat hrs
  refine acall1 fun_impl_textOf rfl tmps_impl_textOf rfl fun N B w₀ ρ₀ => ?_
  repeat' (first
    | refine wp_seqA ?_
    | refine wp_region_seq ?_
    | refine thru_seq_next ?_
    | refine wp_blockA ?_
    | refine wl_nil ?_
    | refine wl_pop rfl (po_assign rfl) ?_
    | refine wl_pop rfl (po_binOp rfl rfl rfl) ?_
    | refine wl_pop rfl (po_fieldAddr rfl inferInstance) ?_
    | refine wc_load1 rfl inferInstance (at_has (.inl rfl) rfl rfl) rfl ?_
    | (refine wc_boxA rfl inferInstance rfl ?_; intro _ _ _ _ _)
    | refine wp_condT rfl ?_
    | refine wp_condF rfl ?_
    | fail)
  rename_i i1 σ1 g1 n1 h1
  have hat1 : At σ1 id (off + Int.toNat 0 * 3) 3 [I p.op, I p.n, s'] := hat.grow inferInstance
  refine wc_drawn [] mixed_ rfl ?_
  all_goals (first | refine da_takeC 0 rfl rfl (by kernel_rfl) (by first | exact po_fieldAddr rfl inferInstance | fail) ?_ | (refine da_one 0 rfl (by kernel_rfl) (fun _ _ _ _ => ?_); (repeat' (first | fail)); all_goals (first | refine wl_nil ⟨rfl, (by first | exact LeS.len inferInstance | exact App.len (by assumption)), ?_⟩ | fail)))
  all_goals (first | refine da_takeC 1 rfl rfl (by kernel_rfl) (by first | exact pc_load1L rfl inferInstance (at_has (.inl rfl) rfl rfl) inferInstance | fail) ?_ | (refine da_one 1 rfl (by kernel_rfl) (fun _ _ _ _ => ?_); (repeat' (first | fail)); all_goals (first | refine wl_nil ⟨rfl, (by first | exact LeS.len inferInstance | exact App.len (by assumption)), ?_⟩ | fail)))
  all_goals (first | refine da_takeC 5 rfl rfl (by kernel_rfl) (by first | exact po_fieldAddr rfl inferInstance | fail) ?_ | (refine da_one 5 rfl (by kernel_rfl) (fun _ _ _ _ => ?_); (repeat' (first | fail)); all_goals (first | refine wl_nil ⟨rfl, (by first | exact LeS.len inferInstance | exact App.len (by assumption)), ?_⟩ | fail)))
  all_goals (first | refine da_takeC 6 rfl rfl (by kernel_rfl) (by first | exact pc_load1L rfl inferInstance (at_has (.inl rfl) rfl rfl) inferInstance | fail) ?_ | (refine da_one 6 rfl (by kernel_rfl) (fun _ _ _ _ => ?_); (repeat' (first | fail)); all_goals (first | refine wl_nil ⟨rfl, (by first | exact LeS.len inferInstance | exact App.len (by assumption)), ?_⟩ | fail)))
  all_goals (first | refine da_takeC 7 rfl rfl (by kernel_rfl) (by first | exact pc_indexSlZ rfl rfl inferInstance inferInstance (by decide) (by simp) | fail) ?_ | (refine da_one 7 rfl (by kernel_rfl) (fun _ _ _ _ => ?_); (repeat' (first | fail)); all_goals (first | refine wl_nil ⟨rfl, (by first | exact LeS.len inferInstance | exact App.len (by assumption)), ?_⟩ | fail)))
  all_goals (first | refine da_takeC 8 rfl rfl (by kernel_rfl) (by first | exact pc_loadnL rfl inferInstance inferInstance inferInstance | fail) ?_ | (refine da_one 8 rfl (by kernel_rfl) (fun _ _ _ _ => ?_); (repeat' (first | fail)); all_goals (first | refine wl_nil ⟨rfl, (by first | exact LeS.len inferInstance | exact App.len (by assumption)), ?_⟩ | fail)))
  all_goals (first | (refine da_one 2 rfl (by kernel_rfl) (fun _ _ _ _ => ?_); (repeat' (first | (refine wc_callR rfl inferInstance rfl (c_nameText n hn.1 hn.2 _) rfl ?_; intro _ _) | fail)); all_goals (first | refine wl_nil ⟨rfl, (by first | exact LeS.len inferInstance | exact App.len (by assumption)), ?_⟩ | trace_state)))
  all_goals (first | refine da_takeC 3 rfl rfl (by kernel_rfl) (by first | exact pc_cat (a := [40, 104, 105, 100, 101, 32]) rfl rfl (by simp only [List.length_cons, List.length_nil]; omega) | fail) ?_ | (refine da_one 3 rfl (by kernel_rfl) (fun _ _ _ _ => ?_); (repeat' (first | fail)); all_goals (first | refine wl_nil ⟨rfl, (by first | exact LeS.len inferInstance | exact App.len (by assumption)), ?_⟩ | fail)))
  all_goals (first | refine da_takeC 4 rfl rfl (by kernel_rfl) (by first | exact pc_cat (b := [32]) rfl rfl (by simp only [List.length_append, List.length_cons, List.length_nil]; omega) | fail) ?_ | (refine da_one 4 rfl (by kernel_rfl) (fun _ _ _ _ => ?_); (repeat' (first | fail)); all_goals (first | refine wl_nil ⟨rfl, (by first | exact LeS.len inferInstance | exact App.len (by assumption)), ?_⟩ | fail)))
  all_goals (first | (refine da_one 9 rfl (by kernel_rfl) (fun _ _ _ _ => ?_); (repeat' (first | (refine wc_callR rfl inferInstance rfl (hp _ _ inferInstance) rfl ?_; intro _ _) | fail)); all_goals (first | refine wl_nil ⟨rfl, (by first | exact LeS.len inferInstance | exact App.len (by assumption)), ?_⟩ | trace_state)))
  all_goals (first | refine da_takeC 10 rfl rfl (by kernel_rfl) (by first | exact pc_cat rfl rfl (by simp only [List.length_append, List.length_cons, List.length_nil]; omega) | fail) ?_ | (refine da_one 10 rfl (by kernel_rfl) (fun _ _ _ _ => ?_); (repeat' (first | fail)); all_goals (first | refine wl_nil ⟨rfl, (by first | exact LeS.len inferInstance | exact App.len (by assumption)), ?_⟩ | fail)))
  all_goals (first | refine da_takeC 11 rfl rfl (by kernel_rfl) (by first | exact pc_cat (b := [41]) rfl rfl (by simp only [List.length_append, List.length_cons, List.length_nil]; omega) | fail) ?_ | (refine da_one 11 rfl (by kernel_rfl) (fun _ _ _ _ => ?_); (repeat' (first | fail)); all_goals (first | refine wl_nil ⟨rfl, (by first | exact LeS.len inferInstance | exact App.len (by assumption)), ?_⟩ | fail)))
  all_goals (first | refine da_takeC 12 rfl rfl (by kernel_rfl) (by first | exact po_assign rfl | fail) ?_ | (refine da_one 12 rfl (by kernel_rfl) (fun _ _ _ _ => ?_); (repeat' (first | fail)); all_goals (first | refine wl_nil ⟨rfl, (by first | exact LeS.len inferInstance | exact App.len (by assumption)), ?_⟩ | fail)))
  all_goals refine da_done (by kernel_rfl) ?_
  repeat' (first
    | refine thru_seq_next ?_
    | refine thru_seq_ret ?_
    | refine thru_block_ret ?_
    | refine wp_retA ?_
    | refine at_ret (res1 rfl rfl) ?_
    | fail)
  exact ret_ inferInstance (congrArg (fun x => Str (ofL x)) (by
    rw [txt_4]
    have e : actT (n + 1) = [letB n] := by unfold actT; rw [if_neg (by omega), if_neg (by omega), show n + 1 - 1 = n by omega]
    rw [e]; simp))
theorem c_tO_sum (p q : Tm) (hc : p.cnt + q.cnt ≤ 1000000) (hp : CTx base F_impl_textOf p) (hq : CTx base F_impl_textOf q) (σ : Store) (s : AV) [hs : RTs σ s [p, q]] : ACall Tryd.prog base F_impl_textOf [.agg [I 2, I 0, s]] σ (fun _ => False) (Ret σ (Str (ofL (Tm.node 2 0 [p, q]).txt))) := by
  have htl := Tm.txt_len p
  have htq := Tm.txt_len q
  obtain ⟨id, off, s', rfl, hat, hrs⟩ := hs.part (k := 0) (by simp)
  obtain ⟨id2, off2, t', e2, hat2, hrt⟩ := hs.part (k := 1) (by simp)
  cases e2
  have := hrs.one
  have := hrt.one
  simp only [List.getElem_cons_zero, List.getElem_cons_succ] at hat hrs hat2 hrt
  refine acall1 fun_impl_textOf rfl tmps_impl_textOf rfl fun N B w₀ ρ₀ => ?_
  repeat' (first
    | refine wp_seqA ?_
    | refine wp_region_seq ?_
    | refine thru_seq_next ?_
    | refine wp_blockA ?_
    | refine wl_nil ?_
    | refine wl_pop rfl (po_assign rfl) ?_
    | refine wl_pop rfl (po_binOp rfl rfl rfl) ?_
    | refine wl_pop rfl (po_fieldAddr rfl inferInstance) ?_
    | refine wc_load1 rfl inferInstance (at_has (.inl rfl) rfl rfl) rfl ?_
    | (refine wc_boxA rfl inferInstance rfl ?_; intro _ _ _ _ _)
    | refine wp_condT rfl ?_
    | refine wp_condF rfl ?_
    | fail)
  rename_i i1 σ1 g1 n1 h1
  have hat1 : At σ1 id (off + Int.toNat 0 * 3) 3 [I p.op, I p.n, s'] := hat.grow inferInstance
  have hat3 : At σ1 id (off + Int.toNat 1 * 3) 3 [I q.op, I q.n, t'] := hat2.grow inferInstance
  refine wc_drawn [] mixed_ rfl ?_
  all_goals (first | refine da_takeC 0 rfl rfl (by kernel_rfl) (by first | exact po_fieldAddr rfl inferInstance | fail) ?_ | (refine da_one 0 rfl (by kernel_rfl) (fun _ _ _ _ => ?_); (repeat' (first | fail)); all_goals (first | refine wl_nil ⟨rfl, (by first | exact LeS.len inferInstance | exact App.len (by assumption)), ?_⟩ | fail)))
  all_goals (first | refine da_takeC 1 rfl rfl (by kernel_rfl) (by first | exact pc_load1L rfl inferInstance (at_has (.inl rfl) rfl rfl) inferInstance | fail) ?_ | (refine da_one 1 rfl (by kernel_rfl) (fun _ _ _ _ => ?_); (repeat' (first | fail)); all_goals (first | refine wl_nil ⟨rfl, (by first | exact LeS.len inferInstance | exact App.len (by assumption)), ?_⟩ | fail)))
  all_goals (first | refine da_takeC 2 rfl rfl (by kernel_rfl) (by first | exact pc_indexSlZ rfl rfl inferInstance inferInstance (by decide) (by simp) | fail) ?_ | (refine da_one 2 rfl (by kernel_rfl) (fun _ _ _ _ => ?_); (repeat' (first | fail)); all_goals (first | refine wl_nil ⟨rfl, (by first | exact LeS.len inferInstance | exact App.len (by assumption)), ?_⟩ | fail)))
  all_goals (first | refine da_takeC 3 rfl rfl (by kernel_rfl) (by first | exact pc_loadnL rfl inferInstance inferInstance inferInstance | fail) ?_ | (refine da_one 3 rfl (by kernel_rfl) (fun _ _ _ _ => ?_); (repeat' (first | fail)); all_goals (first | refine wl_nil ⟨rfl, (by first | exact LeS.len inferInstance | exact App.len (by assumption)), ?_⟩ | fail)))
  all_goals (first | refine da_takeC 7 rfl rfl (by kernel_rfl) (by first | exact po_fieldAddr rfl inferInstance | fail) ?_ | (refine da_one 7 rfl (by kernel_rfl) (fun _ _ _ _ => ?_); (repeat' (first | fail)); all_goals (first | refine wl_nil ⟨rfl, (by first | exact LeS.len inferInstance | exact App.len (by assumption)), ?_⟩ | fail)))
  all_goals (first | refine da_takeC 8 rfl rfl (by kernel_rfl) (by first | exact pc_load1L rfl inferInstance (at_has (.inl rfl) rfl rfl) inferInstance | fail) ?_ | (refine da_one 8 rfl (by kernel_rfl) (fun _ _ _ _ => ?_); (repeat' (first | fail)); all_goals (first | refine wl_nil ⟨rfl, (by first | exact LeS.len inferInstance | exact App.len (by assumption)), ?_⟩ | fail)))
  all_goals (first | refine da_takeC 9 rfl rfl (by kernel_rfl) (by first | exact pc_indexSlZ rfl rfl inferInstance inferInstance (by decide) (by simp) | fail) ?_ | (refine da_one 9 rfl (by kernel_rfl) (fun _ _ _ _ => ?_); (repeat' (first | fail)); all_goals (first | refine wl_nil ⟨rfl, (by first | exact LeS.len inferInstance | exact App.len (by assumption)), ?_⟩ | fail)))
  all_goals (first | refine da_takeC 10 rfl rfl (by kernel_rfl) (by first | exact pc_loadnL rfl inferInstance inferInstance inferInstance | fail) ?_ | (refine da_one 10 rfl (by kernel_rfl) (fun _ _ _ _ => ?_); (repeat' (first | fail)); all_goals (first | refine wl_nil ⟨rfl, (by first | exact LeS.len inferInstance | exact App.len (by assumption)), ?_⟩ | fail)))
  all_goals (first | (refine da_one 4 rfl (by kernel_rfl) (fun _ _ _ _ => ?_); (repeat' (first | (refine wc_callR rfl inferInstance rfl (hp _ _ inferInstance) rfl ?_; intro _ _) | fail)); all_goals (first | refine wl_nil ⟨rfl, (by first | exact LeS.len inferInstance | exact App.len (by assumption)), ?_⟩ | trace_state)))
  all_goals (first | refine da_takeC 5 rfl rfl (by kernel_rfl) (by first | exact pc_cat (a := [40, 115, 117, 109, 32]) rfl rfl (by simp only [List.length_cons, List.length_nil]; omega) | fail) ?_ | (refine da_one 5 rfl (by kernel_rfl) (fun _ _ _ _ => ?_); (repeat' (first | fail)); all_goals (first | refine wl_nil ⟨rfl, (by first | exact LeS.len inferInstance | exact App.len (by assumption)), ?_⟩ | fail)))
  all_goals (first | refine da_takeC 6 rfl rfl (by kernel_rfl) (by first | exact pc_cat (b := [32]) rfl rfl (by simp only [List.length_append, List.length_cons, List.length_nil]; omega) | fail) ?_ | (refine da_one 6 rfl (by kernel_rfl) (fun _ _ _ _ => ?_); (repeat' (first | fail)); all_goals (first | refine wl_nil ⟨rfl, (by first | exact LeS.len inferInstance | exact App.len (by assumption)), ?_⟩ | fail)))
  all_goals (first | (refine da_one 11 rfl (by kernel_rfl) (fun _ _ _ _ => ?_); (repeat' (first | (refine wc_callR rfl inferInstance rfl (hq _ _ inferInstance) rfl ?_; intro _ _) | fail)); all_goals (first | refine wl_nil ⟨rfl, (by first | exact LeS.len inferInstance | exact App.len (by assumption)), ?_⟩ | trace_state)))
  all_goals (first | refine da_takeC 12 rfl rfl (by kernel_rfl) (by first | exact pc_cat rfl rfl (by simp only [List.length_append, List.length_cons, List.length_nil]; omega) | fail) ?_ | (refine da_one 12 rfl (by kernel_rfl) (fun _ _ _ _ => ?_); (repeat' (first | fail)); all_goals (first | refine wl_nil ⟨rfl, (by first | exact LeS.len inferInstance | exact App.len (by assumption)), ?_⟩ | fail)))
  all_goals (first | refine da_takeC 13 rfl rfl (by kernel_rfl) (by first | exact pc_cat (b := [41]) rfl rfl (by simp only [List.length_append, List.length_cons, List.length_nil]; omega) | fail) ?_ | (refine da_one 13 rfl (by kernel_rfl) (fun _ _ _ _ => ?_); (repeat' (first | fail)); all_goals (first | refine wl_nil ⟨rfl, (by first | exact LeS.len inferInstance | exact App.len (by assumption)), ?_⟩ | fail)))
  all_goals (first | refine da_takeC 14 rfl rfl (by kernel_rfl) (by first | exact po_assign rfl | fail) ?_ | (refine da_one 14 rfl (by kernel_rfl) (fun _ _ _ _ => ?_); (repeat' (first | fail)); all_goals (first | refine wl_nil ⟨rfl, (by first | exact LeS.len inferInstance | exact App.len (by assumption)), ?_⟩ | fail)))
  all_goals refine da_done (by kernel_rfl) ?_
  repeat' (first
    | refine thru_seq_next ?_
    | refine thru_seq_ret ?_
    | refine thru_block_ret ?_
    | refine wp_retA ?_
    | refine at_ret (res1 rfl rfl) ?_
    | fail)
  exact ret_ inferInstance (congrArg (fun x => Str (ofL x)) (by rw [txt_2]; simp))
theorem c_tO_par (p q : Tm) (hc : p.cnt + q.cnt ≤ 1000000) (hp : CTx base F_impl_textOf p) (hq : CTx base F_impl_textOf q) (σ : Store) (s : AV) [hs : RTs σ s [p, q]] : ACall Tryd.prog base F_impl_textOf [.agg [I 3, I 0, s]] σ (fun _ => False) (Ret σ (Str (ofL (Tm.node 3 0 [p, q]).txt))) := by
  have htl := Tm.txt_len p
  have htq := Tm.txt_len q
  obtain ⟨id, off, s', rfl, hat, hrs⟩ := hs.part (k := 0) (by simp)
  obtain ⟨id2, off2, t', e2, hat2, hrt⟩ := hs.part (k := 1) (by simp)
  cases e2
  have := hrs.one
  have := hrt.one
  simp only [List.getElem_cons_zero, List.getElem_cons_succ] at hat hrs hat2 hrt
  refine acall1 fun_impl_textOf rfl tmps_impl_textOf rfl fun N B w₀ ρ₀ => ?_
  repeat' (first
    | refine wp_seqA ?_
    | refine wp_region_seq ?_
    | refine thru_seq_next ?_
    | refine wp_blockA ?_
    | refine wl_nil ?_
    | refine wl_pop rfl (po_assign rfl) ?_
    | refine wl_pop rfl (po_binOp rfl rfl rfl) ?_
    | refine wl_pop rfl (po_fieldAddr rfl inferInstance) ?_
    | refine wc_load1 rfl inferInstance (at_has (.inl rfl) rfl rfl) rfl ?_
    | (refine wc_boxA rfl inferInstance rfl ?_; intro _ _ _ _ _)
    | refine wp_condT rfl ?_
    | refine wp_condF rfl ?_
    | fail)
  rename_i i1 σ1 g1 n1 h1
  have hat1 : At σ1 id (off + Int.toNat 0 * 3) 3 [I p.op, I p.n, s'] := hat.grow inferInstance
  have hat3 : At σ1 id (off + Int.toNat 1 * 3) 3 [I q.op, I q.n, t'] := hat2.grow inferInstance
  refine wc_drawn [] mixed_ rfl ?_
  all_goals (first | refine da_takeC 0 rfl rfl (by kernel_rfl) (by first | exact po_fieldAddr rfl inferInstance | fail) ?_ | (refine da_one 0 rfl (by kernel_rfl) (fun _ _ _ _ => ?_); (repeat' (first | fail)); all_goals (first | refine wl_nil ⟨rfl, (by first | exact LeS.len inferInstance | exact App.len (by assumption)), ?_⟩ | fail)))
  all_goals (first | refine da_takeC 1 rfl rfl (by kernel_rfl) (by first | exact pc_load1L rfl inferInstance (at_has (.inl rfl) rfl rfl) inferInstance | fail) ?_ | (refine da_one 1 rfl (by kernel_rfl) (fun _ _ _ _ => ?_); (repeat' (first | fail)); all_goals (first | refine wl_nil ⟨rfl, (by first | exact LeS.len inferInstance | exact App.len (by assumption)), ?_⟩ | fail)))
  all_goals (first | refine da_takeC 2 rfl rfl (by kernel_rfl) (by first | exact pc_indexSlZ rfl rfl inferInstance inferInstance (by decide) (by simp) | fail) ?_ | (refine da_one 2 rfl (by kernel_rfl) (fun _ _ _ _ => ?_); (repeat' (first | fail)); all_goals (first | refine wl_nil ⟨rfl, (by first | exact LeS.len inferInstance | exact App.len (by assumption)), ?_⟩ | fail)))
  all_goals (first | refine da_takeC 3 rfl rfl (by kernel_rfl) (by first | exact pc_loadnL rfl inferInstance inferInstance inferInstance | fail) ?_ | (refine da_one 3 rfl (by kernel_rfl) (fun _ _ _ _ => ?_); (repeat' (first | fail)); all_goals (first | refine wl_nil ⟨rfl, (by first | exact LeS.len inferInstance | exact App.len (by assumption)), ?_⟩ | fail)))
  all_goals (first | refine da_takeC 7 rfl rfl (by kernel_rfl) (by first | exact po_fieldAddr rfl inferInstance | fail) ?_ | (refine da_one 7 rfl (by kernel_rfl) (fun _ _ _ _ => ?_); (repeat' (first | fail)); all_goals (first | refine wl_nil ⟨rfl, (by first | exact LeS.len inferInstance | exact App.len (by assumption)), ?_⟩ | fail)))
  all_goals (first | refine da_takeC 8 rfl rfl (by kernel_rfl) (by first | exact pc_load1L rfl inferInstance (at_has (.inl rfl) rfl rfl) inferInstance | fail) ?_ | (refine da_one 8 rfl (by kernel_rfl) (fun _ _ _ _ => ?_); (repeat' (first | fail)); all_goals (first | refine wl_nil ⟨rfl, (by first | exact LeS.len inferInstance | exact App.len (by assumption)), ?_⟩ | fail)))
  all_goals (first | refine da_takeC 9 rfl rfl (by kernel_rfl) (by first | exact pc_indexSlZ rfl rfl inferInstance inferInstance (by decide) (by simp) | fail) ?_ | (refine da_one 9 rfl (by kernel_rfl) (fun _ _ _ _ => ?_); (repeat' (first | fail)); all_goals (first | refine wl_nil ⟨rfl, (by first | exact LeS.len inferInstance | exact App.len (by assumption)), ?_⟩ | fail)))
  all_goals (first | refine da_takeC 10 rfl rfl (by kernel_rfl) (by first | exact pc_loadnL rfl inferInstance inferInstance inferInstance | fail) ?_ | (refine da_one 10 rfl (by kernel_rfl) (fun _ _ _ _ => ?_); (repeat' (first | fail)); all_goals (first | refine wl_nil ⟨rfl, (by first | exact LeS.len inferInstance | exact App.len (by assumption)), ?_⟩ | fail)))
  all_goals (first | (refine da_one 4 rfl (by kernel_rfl) (fun _ _ _ _ => ?_); (repeat' (first | (refine wc_callR rfl inferInstance rfl (hp _ _ inferInstance) rfl ?_; intro _ _) | fail)); all_goals (first | refine wl_nil ⟨rfl, (by first | exact LeS.len inferInstance | exact App.len (by assumption)), ?_⟩ | trace_state)))
  all_goals (first | refine da_takeC 5 rfl rfl (by kernel_rfl) (by first | exact pc_cat (a := [40, 112, 97, 114, 32]) rfl rfl (by simp only [List.length_cons, List.length_nil]; omega) | fail) ?_ | (refine da_one 5 rfl (by kernel_rfl) (fun _ _ _ _ => ?_); (repeat' (first | fail)); all_goals (first | refine wl_nil ⟨rfl, (by first | exact LeS.len inferInstance | exact App.len (by assumption)), ?_⟩ | fail)))
  all_goals (first | refine da_takeC 6 rfl rfl (by kernel_rfl) (by first | exact pc_cat (b := [32]) rfl rfl (by simp only [List.length_append, List.length_cons, List.length_nil]; omega) | fail) ?_ | (refine da_one 6 rfl (by kernel_rfl) (fun _ _ _ _ => ?_); (repeat' (first | fail)); all_goals (first | refine wl_nil ⟨rfl, (by first | exact LeS.len inferInstance | exact App.len (by assumption)), ?_⟩ | fail)))
  all_goals (first | (refine da_one 11 rfl (by kernel_rfl) (fun _ _ _ _ => ?_); (repeat' (first | (refine wc_callR rfl inferInstance rfl (hq _ _ inferInstance) rfl ?_; intro _ _) | fail)); all_goals (first | refine wl_nil ⟨rfl, (by first | exact LeS.len inferInstance | exact App.len (by assumption)), ?_⟩ | trace_state)))
  all_goals (first | refine da_takeC 12 rfl rfl (by kernel_rfl) (by first | exact pc_cat rfl rfl (by simp only [List.length_append, List.length_cons, List.length_nil]; omega) | fail) ?_ | (refine da_one 12 rfl (by kernel_rfl) (fun _ _ _ _ => ?_); (repeat' (first | fail)); all_goals (first | refine wl_nil ⟨rfl, (by first | exact LeS.len inferInstance | exact App.len (by assumption)), ?_⟩ | fail)))
  all_goals (first | refine da_takeC 13 rfl rfl (by kernel_rfl) (by first | exact pc_cat (b := [41]) rfl rfl (by simp only [List.length_append, List.length_cons, List.length_nil]; omega) | fail) ?_ | (refine da_one 13 rfl (by kernel_rfl) (fun _ _ _ _ => ?_); (repeat' (first | fail)); all_goals (first | refine wl_nil ⟨rfl, (by first | exact LeS.len inferInstance | exact App.len (by assumption)), ?_⟩ | fail)))
  all_goals (first | refine da_takeC 14 rfl rfl (by kernel_rfl) (by first | exact po_assign rfl | fail) ?_ | (refine da_one 14 rfl (by kernel_rfl) (fun _ _ _ _ => ?_); (repeat' (first | fail)); all_goals (first | refine wl_nil ⟨rfl, (by first | exact LeS.len inferInstance | exact App.len (by assumption)), ?_⟩ | fail)))
  all_goals refine da_done (by kernel_rfl) ?_
  repeat' (first
    | refine thru_seq_next ?_
    | refine thru_seq_ret ?_
    | refine thru_block_ret ?_
    | refine wp_retA ?_
    | refine at_ret (res1 rfl rfl) ?_
    | fail)
  exact ret_ inferInstance (congrArg (fun x => Str (ofL x)) (by rw [txt_3]; simp))
theorem c_textOf (t : Tm) : t.shape = true → t.cnt ≤ 1000000 → CTx base F_impl_textOf t := by
  induction t using Tm.ind with
  | _ op n ps ih =>
    intro hs hc
    obtain ⟨hno, hps⟩ := Tm.shape_node hs
    simp only [Tm.cnt] at hc
    rw [nodeOk_iff] at hno
    rcases hno with ⟨rfl, rfl, hl⟩ | ⟨rfl, hn, hl⟩ | ⟨h23, rfl, hl⟩ | ⟨rfl, hn, hl⟩ | ⟨rfl, hn, hl⟩
    · obtain rfl : ps = [] := List.length_eq_zero_iff.mp hl
      intro σ s hr
      have := c_tO_nil (base := base) σ s (hs := hr)
      rw [txt_0]; exact this
    · obtain ⟨p, rfl⟩ := List.length_eq_one_iff.mp hl
      simp only [Tm.cnts] at hc
      exact fun σ s hr => c_tO_act n hn p (by omega) (ih p (by simp) (hps p (by simp)) (by omega)) σ s (hs := hr)
    · obtain ⟨p, q, rfl⟩ := len_two hl
      simp only [Tm.cnts] at hc
      have ip := ih p (by simp) (hps p (by simp)) (by omega)
      have iq := ih q (by simp) (hps q (by simp)) (by omega)
      rcases h23 with rfl | rfl
      · exact fun σ s hr => c_tO_sum p q (by omega) ip iq σ s (hs := hr)
      · exact fun σ s hr => c_tO_par p q (by omega) ip iq σ s (hs := hr)
    · obtain ⟨p, rfl⟩ := List.length_eq_one_iff.mp hl
      simp only [Tm.cnts] at hc
      exact fun σ s hr => c_tO_hide n hn p (by omega) (ih p (by simp) (hps p (by simp)) (by omega)) σ s (hs := hr)
    · obtain rfl : ps = [] := List.length_eq_zero_iff.mp hl
      intro σ s hr
      have := c_tO_call (base := base) n hn σ s (hs := hr)
      rw [txt_5]; exact this
end
end Go.Proofs.YthbodgnoadlbcaaDoor.Asl
