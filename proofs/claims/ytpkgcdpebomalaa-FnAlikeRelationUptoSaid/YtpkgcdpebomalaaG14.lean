/- Does a table tell a likeness? The specification's way. -/
import Derived.Test.YtpkgcdpebomalaaG10
import Derived.Test.YtpkgcdpebomalaaPP
namespace Go.Proofs.Ytpkgcdpebomalaa.Asl
open Go.RowKit Go.Proofs.YtpkgcdpebomalaaW.PrintLast
set_option linter.unusedVariables false
set_option linter.unusedSimpArgs false
attribute [local irreducible] WP WL andThen inBlock noGoto atEnd ACall DA DL PO Hold
set_option maxHeartbeats 4000000
set_option synthInstance.maxHeartbeats 400000
set_option synthInstance.maxSize 10000
/-- A table as large as its graph. -/
structure TabOk (g : Gr) (rel : List (List Bool)) : Prop where
  ok : GOk g
  len : rel.length = g.length
  rows : ∀ r ∈ rel, r.length = g.length
theorem TabOk.row {g : Gr} {rel : List (List Bool)} (h : TabOk g rel) {k : Nat} (hk : k < g.length) : (rel.getD k []).length = g.length := by
  have hk' : k < rel.length := by rw [h.len]; exact hk
  rw [getD_lt hk']; exact h.rows _ (List.getElem_mem _)
def folB (rel : List (List Bool)) (back : Bool) (m k : Mv) : Bool := decide (k.1 = m.1) && (if back = true then (rel.getD k.2.toNat []).getD m.2.toNat false else (rel.getD m.2.toNat []).getD k.2.toNat false)
/-- Each move of a state has its like at another. -/
def folL (g : Gr) (rel : List (List Bool)) (back : Bool) (r s : Nat) : Bool := (rowOf g r).all fun m => (rowOf g s).any (folB rel back m)
theorem relOk_iff {g : Gr} {rel : List (List Bool)} : RelOk g rel ↔ TabOk g rel ∧ ∀ s t, s < g.length → t < g.length → (rel.getD s []).getD t false = true → folL g rel false s t = true ∧ folL g rel true t s = true := by
  constructor
  · intro h
    refine ⟨⟨h.ok, h.len, h.rows⟩, fun s t hs ht e => ⟨?_, ?_⟩⟩
    · unfold folL
      rw [List.all_eq_true]
      intro m hm
      obtain ⟨k, hk, e1, e2⟩ := h.fwd s t hs ht e m hm
      rw [List.any_eq_true]
      exact ⟨k, hk, by simp only [folB, e1, e2, decide_true, Bool.true_and]; rfl⟩
    · unfold folL
      rw [List.all_eq_true]
      intro m hm
      obtain ⟨k, hk, e1, e2⟩ := h.bwd s t hs ht e m hm
      rw [List.any_eq_true]
      exact ⟨k, hk, by simp only [folB, e1, e2, decide_true, Bool.true_and]; rfl⟩
  · rintro ⟨h, hf⟩
    refine ⟨h.ok, h.len, h.rows, fun s t hs ht e m hm => ?_, fun s t hs ht e m hm => ?_⟩
    · have h1 := (hf s t hs ht e).1
      unfold folL at h1
      rw [List.all_eq_true] at h1
      have h2 := h1 m hm
      rw [List.any_eq_true] at h2
      obtain ⟨k, hk, h3⟩ := h2
      simp only [folB, Bool.and_eq_true, decide_eq_true_eq] at h3
      exact ⟨k, hk, h3.1, h3.2⟩
    · have h1 := (hf s t hs ht e).2
      unfold folL at h1
      rw [List.all_eq_true] at h1
      have h2 := h1 m hm
      rw [List.any_eq_true] at h2
      obtain ⟨k, hk, h3⟩ := h2
      simp only [folB, Bool.and_eq_true, decide_eq_true_eq] at h3
      exact ⟨k, hk, h3.1, h3.2⟩
theorem acall5g {P : Program} {base : Nat} {f : FuncId} {fn : Func} {c : Code} {n : Nat} {a b e g h' : AV} {σ : Store} {T : Nat → Prop} {K : AV → Store → Prop} (hf : P.funcs[f]? = some fn) (hb : fn.body = some c) (hn : fn.ntmps = n) (hl : Nat.ble 5 n = true)
    (h : ∀ (N : Nat) (B : Nat → Prop) (w₀ : World) (ρ₀ : Pl), WP ⟨P, base, n, fun i => T i ∨ σ.length ≤ i, N, B, w₀, ρ₀, σ.length⟩ c (atEnd P fn K) [(0, a), (1, b), (2, e), (3, g), (4, h')] σ) : ACall P base f [a, b, e, g, h'] σ T K := acall_of_wp hf hb hn (Nat.le_of_ble_eq_true hl) h
section
variable {base : Nat}
theorem c_l4Follows (σ : Store) (u t : AV) (r s : Nat) (back : Bool) {ss ts : List AV} {g : Gr} {rel : List (List Bool)} [hs : RW σ u ss] [hg : RRs σ ss g] [ht : RW σ t ts] [hr : RRs σ ts rel] (hok : TabOk g rel) (hr1 : r < g.length) (hs1 : s < g.length) :
    ACall Try.prog base F_spec_l4Follows [.agg [u], t, I (r : Int), I (s : Int), Bo back] σ (fun _ => False) (Ret σ (Bo (folL g rel back r s))) := by
  have hb := hs.bound
  have := hs.one
  have hl := hg.len
  have htl := hr.len
  have hrl := hok.len
  have h60 := hok.ok.most
  have h0 := hok.ok.pos
  refine acall5g fun_spec_l4Follows rfl tmps_spec_l4Follows rfl fun N B w₀ ρ₀ => ?_
  repeat' (first
    | refine wp_seqA ?_
    | refine wp_region_seq ?_
    | refine thru_seq_next ?_
    | refine wp_blockA ?_
    | refine wl_nil ?_
    | refine wl_pop rfl (po_assign rfl) ?_
    | (refine wc_boxA rfl inferInstance rfl ?_; intro _ _ _ _ _)
    | fail)
  rename_i i1 σ1 g1 n1 h1
  have hrw : RW σ (ss.getD r nilS) (g.getD r []) := inferInstance
  have hrw2 : RW σ (ss.getD s nilS) (g.getD s []) := inferInstance
  have hmr : ∀ m ∈ g.getD r [], (-4 ≤ m.1 ∧ m.1 ≤ 4) ∧ 0 ≤ m.2 ∧ m.2 < g.length ∧ m.2.toNat < g.length ∧ ((m.2.toNat : Nat) : Int) = m.2 := fun m hm => hok.ok.to (s := r) hm
  have hms : ∀ m ∈ g.getD s [], (-4 ≤ m.1 ∧ m.1 ≤ 4) ∧ 0 ≤ m.2 ∧ m.2 < g.length ∧ m.2.toNat < g.length ∧ ((m.2.toNat : Nat) : Int) = m.2 := fun m hm => hok.ok.to (s := s) hm
  have hrb := hrw.bound
  have hrb2 := hrw2.bound
  refine wc_loop [(1, _), (2, _), (3, _), (4, _), (5, _)] (fun p : Nat => [(11, I p)]) (fun p σ' => p ≤ (g.getD r []).length ∧ LeS σ1 σ' ∧ (((g.getD r []).take p).all fun m => (rowOf g s).any (folB rel back m)) = true) (fun p => (g.getD r []).length - p) 0 ⟨Nat.zero_le _, inferInstance, rfl⟩ (by repeat' (first | exact sub_nil | refine sub_cons rfl ?_ | refine sub_int rfl (by first | rfl | omega | (push_cast; omega) | simp) ?_ | refine sub_eq rfl (by assumption) ?_)) ?_
  rintro p σ2 ⟨hp, hle2, hall⟩
  have := hle2.grow
  have hmp := getD_all (d := ((0, 0) : Mv)) (p := fun m => 0 ≤ m.2 ∧ m.2 < g.length) (fun m hm => ⟨(hmr m hm).2.1, (hmr m hm).2.2.1⟩) ⟨by simp, by simp; omega⟩ p
  repeat' (first
    | refine wl_pop rfl (pc_ldAV rfl inferInstance inferInstance (by omega) inferInstance) ?_
    | refine wl_pop rfl (pc_ldMv rfl inferInstance inferInstance (by omega) inferInstance) ?_
    | refine wl_pop rfl (pc_indexRow rfl rfl inferInstance inferInstance inferInstance (by omega)) ?_
    | refine wl_pop rfl (pc_lenRow rfl inferInstance inferInstance) ?_
    | refine wp_seqA ?_
    | refine wp_region_seq ?_
    | refine thru_seq_next ?_
    | refine thru_seq ?_
    | refine exit_here ?_
    | refine wp_skipA ?_
    | refine wp_retA ?_
    | refine wp_exitA ?_
    | refine wp_blockA ?_
    | refine wl_nil ?_
    | refine wl_pop rfl (po_move rfl) ?_
    | refine wl_pop rfl (po_assign rfl) ?_
    | refine wl_pop rfl (po_binOp rfl rfl rfl) ?_
    | refine wl_pop rfl (po_fieldAddr rfl inferInstance) ?_
    | refine wc_load1 rfl inferInstance (at_has (.inl rfl) rfl rfl) rfl ?_
    | (refine wc_storeA rfl rfl inferInstance inferInstance rfl inferInstance (Nat.le_of_ble_eq_true rfl) (.inr (may_new _)) ?_; intro _ _)
    | (refine wc_allocA (cs := [_, _]) inferInstance rfl inferInstance rfl ?_; intro _ _ _ _ _)
    | refine wp_condP rfl (fun _ => ?_) (fun _ => ?_)
    | refine at_ret (res1 rfl rfl) ?_
    | fail)
  rotate_left
  · obtain rfl : p = (g.getD r []).length := by omega
    rw [List.take_length] at hall
    exact ret_ inferInstance (congrArg Bo (by unfold folL; exact hall.symm))
  rename_i hpl i3 σ3 g3 n3 h3 σ4 u4
  have hpl' : p < (g.getD r []).length := by omega
  have h34 : Has σ4 i3 ⟨.own, 1, [I ((g.getD r []).getD p (0, 0)).1, I ((g.getD r []).getD p (0, 0)).2], []⟩ := instHasUpd (g := u4)
  have hle4 : LeS σ1 σ4 := inferInstance
  generalize hm : (g.getD r []).getD p (0, 0) = m at *
  have hm1 := hok.row (k := m.2.toNat) (by omega)
  refine wc_loop [(1, _), (2, _), (3, _), (4, _), (5, _), (11, _), (12, _)] (fun q : Nat => [(13, Bo (((g.getD s []).take q).any (folB rel back m))), (14, I q)]) (fun q σ' => q ≤ (g.getD s []).length ∧ LeS σ4 σ') (fun q => (g.getD s []).length - q) 0 ⟨Nat.zero_le _, inferInstance⟩ (by repeat' (first | exact sub_nil | refine sub_cons rfl ?_ | refine sub_int rfl (by first | rfl | omega | (push_cast; omega) | simp) ?_ | refine sub_eq rfl (by assumption) ?_)) ?_
  rintro q σ5 ⟨hq, hle5⟩
  have := hle5.grow
  have hle15 : LeS σ1 σ5 := hle4.trans hle5
  have := hle15.grow
  have hmq := getD_all (d := ((0, 0) : Mv)) (p := fun m => 0 ≤ m.2 ∧ m.2 < g.length) (fun m hm => ⟨(hms m hm).2.1, (hms m hm).2.2.1⟩) ⟨by simp, by simp; omega⟩ q
  have hq1 := hok.row (k := ((g.getD s []).getD q (0, 0)).2.toNat) (by omega)
  repeat' (first
    | refine wl_pop rfl (pc_ldAV rfl inferInstance inferInstance (by omega) inferInstance) ?_
    | refine wl_pop rfl (pc_ldMv rfl inferInstance inferInstance (by omega) inferInstance) ?_
    | refine wl_pop rfl (pc_indexRow rfl rfl inferInstance inferInstance inferInstance (by omega)) ?_
    | refine wl_pop rfl (pc_lenRow rfl inferInstance inferInstance) ?_
    | refine wp_seqA ?_
    | refine wp_region_seq ?_
    | refine thru_seq_next ?_
    | refine thru_seq_ret ?_
    | refine thru_seq ?_
    | refine thru_block_ret ?_
    | refine thru_block_next ?_
    | refine exit_here ?_
    | refine wp_skipA ?_
    | refine wp_retA ?_
    | refine wp_exitA ?_
    | refine wp_blockA ?_
    | refine wl_nil ?_
    | refine wl_pop rfl (po_move rfl) ?_
    | refine wl_pop rfl (po_assign rfl) ?_
    | refine wl_pop rfl (pc_add rfl rfl (by omega) (by omega)) ?_
    | refine wl_pop rfl (po_binOp rfl rfl rfl) ?_
    | refine wl_pop rfl (po_fieldAddr rfl inferInstance) ?_
    | refine wc_load1 rfl inferInstance (at_has (.inl rfl) rfl rfl) rfl ?_
    | refine wl_pop rfl (po_not rfl) ?_
    | (refine wc_storeA rfl rfl inferInstance inferInstance rfl inferInstance (Nat.le_of_ble_eq_true rfl) (.inr (may_new _)) ?_; intro _ _)
    | (refine wc_allocA (cs := [_, _]) inferInstance rfl inferInstance rfl ?_; intro _ _ _ _ _)
    | refine wp_condP rfl (fun _ => ?_) (fun _ => ?_)
    | refine wp_condA rfl (fun _ => ?_) (fun _ => ?_)
    | refine at_ret (res1 rfl rfl) ?_
    | fail)
  · rename_i hql i6 σ6 g6 n6 h6 σ7 u7
    have hql' : q < (g.getD s []).length := by omega
    have h67 : Has σ7 i6 ⟨.own, 1, [I ((g.getD s []).getD q (0, 0)).1, I ((g.getD s []).getD q (0, 0)).2], []⟩ := instHasUpd (g := u7)
    have h37 : Has σ7 i3 ⟨.own, 1, [I m.1, I m.2], []⟩ := inferInstance
    have hle7 : LeS σ4 σ7 := inferInstance
    have hsucc : ((g.getD s []).take (q + 1)).any (folB rel back m) = (((g.getD s []).take q).any (folB rel back m) || folB rel back m ((g.getD s []).getD q (0, 0))) := by
      rw [take_succ_getD hql' (d := (0, 0)), List.any_append]; simp only [List.any_cons, List.any_nil, Bool.or_false]
    generalize hk : (g.getD s []).getD q (0, 0) = k at *
    have ht7 : RW σ7 t ts := inferInstance
    have hr7 : RRs σ7 ts rel := inferInstance
    refine wc_drawn [] mixed_ rfl ?_
    all_goals refine da_takeC 0 rfl rfl (by kernel_rfl) (by first | exact po_move rfl | fail) ?_
    all_goals refine da_takeC 1 rfl rfl (by kernel_rfl) (by first | exact po_move rfl | fail) ?_
    all_goals (first | refine da_onC 2 rfl rfl rfl rfl rfl (by kernel_rfl) (by first | exact po_fieldAddr rfl inferInstance | fail) ?_ | refine da_offC 2 rfl rfl rfl rfl rfl rfl (by kernel_rfl) ?_ | refine da_offU 2 rfl rfl rfl rfl rfl (by kernel_rfl) ?_ | ((first | refine da_caseP (t := 53) rfl (fun _ => ?_) (fun _ => ?_) | refine da_caseNP (t := 53) rfl (fun _ => ?_) (fun _ => ?_) | refine da_caseEq (t := 53) rfl (fun _ => ?_) (fun _ => ?_) | refine da_caseNe (t := 53) rfl (fun _ => ?_) (fun _ => ?_) | refine da_caseNB (t := 53) rfl (fun _ => ?_) (fun _ => ?_) | refine da_case (t := 53) rfl (fun _ => ?_) (fun _ => ?_)) <;> (first | refine da_onC 2 rfl rfl rfl rfl rfl (by kernel_rfl) (by first | exact po_fieldAddr rfl inferInstance | fail) ?_ | refine da_offC 2 rfl rfl rfl rfl rfl rfl (by kernel_rfl) ?_ | refine da_offU 2 rfl rfl rfl rfl rfl (by kernel_rfl) ?_)))
    all_goals (first | refine da_onC 3 rfl rfl rfl rfl rfl (by kernel_rfl) (by first | exact pc_load1L rfl inferInstance (at_has (.inl rfl) rfl rfl) inferInstance | fail) ?_ | refine da_offC 3 rfl rfl rfl rfl rfl rfl (by kernel_rfl) ?_ | refine da_offU 3 rfl rfl rfl rfl rfl (by kernel_rfl) ?_ | ((first | refine da_caseP (t := 53) rfl (fun _ => ?_) (fun _ => ?_) | refine da_caseNP (t := 53) rfl (fun _ => ?_) (fun _ => ?_) | refine da_caseEq (t := 53) rfl (fun _ => ?_) (fun _ => ?_) | refine da_caseNe (t := 53) rfl (fun _ => ?_) (fun _ => ?_) | refine da_caseNB (t := 53) rfl (fun _ => ?_) (fun _ => ?_) | refine da_case (t := 53) rfl (fun _ => ?_) (fun _ => ?_)) <;> (first | refine da_onC 3 rfl rfl rfl rfl rfl (by kernel_rfl) (by first | exact pc_load1L rfl inferInstance (at_has (.inl rfl) rfl rfl) inferInstance | fail) ?_ | refine da_offC 3 rfl rfl rfl rfl rfl rfl (by kernel_rfl) ?_ | refine da_offU 3 rfl rfl rfl rfl rfl (by kernel_rfl) ?_)))
    all_goals (first | refine da_onC 4 rfl rfl rfl rfl rfl (by kernel_rfl) (by first | exact po_fieldAddr rfl inferInstance | fail) ?_ | refine da_offC 4 rfl rfl rfl rfl rfl rfl (by kernel_rfl) ?_ | refine da_offU 4 rfl rfl rfl rfl rfl (by kernel_rfl) ?_ | ((first | refine da_caseP (t := 53) rfl (fun _ => ?_) (fun _ => ?_) | refine da_caseNP (t := 53) rfl (fun _ => ?_) (fun _ => ?_) | refine da_caseEq (t := 53) rfl (fun _ => ?_) (fun _ => ?_) | refine da_caseNe (t := 53) rfl (fun _ => ?_) (fun _ => ?_) | refine da_caseNB (t := 53) rfl (fun _ => ?_) (fun _ => ?_) | refine da_case (t := 53) rfl (fun _ => ?_) (fun _ => ?_)) <;> (first | refine da_onC 4 rfl rfl rfl rfl rfl (by kernel_rfl) (by first | exact po_fieldAddr rfl inferInstance | fail) ?_ | refine da_offC 4 rfl rfl rfl rfl rfl rfl (by kernel_rfl) ?_ | refine da_offU 4 rfl rfl rfl rfl rfl (by kernel_rfl) ?_)))
    all_goals (first | refine da_onC 5 rfl rfl rfl rfl rfl (by kernel_rfl) (by first | exact pc_load1L rfl inferInstance (at_has (.inl rfl) rfl rfl) inferInstance | fail) ?_ | refine da_offC 5 rfl rfl rfl rfl rfl rfl (by kernel_rfl) ?_ | refine da_offU 5 rfl rfl rfl rfl rfl (by kernel_rfl) ?_ | ((first | refine da_caseP (t := 53) rfl (fun _ => ?_) (fun _ => ?_) | refine da_caseNP (t := 53) rfl (fun _ => ?_) (fun _ => ?_) | refine da_caseEq (t := 53) rfl (fun _ => ?_) (fun _ => ?_) | refine da_caseNe (t := 53) rfl (fun _ => ?_) (fun _ => ?_) | refine da_caseNB (t := 53) rfl (fun _ => ?_) (fun _ => ?_) | refine da_case (t := 53) rfl (fun _ => ?_) (fun _ => ?_)) <;> (first | refine da_onC 5 rfl rfl rfl rfl rfl (by kernel_rfl) (by first | exact pc_load1L rfl inferInstance (at_has (.inl rfl) rfl rfl) inferInstance | fail) ?_ | refine da_offC 5 rfl rfl rfl rfl rfl rfl (by kernel_rfl) ?_ | refine da_offU 5 rfl rfl rfl rfl rfl (by kernel_rfl) ?_)))
    all_goals (first | refine da_onC 6 rfl rfl rfl rfl rfl (by kernel_rfl) (by first | exact po_binOp rfl rfl rfl | fail) ?_ | refine da_offC 6 rfl rfl rfl rfl rfl rfl (by kernel_rfl) ?_ | refine da_offU 6 rfl rfl rfl rfl rfl (by kernel_rfl) ?_ | ((first | refine da_caseP (t := 53) rfl (fun _ => ?_) (fun _ => ?_) | refine da_caseNP (t := 53) rfl (fun _ => ?_) (fun _ => ?_) | refine da_caseEq (t := 53) rfl (fun _ => ?_) (fun _ => ?_) | refine da_caseNe (t := 53) rfl (fun _ => ?_) (fun _ => ?_) | refine da_caseNB (t := 53) rfl (fun _ => ?_) (fun _ => ?_) | refine da_case (t := 53) rfl (fun _ => ?_) (fun _ => ?_)) <;> (first | refine da_onC 6 rfl rfl rfl rfl rfl (by kernel_rfl) (by first | exact po_binOp rfl rfl rfl | fail) ?_ | refine da_offC 6 rfl rfl rfl rfl rfl rfl (by kernel_rfl) ?_ | refine da_offU 6 rfl rfl rfl rfl rfl (by kernel_rfl) ?_)))
    all_goals (first | refine da_onC 7 rfl rfl rfl rfl rfl (by kernel_rfl) (by first | exact po_move rfl | fail) ?_ | refine da_offC 7 rfl rfl rfl rfl rfl rfl (by kernel_rfl) ?_ | refine da_offU 7 rfl rfl rfl rfl rfl (by kernel_rfl) ?_ | ((first | refine da_caseP (t := 53) rfl (fun _ => ?_) (fun _ => ?_) | refine da_caseNP (t := 53) rfl (fun _ => ?_) (fun _ => ?_) | refine da_caseEq (t := 53) rfl (fun _ => ?_) (fun _ => ?_) | refine da_caseNe (t := 53) rfl (fun _ => ?_) (fun _ => ?_) | refine da_caseNB (t := 53) rfl (fun _ => ?_) (fun _ => ?_) | refine da_case (t := 53) rfl (fun _ => ?_) (fun _ => ?_)) <;> (first | refine da_onC 7 rfl rfl rfl rfl rfl (by kernel_rfl) (by first | exact po_move rfl | fail) ?_ | refine da_offC 7 rfl rfl rfl rfl rfl rfl (by kernel_rfl) ?_ | refine da_offU 7 rfl rfl rfl rfl rfl (by kernel_rfl) ?_)))
    all_goals (first | refine da_onC 8 rfl rfl rfl rfl rfl (by kernel_rfl) (by first | exact po_move rfl | fail) ?_ | refine da_offC 8 rfl rfl rfl rfl rfl rfl (by kernel_rfl) ?_ | refine da_offU 8 rfl rfl rfl rfl rfl (by kernel_rfl) ?_ | ((first | refine da_caseP (t := 59) rfl (fun _ => ?_) (fun _ => ?_) | refine da_caseNP (t := 59) rfl (fun _ => ?_) (fun _ => ?_) | refine da_caseEq (t := 59) rfl (fun _ => ?_) (fun _ => ?_) | refine da_caseNe (t := 59) rfl (fun _ => ?_) (fun _ => ?_) | refine da_caseNB (t := 59) rfl (fun _ => ?_) (fun _ => ?_) | refine da_case (t := 59) rfl (fun _ => ?_) (fun _ => ?_)) <;> (first | refine da_onC 8 rfl rfl rfl rfl rfl (by kernel_rfl) (by first | exact po_move rfl | fail) ?_ | refine da_offC 8 rfl rfl rfl rfl rfl rfl (by kernel_rfl) ?_ | refine da_offU 8 rfl rfl rfl rfl rfl (by kernel_rfl) ?_)))
    all_goals (first | refine da_onC 9 rfl rfl rfl rfl rfl (by kernel_rfl) (by first | exact po_move rfl | fail) ?_ | refine da_offC 9 rfl rfl rfl rfl rfl rfl (by kernel_rfl) ?_ | refine da_offU 9 rfl rfl rfl rfl rfl (by kernel_rfl) ?_ | ((first | refine da_caseP (t := 59) rfl (fun _ => ?_) (fun _ => ?_) | refine da_caseNP (t := 59) rfl (fun _ => ?_) (fun _ => ?_) | refine da_caseEq (t := 59) rfl (fun _ => ?_) (fun _ => ?_) | refine da_caseNe (t := 59) rfl (fun _ => ?_) (fun _ => ?_) | refine da_caseNB (t := 59) rfl (fun _ => ?_) (fun _ => ?_) | refine da_case (t := 59) rfl (fun _ => ?_) (fun _ => ?_)) <;> (first | refine da_onC 9 rfl rfl rfl rfl rfl (by kernel_rfl) (by first | exact po_move rfl | fail) ?_ | refine da_offC 9 rfl rfl rfl rfl rfl rfl (by kernel_rfl) ?_ | refine da_offU 9 rfl rfl rfl rfl rfl (by kernel_rfl) ?_)))
    all_goals (first | refine da_onC 10 rfl rfl rfl rfl rfl (by kernel_rfl) (by first | exact po_move rfl | fail) ?_ | refine da_offC 10 rfl rfl rfl rfl rfl rfl (by kernel_rfl) ?_ | refine da_offU 10 rfl rfl rfl rfl rfl (by kernel_rfl) ?_ | ((first | refine da_caseP (t := 61) rfl (fun _ => ?_) (fun _ => ?_) | refine da_caseNP (t := 61) rfl (fun _ => ?_) (fun _ => ?_) | refine da_caseEq (t := 61) rfl (fun _ => ?_) (fun _ => ?_) | refine da_caseNe (t := 61) rfl (fun _ => ?_) (fun _ => ?_) | refine da_caseNB (t := 61) rfl (fun _ => ?_) (fun _ => ?_) | refine da_case (t := 61) rfl (fun _ => ?_) (fun _ => ?_)) <;> (first | refine da_onC 10 rfl rfl rfl rfl rfl (by kernel_rfl) (by first | exact po_move rfl | fail) ?_ | refine da_offC 10 rfl rfl rfl rfl rfl rfl (by kernel_rfl) ?_ | refine da_offU 10 rfl rfl rfl rfl rfl (by kernel_rfl) ?_)))
    all_goals (first | refine da_onC 11 rfl rfl rfl rfl rfl (by kernel_rfl) (by first | exact po_fieldAddr rfl inferInstance | fail) ?_ | refine da_offC 11 rfl rfl rfl rfl rfl rfl (by kernel_rfl) ?_ | refine da_offU 11 rfl rfl rfl rfl rfl (by kernel_rfl) ?_ | ((first | refine da_caseP (t := 61) rfl (fun _ => ?_) (fun _ => ?_) | refine da_caseNP (t := 61) rfl (fun _ => ?_) (fun _ => ?_) | refine da_caseEq (t := 61) rfl (fun _ => ?_) (fun _ => ?_) | refine da_caseNe (t := 61) rfl (fun _ => ?_) (fun _ => ?_) | refine da_caseNB (t := 61) rfl (fun _ => ?_) (fun _ => ?_) | refine da_case (t := 61) rfl (fun _ => ?_) (fun _ => ?_)) <;> (first | refine da_onC 11 rfl rfl rfl rfl rfl (by kernel_rfl) (by first | exact po_fieldAddr rfl inferInstance | fail) ?_ | refine da_offC 11 rfl rfl rfl rfl rfl rfl (by kernel_rfl) ?_ | refine da_offU 11 rfl rfl rfl rfl rfl (by kernel_rfl) ?_)))
    all_goals (first | refine da_onC 12 rfl rfl rfl rfl rfl (by kernel_rfl) (by first | exact pc_load1L rfl inferInstance (at_has (.inl rfl) rfl rfl) inferInstance | fail) ?_ | refine da_offC 12 rfl rfl rfl rfl rfl rfl (by kernel_rfl) ?_ | refine da_offU 12 rfl rfl rfl rfl rfl (by kernel_rfl) ?_ | ((first | refine da_caseP (t := 61) rfl (fun _ => ?_) (fun _ => ?_) | refine da_caseNP (t := 61) rfl (fun _ => ?_) (fun _ => ?_) | refine da_caseEq (t := 61) rfl (fun _ => ?_) (fun _ => ?_) | refine da_caseNe (t := 61) rfl (fun _ => ?_) (fun _ => ?_) | refine da_caseNB (t := 61) rfl (fun _ => ?_) (fun _ => ?_) | refine da_case (t := 61) rfl (fun _ => ?_) (fun _ => ?_)) <;> (first | refine da_onC 12 rfl rfl rfl rfl rfl (by kernel_rfl) (by first | exact pc_load1L rfl inferInstance (at_has (.inl rfl) rfl rfl) inferInstance | fail) ?_ | refine da_offC 12 rfl rfl rfl rfl rfl rfl (by kernel_rfl) ?_ | refine da_offU 12 rfl rfl rfl rfl rfl (by kernel_rfl) ?_)))
    all_goals (first | refine da_onC 13 rfl rfl rfl rfl rfl (by kernel_rfl) (by first | exact pc_indexRowZ rfl rfl inferInstance inferInstance inferInstance (by omega) (by omega) | fail) ?_ | refine da_offC 13 rfl rfl rfl rfl rfl rfl (by kernel_rfl) ?_ | refine da_offU 13 rfl rfl rfl rfl rfl (by kernel_rfl) ?_ | ((first | refine da_caseP (t := 61) rfl (fun _ => ?_) (fun _ => ?_) | refine da_caseNP (t := 61) rfl (fun _ => ?_) (fun _ => ?_) | refine da_caseEq (t := 61) rfl (fun _ => ?_) (fun _ => ?_) | refine da_caseNe (t := 61) rfl (fun _ => ?_) (fun _ => ?_) | refine da_caseNB (t := 61) rfl (fun _ => ?_) (fun _ => ?_) | refine da_case (t := 61) rfl (fun _ => ?_) (fun _ => ?_)) <;> (first | refine da_onC 13 rfl rfl rfl rfl rfl (by kernel_rfl) (by first | exact pc_indexRowZ rfl rfl inferInstance inferInstance inferInstance (by omega) (by omega) | fail) ?_ | refine da_offC 13 rfl rfl rfl rfl rfl rfl (by kernel_rfl) ?_ | refine da_offU 13 rfl rfl rfl rfl rfl (by kernel_rfl) ?_)))
    all_goals (first | refine da_onC 14 rfl rfl rfl rfl rfl (by kernel_rfl) (by first | exact pc_ldAV rfl inferInstance inferInstance (by omega) inferInstance | fail) ?_ | refine da_offC 14 rfl rfl rfl rfl rfl rfl (by kernel_rfl) ?_ | refine da_offU 14 rfl rfl rfl rfl rfl (by kernel_rfl) ?_ | ((first | refine da_caseP (t := 61) rfl (fun _ => ?_) (fun _ => ?_) | refine da_caseNP (t := 61) rfl (fun _ => ?_) (fun _ => ?_) | refine da_caseEq (t := 61) rfl (fun _ => ?_) (fun _ => ?_) | refine da_caseNe (t := 61) rfl (fun _ => ?_) (fun _ => ?_) | refine da_caseNB (t := 61) rfl (fun _ => ?_) (fun _ => ?_) | refine da_case (t := 61) rfl (fun _ => ?_) (fun _ => ?_)) <;> (first | refine da_onC 14 rfl rfl rfl rfl rfl (by kernel_rfl) (by first | exact pc_ldAV rfl inferInstance inferInstance (by omega) inferInstance | fail) ?_ | refine da_offC 14 rfl rfl rfl rfl rfl rfl (by kernel_rfl) ?_ | refine da_offU 14 rfl rfl rfl rfl rfl (by kernel_rfl) ?_)))
    all_goals (first | refine da_onC 15 rfl rfl rfl rfl rfl (by kernel_rfl) (by first | exact po_fieldAddr rfl inferInstance | fail) ?_ | refine da_offC 15 rfl rfl rfl rfl rfl rfl (by kernel_rfl) ?_ | refine da_offU 15 rfl rfl rfl rfl rfl (by kernel_rfl) ?_ | ((first | refine da_caseP (t := 61) rfl (fun _ => ?_) (fun _ => ?_) | refine da_caseNP (t := 61) rfl (fun _ => ?_) (fun _ => ?_) | refine da_caseEq (t := 61) rfl (fun _ => ?_) (fun _ => ?_) | refine da_caseNe (t := 61) rfl (fun _ => ?_) (fun _ => ?_) | refine da_caseNB (t := 61) rfl (fun _ => ?_) (fun _ => ?_) | refine da_case (t := 61) rfl (fun _ => ?_) (fun _ => ?_)) <;> (first | refine da_onC 15 rfl rfl rfl rfl rfl (by kernel_rfl) (by first | exact po_fieldAddr rfl inferInstance | fail) ?_ | refine da_offC 15 rfl rfl rfl rfl rfl rfl (by kernel_rfl) ?_ | refine da_offU 15 rfl rfl rfl rfl rfl (by kernel_rfl) ?_)))
    all_goals (first | refine da_onC 16 rfl rfl rfl rfl rfl (by kernel_rfl) (by first | exact pc_load1L rfl inferInstance (at_has (.inl rfl) rfl rfl) inferInstance | fail) ?_ | refine da_offC 16 rfl rfl rfl rfl rfl rfl (by kernel_rfl) ?_ | refine da_offU 16 rfl rfl rfl rfl rfl (by kernel_rfl) ?_ | ((first | refine da_caseP (t := 61) rfl (fun _ => ?_) (fun _ => ?_) | refine da_caseNP (t := 61) rfl (fun _ => ?_) (fun _ => ?_) | refine da_caseEq (t := 61) rfl (fun _ => ?_) (fun _ => ?_) | refine da_caseNe (t := 61) rfl (fun _ => ?_) (fun _ => ?_) | refine da_caseNB (t := 61) rfl (fun _ => ?_) (fun _ => ?_) | refine da_case (t := 61) rfl (fun _ => ?_) (fun _ => ?_)) <;> (first | refine da_onC 16 rfl rfl rfl rfl rfl (by kernel_rfl) (by first | exact pc_load1L rfl inferInstance (at_has (.inl rfl) rfl rfl) inferInstance | fail) ?_ | refine da_offC 16 rfl rfl rfl rfl rfl rfl (by kernel_rfl) ?_ | refine da_offU 16 rfl rfl rfl rfl rfl (by kernel_rfl) ?_)))
    all_goals (first | refine da_onC 17 rfl rfl rfl rfl rfl (by kernel_rfl) (by first | exact pc_indexRowZ rfl rfl inferInstance inferInstance inferInstance (by omega) (by omega) | fail) ?_ | refine da_offC 17 rfl rfl rfl rfl rfl rfl (by kernel_rfl) ?_ | refine da_offU 17 rfl rfl rfl rfl rfl (by kernel_rfl) ?_ | ((first | refine da_caseP (t := 61) rfl (fun _ => ?_) (fun _ => ?_) | refine da_caseNP (t := 61) rfl (fun _ => ?_) (fun _ => ?_) | refine da_caseEq (t := 61) rfl (fun _ => ?_) (fun _ => ?_) | refine da_caseNe (t := 61) rfl (fun _ => ?_) (fun _ => ?_) | refine da_caseNB (t := 61) rfl (fun _ => ?_) (fun _ => ?_) | refine da_case (t := 61) rfl (fun _ => ?_) (fun _ => ?_)) <;> (first | refine da_onC 17 rfl rfl rfl rfl rfl (by kernel_rfl) (by first | exact pc_indexRowZ rfl rfl inferInstance inferInstance inferInstance (by omega) (by omega) | fail) ?_ | refine da_offC 17 rfl rfl rfl rfl rfl rfl (by kernel_rfl) ?_ | refine da_offU 17 rfl rfl rfl rfl rfl (by kernel_rfl) ?_)))
    all_goals (first | refine da_onC 18 rfl rfl rfl rfl rfl (by kernel_rfl) (by first | exact pc_ldBool rfl inferInstance inferInstance (by omega) inferInstance | fail) ?_ | refine da_offC 18 rfl rfl rfl rfl rfl rfl (by kernel_rfl) ?_ | refine da_offU 18 rfl rfl rfl rfl rfl (by kernel_rfl) ?_ | ((first | refine da_caseP (t := 61) rfl (fun _ => ?_) (fun _ => ?_) | refine da_caseNP (t := 61) rfl (fun _ => ?_) (fun _ => ?_) | refine da_caseEq (t := 61) rfl (fun _ => ?_) (fun _ => ?_) | refine da_caseNe (t := 61) rfl (fun _ => ?_) (fun _ => ?_) | refine da_caseNB (t := 61) rfl (fun _ => ?_) (fun _ => ?_) | refine da_case (t := 61) rfl (fun _ => ?_) (fun _ => ?_)) <;> (first | refine da_onC 18 rfl rfl rfl rfl rfl (by kernel_rfl) (by first | exact pc_ldBool rfl inferInstance inferInstance (by omega) inferInstance | fail) ?_ | refine da_offC 18 rfl rfl rfl rfl rfl rfl (by kernel_rfl) ?_ | refine da_offU 18 rfl rfl rfl rfl rfl (by kernel_rfl) ?_)))
    all_goals (first | refine da_onC 19 rfl rfl rfl rfl rfl (by kernel_rfl) (by first | exact po_pick rfl rfl | fail) ?_ | refine da_offC 19 rfl rfl rfl rfl rfl rfl (by kernel_rfl) ?_ | refine da_offU 19 rfl rfl rfl rfl rfl (by kernel_rfl) ?_ | ((first | refine da_caseP (t := 59) rfl (fun _ => ?_) (fun _ => ?_) | refine da_caseNP (t := 59) rfl (fun _ => ?_) (fun _ => ?_) | refine da_caseEq (t := 59) rfl (fun _ => ?_) (fun _ => ?_) | refine da_caseNe (t := 59) rfl (fun _ => ?_) (fun _ => ?_) | refine da_caseNB (t := 59) rfl (fun _ => ?_) (fun _ => ?_) | refine da_case (t := 59) rfl (fun _ => ?_) (fun _ => ?_)) <;> (first | refine da_onC 19 rfl rfl rfl rfl rfl (by kernel_rfl) (by first | exact po_pick rfl rfl | fail) ?_ | refine da_offC 19 rfl rfl rfl rfl rfl rfl (by kernel_rfl) ?_ | refine da_offU 19 rfl rfl rfl rfl rfl (by kernel_rfl) ?_)))
    all_goals (first | refine da_onC 20 rfl rfl rfl rfl rfl (by kernel_rfl) (by first | exact po_move rfl | fail) ?_ | refine da_offC 20 rfl rfl rfl rfl rfl rfl (by kernel_rfl) ?_ | refine da_offU 20 rfl rfl rfl rfl rfl (by kernel_rfl) ?_ | ((first | refine da_caseP (t := 59) rfl (fun _ => ?_) (fun _ => ?_) | refine da_caseNP (t := 59) rfl (fun _ => ?_) (fun _ => ?_) | refine da_caseEq (t := 59) rfl (fun _ => ?_) (fun _ => ?_) | refine da_caseNe (t := 59) rfl (fun _ => ?_) (fun _ => ?_) | refine da_caseNB (t := 59) rfl (fun _ => ?_) (fun _ => ?_) | refine da_case (t := 59) rfl (fun _ => ?_) (fun _ => ?_)) <;> (first | refine da_onC 20 rfl rfl rfl rfl rfl (by kernel_rfl) (by first | exact po_move rfl | fail) ?_ | refine da_offC 20 rfl rfl rfl rfl rfl rfl (by kernel_rfl) ?_ | refine da_offU 20 rfl rfl rfl rfl rfl (by kernel_rfl) ?_)))
    all_goals (first | refine da_onC 21 rfl rfl rfl rfl rfl (by kernel_rfl) (by first | exact po_move rfl | fail) ?_ | refine da_offC 21 rfl rfl rfl rfl rfl rfl (by kernel_rfl) ?_ | refine da_offU 21 rfl rfl rfl rfl rfl (by kernel_rfl) ?_ | ((first | refine da_caseP (t := 72) rfl (fun _ => ?_) (fun _ => ?_) | refine da_caseNP (t := 72) rfl (fun _ => ?_) (fun _ => ?_) | refine da_caseEq (t := 72) rfl (fun _ => ?_) (fun _ => ?_) | refine da_caseNe (t := 72) rfl (fun _ => ?_) (fun _ => ?_) | refine da_caseNB (t := 72) rfl (fun _ => ?_) (fun _ => ?_) | refine da_case (t := 72) rfl (fun _ => ?_) (fun _ => ?_)) <;> (first | refine da_onC 21 rfl rfl rfl rfl rfl (by kernel_rfl) (by first | exact po_move rfl | fail) ?_ | refine da_offC 21 rfl rfl rfl rfl rfl rfl (by kernel_rfl) ?_ | refine da_offU 21 rfl rfl rfl rfl rfl (by kernel_rfl) ?_)))
    all_goals (first | refine da_onC 22 rfl rfl rfl rfl rfl (by kernel_rfl) (by first | exact po_not rfl | fail) ?_ | refine da_offC 22 rfl rfl rfl rfl rfl rfl (by kernel_rfl) ?_ | refine da_offU 22 rfl rfl rfl rfl rfl (by kernel_rfl) ?_ | ((first | refine da_caseP (t := 72) rfl (fun _ => ?_) (fun _ => ?_) | refine da_caseNP (t := 72) rfl (fun _ => ?_) (fun _ => ?_) | refine da_caseEq (t := 72) rfl (fun _ => ?_) (fun _ => ?_) | refine da_caseNe (t := 72) rfl (fun _ => ?_) (fun _ => ?_) | refine da_caseNB (t := 72) rfl (fun _ => ?_) (fun _ => ?_) | refine da_case (t := 72) rfl (fun _ => ?_) (fun _ => ?_)) <;> (first | refine da_onC 22 rfl rfl rfl rfl rfl (by kernel_rfl) (by first | exact po_not rfl | fail) ?_ | refine da_offC 22 rfl rfl rfl rfl rfl rfl (by kernel_rfl) ?_ | refine da_offU 22 rfl rfl rfl rfl rfl (by kernel_rfl) ?_)))
    all_goals (first | refine da_onC 23 rfl rfl rfl rfl rfl (by kernel_rfl) (by first | exact po_move rfl | fail) ?_ | refine da_offC 23 rfl rfl rfl rfl rfl rfl (by kernel_rfl) ?_ | refine da_offU 23 rfl rfl rfl rfl rfl (by kernel_rfl) ?_ | ((first | refine da_caseP (t := 72) rfl (fun _ => ?_) (fun _ => ?_) | refine da_caseNP (t := 72) rfl (fun _ => ?_) (fun _ => ?_) | refine da_caseEq (t := 72) rfl (fun _ => ?_) (fun _ => ?_) | refine da_caseNe (t := 72) rfl (fun _ => ?_) (fun _ => ?_) | refine da_caseNB (t := 72) rfl (fun _ => ?_) (fun _ => ?_) | refine da_case (t := 72) rfl (fun _ => ?_) (fun _ => ?_)) <;> (first | refine da_onC 23 rfl rfl rfl rfl rfl (by kernel_rfl) (by first | exact po_move rfl | fail) ?_ | refine da_offC 23 rfl rfl rfl rfl rfl rfl (by kernel_rfl) ?_ | refine da_offU 23 rfl rfl rfl rfl rfl (by kernel_rfl) ?_)))
    all_goals (first | refine da_onC 24 rfl rfl rfl rfl rfl (by kernel_rfl) (by first | exact po_move rfl | fail) ?_ | refine da_offC 24 rfl rfl rfl rfl rfl rfl (by kernel_rfl) ?_ | refine da_offU 24 rfl rfl rfl rfl rfl (by kernel_rfl) ?_ | ((first | refine da_caseP (t := 75) rfl (fun _ => ?_) (fun _ => ?_) | refine da_caseNP (t := 75) rfl (fun _ => ?_) (fun _ => ?_) | refine da_caseEq (t := 75) rfl (fun _ => ?_) (fun _ => ?_) | refine da_caseNe (t := 75) rfl (fun _ => ?_) (fun _ => ?_) | refine da_caseNB (t := 75) rfl (fun _ => ?_) (fun _ => ?_) | refine da_case (t := 75) rfl (fun _ => ?_) (fun _ => ?_)) <;> (first | refine da_onC 24 rfl rfl rfl rfl rfl (by kernel_rfl) (by first | exact po_move rfl | fail) ?_ | refine da_offC 24 rfl rfl rfl rfl rfl rfl (by kernel_rfl) ?_ | refine da_offU 24 rfl rfl rfl rfl rfl (by kernel_rfl) ?_)))
    all_goals (first | refine da_onC 25 rfl rfl rfl rfl rfl (by kernel_rfl) (by first | exact po_fieldAddr rfl inferInstance | fail) ?_ | refine da_offC 25 rfl rfl rfl rfl rfl rfl (by kernel_rfl) ?_ | refine da_offU 25 rfl rfl rfl rfl rfl (by kernel_rfl) ?_ | ((first | refine da_caseP (t := 75) rfl (fun _ => ?_) (fun _ => ?_) | refine da_caseNP (t := 75) rfl (fun _ => ?_) (fun _ => ?_) | refine da_caseEq (t := 75) rfl (fun _ => ?_) (fun _ => ?_) | refine da_caseNe (t := 75) rfl (fun _ => ?_) (fun _ => ?_) | refine da_caseNB (t := 75) rfl (fun _ => ?_) (fun _ => ?_) | refine da_case (t := 75) rfl (fun _ => ?_) (fun _ => ?_)) <;> (first | refine da_onC 25 rfl rfl rfl rfl rfl (by kernel_rfl) (by first | exact po_fieldAddr rfl inferInstance | fail) ?_ | refine da_offC 25 rfl rfl rfl rfl rfl rfl (by kernel_rfl) ?_ | refine da_offU 25 rfl rfl rfl rfl rfl (by kernel_rfl) ?_)))
    all_goals (first | refine da_onC 26 rfl rfl rfl rfl rfl (by kernel_rfl) (by first | exact pc_load1L rfl inferInstance (at_has (.inl rfl) rfl rfl) inferInstance | fail) ?_ | refine da_offC 26 rfl rfl rfl rfl rfl rfl (by kernel_rfl) ?_ | refine da_offU 26 rfl rfl rfl rfl rfl (by kernel_rfl) ?_ | ((first | refine da_caseP (t := 75) rfl (fun _ => ?_) (fun _ => ?_) | refine da_caseNP (t := 75) rfl (fun _ => ?_) (fun _ => ?_) | refine da_caseEq (t := 75) rfl (fun _ => ?_) (fun _ => ?_) | refine da_caseNe (t := 75) rfl (fun _ => ?_) (fun _ => ?_) | refine da_caseNB (t := 75) rfl (fun _ => ?_) (fun _ => ?_) | refine da_case (t := 75) rfl (fun _ => ?_) (fun _ => ?_)) <;> (first | refine da_onC 26 rfl rfl rfl rfl rfl (by kernel_rfl) (by first | exact pc_load1L rfl inferInstance (at_has (.inl rfl) rfl rfl) inferInstance | fail) ?_ | refine da_offC 26 rfl rfl rfl rfl rfl rfl (by kernel_rfl) ?_ | refine da_offU 26 rfl rfl rfl rfl rfl (by kernel_rfl) ?_)))
    all_goals (first | refine da_onC 27 rfl rfl rfl rfl rfl (by kernel_rfl) (by first | exact pc_indexRowZ rfl rfl inferInstance inferInstance inferInstance (by omega) (by omega) | fail) ?_ | refine da_offC 27 rfl rfl rfl rfl rfl rfl (by kernel_rfl) ?_ | refine da_offU 27 rfl rfl rfl rfl rfl (by kernel_rfl) ?_ | ((first | refine da_caseP (t := 75) rfl (fun _ => ?_) (fun _ => ?_) | refine da_caseNP (t := 75) rfl (fun _ => ?_) (fun _ => ?_) | refine da_caseEq (t := 75) rfl (fun _ => ?_) (fun _ => ?_) | refine da_caseNe (t := 75) rfl (fun _ => ?_) (fun _ => ?_) | refine da_caseNB (t := 75) rfl (fun _ => ?_) (fun _ => ?_) | refine da_case (t := 75) rfl (fun _ => ?_) (fun _ => ?_)) <;> (first | refine da_onC 27 rfl rfl rfl rfl rfl (by kernel_rfl) (by first | exact pc_indexRowZ rfl rfl inferInstance inferInstance inferInstance (by omega) (by omega) | fail) ?_ | refine da_offC 27 rfl rfl rfl rfl rfl rfl (by kernel_rfl) ?_ | refine da_offU 27 rfl rfl rfl rfl rfl (by kernel_rfl) ?_)))
    all_goals (first | refine da_onC 28 rfl rfl rfl rfl rfl (by kernel_rfl) (by first | exact pc_ldAV rfl inferInstance inferInstance (by omega) inferInstance | fail) ?_ | refine da_offC 28 rfl rfl rfl rfl rfl rfl (by kernel_rfl) ?_ | refine da_offU 28 rfl rfl rfl rfl rfl (by kernel_rfl) ?_ | ((first | refine da_caseP (t := 75) rfl (fun _ => ?_) (fun _ => ?_) | refine da_caseNP (t := 75) rfl (fun _ => ?_) (fun _ => ?_) | refine da_caseEq (t := 75) rfl (fun _ => ?_) (fun _ => ?_) | refine da_caseNe (t := 75) rfl (fun _ => ?_) (fun _ => ?_) | refine da_caseNB (t := 75) rfl (fun _ => ?_) (fun _ => ?_) | refine da_case (t := 75) rfl (fun _ => ?_) (fun _ => ?_)) <;> (first | refine da_onC 28 rfl rfl rfl rfl rfl (by kernel_rfl) (by first | exact pc_ldAV rfl inferInstance inferInstance (by omega) inferInstance | fail) ?_ | refine da_offC 28 rfl rfl rfl rfl rfl rfl (by kernel_rfl) ?_ | refine da_offU 28 rfl rfl rfl rfl rfl (by kernel_rfl) ?_)))
    all_goals (first | refine da_onC 29 rfl rfl rfl rfl rfl (by kernel_rfl) (by first | exact po_fieldAddr rfl inferInstance | fail) ?_ | refine da_offC 29 rfl rfl rfl rfl rfl rfl (by kernel_rfl) ?_ | refine da_offU 29 rfl rfl rfl rfl rfl (by kernel_rfl) ?_ | ((first | refine da_caseP (t := 75) rfl (fun _ => ?_) (fun _ => ?_) | refine da_caseNP (t := 75) rfl (fun _ => ?_) (fun _ => ?_) | refine da_caseEq (t := 75) rfl (fun _ => ?_) (fun _ => ?_) | refine da_caseNe (t := 75) rfl (fun _ => ?_) (fun _ => ?_) | refine da_caseNB (t := 75) rfl (fun _ => ?_) (fun _ => ?_) | refine da_case (t := 75) rfl (fun _ => ?_) (fun _ => ?_)) <;> (first | refine da_onC 29 rfl rfl rfl rfl rfl (by kernel_rfl) (by first | exact po_fieldAddr rfl inferInstance | fail) ?_ | refine da_offC 29 rfl rfl rfl rfl rfl rfl (by kernel_rfl) ?_ | refine da_offU 29 rfl rfl rfl rfl rfl (by kernel_rfl) ?_)))
    all_goals (first | refine da_onC 30 rfl rfl rfl rfl rfl (by kernel_rfl) (by first | exact pc_load1L rfl inferInstance (at_has (.inl rfl) rfl rfl) inferInstance | fail) ?_ | refine da_offC 30 rfl rfl rfl rfl rfl rfl (by kernel_rfl) ?_ | refine da_offU 30 rfl rfl rfl rfl rfl (by kernel_rfl) ?_ | ((first | refine da_caseP (t := 75) rfl (fun _ => ?_) (fun _ => ?_) | refine da_caseNP (t := 75) rfl (fun _ => ?_) (fun _ => ?_) | refine da_caseEq (t := 75) rfl (fun _ => ?_) (fun _ => ?_) | refine da_caseNe (t := 75) rfl (fun _ => ?_) (fun _ => ?_) | refine da_caseNB (t := 75) rfl (fun _ => ?_) (fun _ => ?_) | refine da_case (t := 75) rfl (fun _ => ?_) (fun _ => ?_)) <;> (first | refine da_onC 30 rfl rfl rfl rfl rfl (by kernel_rfl) (by first | exact pc_load1L rfl inferInstance (at_has (.inl rfl) rfl rfl) inferInstance | fail) ?_ | refine da_offC 30 rfl rfl rfl rfl rfl rfl (by kernel_rfl) ?_ | refine da_offU 30 rfl rfl rfl rfl rfl (by kernel_rfl) ?_)))
    all_goals (first | refine da_onC 31 rfl rfl rfl rfl rfl (by kernel_rfl) (by first | exact pc_indexRowZ rfl rfl inferInstance inferInstance inferInstance (by omega) (by omega) | fail) ?_ | refine da_offC 31 rfl rfl rfl rfl rfl rfl (by kernel_rfl) ?_ | refine da_offU 31 rfl rfl rfl rfl rfl (by kernel_rfl) ?_ | ((first | refine da_caseP (t := 75) rfl (fun _ => ?_) (fun _ => ?_) | refine da_caseNP (t := 75) rfl (fun _ => ?_) (fun _ => ?_) | refine da_caseEq (t := 75) rfl (fun _ => ?_) (fun _ => ?_) | refine da_caseNe (t := 75) rfl (fun _ => ?_) (fun _ => ?_) | refine da_caseNB (t := 75) rfl (fun _ => ?_) (fun _ => ?_) | refine da_case (t := 75) rfl (fun _ => ?_) (fun _ => ?_)) <;> (first | refine da_onC 31 rfl rfl rfl rfl rfl (by kernel_rfl) (by first | exact pc_indexRowZ rfl rfl inferInstance inferInstance inferInstance (by omega) (by omega) | fail) ?_ | refine da_offC 31 rfl rfl rfl rfl rfl rfl (by kernel_rfl) ?_ | refine da_offU 31 rfl rfl rfl rfl rfl (by kernel_rfl) ?_)))
    all_goals (first | refine da_onC 32 rfl rfl rfl rfl rfl (by kernel_rfl) (by first | exact pc_ldBool rfl inferInstance inferInstance (by omega) inferInstance | fail) ?_ | refine da_offC 32 rfl rfl rfl rfl rfl rfl (by kernel_rfl) ?_ | refine da_offU 32 rfl rfl rfl rfl rfl (by kernel_rfl) ?_ | ((first | refine da_caseP (t := 75) rfl (fun _ => ?_) (fun _ => ?_) | refine da_caseNP (t := 75) rfl (fun _ => ?_) (fun _ => ?_) | refine da_caseEq (t := 75) rfl (fun _ => ?_) (fun _ => ?_) | refine da_caseNe (t := 75) rfl (fun _ => ?_) (fun _ => ?_) | refine da_caseNB (t := 75) rfl (fun _ => ?_) (fun _ => ?_) | refine da_case (t := 75) rfl (fun _ => ?_) (fun _ => ?_)) <;> (first | refine da_onC 32 rfl rfl rfl rfl rfl (by kernel_rfl) (by first | exact pc_ldBool rfl inferInstance inferInstance (by omega) inferInstance | fail) ?_ | refine da_offC 32 rfl rfl rfl rfl rfl rfl (by kernel_rfl) ?_ | refine da_offU 32 rfl rfl rfl rfl rfl (by kernel_rfl) ?_)))
    all_goals (first | refine da_onC 33 rfl rfl rfl rfl rfl (by kernel_rfl) (by first | exact po_pick rfl rfl | fail) ?_ | refine da_offC 33 rfl rfl rfl rfl rfl rfl (by kernel_rfl) ?_ | refine da_offU 33 rfl rfl rfl rfl rfl (by kernel_rfl) ?_ | ((first | refine da_caseP (t := 72) rfl (fun _ => ?_) (fun _ => ?_) | refine da_caseNP (t := 72) rfl (fun _ => ?_) (fun _ => ?_) | refine da_caseEq (t := 72) rfl (fun _ => ?_) (fun _ => ?_) | refine da_caseNe (t := 72) rfl (fun _ => ?_) (fun _ => ?_) | refine da_caseNB (t := 72) rfl (fun _ => ?_) (fun _ => ?_) | refine da_case (t := 72) rfl (fun _ => ?_) (fun _ => ?_)) <;> (first | refine da_onC 33 rfl rfl rfl rfl rfl (by kernel_rfl) (by first | exact po_pick rfl rfl | fail) ?_ | refine da_offC 33 rfl rfl rfl rfl rfl rfl (by kernel_rfl) ?_ | refine da_offU 33 rfl rfl rfl rfl rfl (by kernel_rfl) ?_)))
    all_goals (first | refine da_onC 34 rfl rfl rfl rfl rfl (by kernel_rfl) (by first | exact po_pick rfl rfl | fail) ?_ | refine da_offC 34 rfl rfl rfl rfl rfl rfl (by kernel_rfl) ?_ | refine da_offU 34 rfl rfl rfl rfl rfl (by kernel_rfl) ?_ | ((first | refine da_caseP (t := 59) rfl (fun _ => ?_) (fun _ => ?_) | refine da_caseNP (t := 59) rfl (fun _ => ?_) (fun _ => ?_) | refine da_caseEq (t := 59) rfl (fun _ => ?_) (fun _ => ?_) | refine da_caseNe (t := 59) rfl (fun _ => ?_) (fun _ => ?_) | refine da_caseNB (t := 59) rfl (fun _ => ?_) (fun _ => ?_) | refine da_case (t := 59) rfl (fun _ => ?_) (fun _ => ?_)) <;> (first | refine da_onC 34 rfl rfl rfl rfl rfl (by kernel_rfl) (by first | exact po_pick rfl rfl | fail) ?_ | refine da_offC 34 rfl rfl rfl rfl rfl rfl (by kernel_rfl) ?_ | refine da_offU 34 rfl rfl rfl rfl rfl (by kernel_rfl) ?_)))
    all_goals (first | refine da_onC 35 rfl rfl rfl rfl rfl (by kernel_rfl) (by first | exact po_pick rfl rfl | fail) ?_ | refine da_offC 35 rfl rfl rfl rfl rfl rfl (by kernel_rfl) ?_ | refine da_offU 35 rfl rfl rfl rfl rfl (by kernel_rfl) ?_ | ((first | refine da_caseP (t := 53) rfl (fun _ => ?_) (fun _ => ?_) | refine da_caseNP (t := 53) rfl (fun _ => ?_) (fun _ => ?_) | refine da_caseEq (t := 53) rfl (fun _ => ?_) (fun _ => ?_) | refine da_caseNe (t := 53) rfl (fun _ => ?_) (fun _ => ?_) | refine da_caseNB (t := 53) rfl (fun _ => ?_) (fun _ => ?_) | refine da_case (t := 53) rfl (fun _ => ?_) (fun _ => ?_)) <;> (first | refine da_onC 35 rfl rfl rfl rfl rfl (by kernel_rfl) (by first | exact po_pick rfl rfl | fail) ?_ | refine da_offC 35 rfl rfl rfl rfl rfl rfl (by kernel_rfl) ?_ | refine da_offU 35 rfl rfl rfl rfl rfl (by kernel_rfl) ?_)))
    all_goals refine da_takeC 36 rfl rfl (by kernel_rfl) (by first | exact po_pick rfl rfl | fail) ?_
    all_goals refine da_takeC 37 rfl rfl (by kernel_rfl) (by first | exact po_assign rfl | fail) ?_
    all_goals refine da_done (by kernel_rfl) ?_
    repeat' (first
      | refine wp_region_seq ?_
      | refine thru_seq_next ?_
      | refine thru_block_next ?_
      | refine wl_nil ?_
      | refine wl_pop rfl (po_move rfl) ?_
      | refine wl_pop rfl (po_assign rfl) ?_
      | refine wl_pop rfl (pc_add rfl rfl (by omega) (by omega)) ?_
      | fail)
    all_goals first
      | (refine ⟨q + 1, by omega, ⟨by omega, hle7⟩, sub_eq rfl (congrArg Bo ?_) (by repeat' (first | exact sub_nil | refine sub_cons rfl ?_ | refine sub_int rfl (by first | rfl | omega | (push_cast; omega) | simp) ?_ | refine sub_eq rfl (by assumption) ?_))⟩; rw [hsucc]; simp_all [folB]; done)
      | (exfalso; simp_all; done)
      | (refine ⟨q + 1, by omega, ⟨by omega, hle7⟩, sub_eq rfl (congrArg Bo ?_) (by repeat' (first | exact sub_nil | refine sub_cons rfl ?_ | refine sub_int rfl (by first | rfl | omega | (push_cast; omega) | simp) ?_ | refine sub_eq rfl (by assumption) ?_))⟩; rw [hsucc]; simp only [folB, *, eq_self, decide_true, decide_false, Bool.true_and, Bool.false_and, Bool.false_or, Bool.true_or, if_true, Bool.false_eq_true, if_false, Bool.or_false]; done)
      | skip
    all_goals refine ⟨q + 1, by omega, ⟨by omega, hle7⟩, sub_eq rfl (congrArg Bo ?_) (by repeat' (first | exact sub_nil | refine sub_cons rfl ?_ | refine sub_int rfl (by first | rfl | omega | (push_cast; omega) | simp) ?_ | refine sub_eq rfl (by assumption) ?_))⟩
    all_goals rw [hsucc]
    · rename_i e4 e3 e2 e1 e0
      simp only [folB]
      rw [e4, e3, if_pos e2, e1]; simp
    · rename_i e4 e3 e2 e1
      simp only [folB]
      rw [e4, e3, if_neg (by rw [e2]; decide)]; simp
  · rename_i hql hn
    obtain rfl : q = (g.getD s []).length := by omega
    rw [List.take_length] at hn
    refine ret_ inferInstance (congrArg Bo ?_)
    have hmem : m ∈ g.getD r [] := by rw [← hm, getD_lt hpl']; exact List.getElem_mem _
    cases hf : folL g rel back r s with
    | false => rfl
    | true =>
      unfold folL at hf
      rw [List.all_eq_true] at hf
      have := hf m hmem
      rw [show rowOf g s = g.getD s [] from rfl] at this
      rw [this] at hn; cases hn
  · rename_i hql hn
    obtain rfl : q = (g.getD s []).length := by omega
    rw [List.take_length] at hn
    refine ⟨p + 1, by omega, ⟨by omega, inferInstance, ?_⟩, (by repeat' (first | exact sub_nil | refine sub_cons rfl ?_ | refine sub_int rfl (by first | rfl | omega | (push_cast; omega) | simp) ?_ | refine sub_eq rfl (by assumption) ?_))⟩
    rw [take_succ_getD hpl' (d := (0, 0)), List.all_append, hall, hm]
    simp only [List.all_cons, List.all_nil, Bool.and_true, Bool.true_and]
    rw [show rowOf g s = g.getD s [] from rfl]
    simpa using hn
end
end Go.Proofs.Ytpkgcdpebomalaa.Asl
