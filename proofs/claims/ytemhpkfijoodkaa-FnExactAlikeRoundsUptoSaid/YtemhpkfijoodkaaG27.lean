/- Rows of rows of numbers: alike, marked, what was marked held. -/
import Derived.Test.YtemhpkfijoodkaaG26
namespace Go.Proofs.Ytemhpkfijoodkaa.Asl
open Go.RowKit Go.Proofs.YtemhpkfijoodkaaW.PrintLast
set_option linter.unusedVariables false
set_option linter.unusedSimpArgs false
attribute [local irreducible] WP WL andThen inBlock noGoto atEnd ACall DA DL PO Hold
set_option maxHeartbeats 4000000
set_option synthInstance.maxHeartbeats 400000
set_option synthInstance.maxSize 10000
def mkN (a : Nat) : List (List Nat) → List (List Nat)
  | [] => []
  | l :: g => cntN a l.length :: mkN (a + l.length) g
theorem mkN_len : ∀ (g : List (List Nat)) (a : Nat), (mkN a g).length = g.length
  | [], a => rfl
  | l :: g, a => by simp [mkN, mkN_len g]
theorem mkN_get : ∀ (g : List (List Nat)) (a : Nat) (k : Nat), k < g.length → (mkN a g).getD k [] = cntN (a + totalG (g.take k)) (g.getD k []).length
  | [], a, k, h => by simp at h
  | l :: g, a, 0, h => by simp [mkN, totalG]
  | l :: g, a, k + 1, h => by
    have := mkN_get g (a + l.length) k (by simpa using h)
    simp only [mkN, List.getD_cons_succ, List.take_succ_cons]
    rw [this]
    congr 1
    simp only [totalG, List.map_cons, List.sum_cons]
    omega
/-- A row of slices is no row of numbers. -/
theorem rw_ne_nat {σ₀ σ : Store} {s : AV} {ss : List AV} {gs : List (List Nat)} (h : RW σ s ss) (hr : ORs σ₀ σ ss gs) : ∀ n, (∃ off m, s = .sl s.id off m) → AV.sl s.id 0 n ∉ ss := by
  rintro n ⟨off, m, e⟩ hm
  obtain ⟨_, l, hh⟩ := hr.has hm
  have hpos : 0 < ss.length := List.length_pos_of_mem hm
  obtain ⟨o, h1, h2, h3, h4, h5⟩ := h.inner hpos
  have e2 := h2.symm.trans hh.get
  simp only [Option.some.injEq] at e2
  subst e2
  have h6 := h5 0 (ss.getD 0 nilS) (by simp [List.getD_eq_getElem?_getD, hpos])
  rw [cut_cutL] at h6
  have h7 : (rowCells l)[s.off + 0 * Enc.e AV]? = some (ss.getD 0 nilS) := by
    have e3 := congrArg (fun r => r[0]?) h6
    unfold cutL at e3
    simp only [List.getElem?_take, List.getElem?_drop, Nat.add_zero] at e3
    rw [if_pos (by decide)] at e3
    rw [e3]; rfl
  rw [rowCells_natL, List.getElem?_map] at h7
  rcases (hr.row 0).rep with ⟨_, q⟩ | ⟨i, q, _⟩
  · rw [q] at h7
    cases hx : l[s.off + 0 * Enc.e AV]? with
    | none => rw [hx] at h7; cases h7
    | some x => rw [hx] at h7; cases h7
  · rw [q] at h7
    cases hx : l[s.off + 0 * Enc.e AV]? with
    | none => rw [hx] at h7; cases h7
    | some x => rw [hx] at h7; cases h7
section
variable {base : Nat}
theorem c_eqIntSS (σ : Store) (s s' : AV) {ss ss' : List AV} {g g' : List (List Nat)} [hs : RW σ s ss] [hs' : RW σ s' ss'] [hg : RRs σ ss g] [hg' : RRs σ ss' g'] : ACall Try.prog base F_laws_eqIntSS [s, s'] σ (fun _ => False) (Ret σ (Bo (eqB g g'))) := by
  have hb := hs.bound
  have hb' := hs'.bound
  have h1 := hg.len
  have h2 := hg'.len
  refine acall2 fun_laws_eqIntSS rfl tmps_laws_eqIntSS rfl fun N B w₀ ρ₀ => ?_
  repeat' (first
    | refine wl_pop rfl (pc_lenRow rfl inferInstance inferInstance) ?_
    | refine wp_seqA ?_
    | refine wp_region_seq ?_
    | refine thru_seq_next ?_
    | refine thru_seq_ret ?_
    | refine wp_skipA ?_
    | refine wp_retA ?_
    | refine wp_blockA ?_
    | refine wl_nil ?_
    | refine wl_pop rfl (po_move rfl) ?_
    | refine wl_pop rfl (po_assign rfl) ?_
    | refine wl_pop rfl (po_binOp rfl rfl rfl) ?_
    | refine wp_condNP rfl (fun _ => ?_) (fun _ => ?_)
    | refine at_ret (res1 rfl rfl) ?_
    | fail)
  · refine ret_ inferInstance (congrArg Bo (eqB_ne ?_).symm)
    rintro rfl; simp_all
  rename_i hl
  have hl' : g.length = g'.length := by omega
  refine wc_loop [(0, _), (1, _)] (fun k : Nat => [(5, I k)]) (fun k σ' => k ≤ g.length ∧ g.take k = g'.take k ∧ LeS σ σ') (fun k => g.length - k) 0 ⟨Nat.zero_le _, rfl, inferInstance⟩ (by repeat' (first | exact sub_nil | refine sub_cons rfl ?_ | refine sub_int rfl (by first | rfl | omega | (push_cast; omega) | simp) ?_ | refine sub_eq rfl (by assumption) ?_)) ?_
  rintro k σ' ⟨hk, htk, hgr⟩
  have := hgr.grow
  repeat' (first
    | refine wl_pop rfl (pc_lenRow rfl inferInstance inferInstance) ?_
    | refine wp_seqA ?_
    | refine wp_region_seq ?_
    | refine thru_seq_next ?_
    | refine thru_seq ?_
    | refine exit_here ?_
    | refine wp_skipA ?_
    | refine wp_retA ?_
    | refine wp_exitA ?_
    | refine wp_blockA ?_
    | refine wl_nil ?_
    | refine wl_pop rfl (po_move rfl) ?_
    | refine wl_pop rfl (po_assign rfl) ?_
    | refine wl_pop rfl (po_binOp rfl rfl rfl) ?_
    | refine wp_condP rfl (fun _ => ?_) (fun _ => ?_)
    | refine at_ret (res1 rfl rfl) ?_
    | fail)
  rotate_left
  · refine ret_ inferInstance (congrArg Bo ?_)
    have : k = g.length := by omega
    subst this
    rw [List.take_length, List.take_of_length_le (by omega)] at htk
    rw [htk, eqB_self]
  have hk' : k < g.length := by omega
  have hk2 : k < g'.length := by omega
  refine wc_drawn [] mixed_ rfl ?_
  all_goals refine da_takeC 0 rfl rfl (by kernel_rfl) (by first | exact po_move rfl | fail) ?_
  all_goals refine da_takeC 1 rfl rfl (by kernel_rfl) (by first | exact po_move rfl | fail) ?_
  all_goals refine da_takeC 2 rfl rfl (by kernel_rfl) (by first | exact pc_indexRow rfl rfl inferInstance inferInstance inferInstance (by omega) | fail) ?_
  all_goals refine da_takeC 3 rfl rfl (by kernel_rfl) (by first | exact pc_ldAV rfl inferInstance inferInstance (by omega) inferInstance | fail) ?_
  all_goals refine da_takeC 4 rfl rfl (by kernel_rfl) (by first | exact po_move rfl | fail) ?_
  all_goals refine da_takeC 5 rfl rfl (by kernel_rfl) (by first | exact po_move rfl | fail) ?_
  all_goals refine da_takeC 6 rfl rfl (by kernel_rfl) (by first | exact pc_indexRow rfl rfl inferInstance inferInstance inferInstance (by omega) | fail) ?_
  all_goals refine da_takeC 7 rfl rfl (by kernel_rfl) (by first | exact pc_ldAV rfl inferInstance inferInstance (by omega) inferInstance | fail) ?_
  all_goals (first | (refine da_one 8 rfl (by kernel_rfl) (fun _ _ _ _ => ?_); (repeat' (first | (refine wc_callR rfl inferInstance rfl (c_eqIntS _ _ _) rfl ?_; intro _ _) | fail)); all_goals (first | refine wl_nil ⟨rfl, (by first | exact LeS.len inferInstance | exact App.len (by assumption)), ?_⟩ | trace_state)))
  all_goals refine da_takeC 9 rfl rfl (by kernel_rfl) (by first | exact po_not rfl | fail) ?_
  all_goals refine da_done (by kernel_rfl) ?_
  repeat' (first
    | refine wp_condNPr rfl (fun _ => ?_) (fun _ => ?_)
    | refine wp_seqA ?_
    | refine wp_region_seq ?_
    | refine thru_seq_next ?_
    | refine thru_seq_ret ?_
    | refine thru_block_ret ?_
    | refine thru_block_next ?_
    | refine wp_skipA ?_
    | refine wp_retA ?_
    | refine wl_nil ?_
    | refine wl_pop rfl (po_move rfl) ?_
    | refine wl_pop rfl (po_assign rfl) ?_
    | refine wl_pop rfl (pc_add rfl rfl (by omega) (by omega)) ?_
    | refine at_ret (res1 rfl rfl) ?_
    | fail)
  · rename_i he
    refine ret_ inferInstance (congrArg Bo (eqB_ne ?_).symm)
    rintro rfl
    simp_all [eqB]
  · rename_i he
    have he' : g.getD k [] = g'.getD k [] := by simpa [eqB] using he
    exact ⟨k + 1, by omega, ⟨hk', take_eq_succ htk hk' hk2 he', inferInstance⟩, (by repeat' (first | exact sub_nil | refine sub_cons rfl ?_ | refine sub_int rfl (by first | rfl | omega | (push_cast; omega) | simp) ?_ | refine sub_eq rfl (by assumption) ?_))⟩
theorem c_markIntSS {σ₀ : Store} (σ : Store) (s : AV) (a : Nat) {ss : List AV} {g : List (List Nat)} [hs : RW σ s ss] (hg : ORs σ₀ σ ss g) (ha2 : a + totalG g ≤ 1000000000000000) :
    ACall Try.prog base F_laws_markIntSS [s, I (a : Int)] σ (fun j => ∃ n, AV.sl j 0 n ∈ ss) (RetMarkR σ₀ σ ss ((a + totalG g : Nat) : Int) (mkN a g)) := by
  have hb := hs.bound
  have hl := hg.len
  have hsep := rw_ne_nat hs hg
  refine acall2 fun_laws_markIntSS rfl tmps_laws_markIntSS rfl fun N B w₀ ρ₀ => ?_
  repeat' (first
    | refine wp_seqA ?_
    | refine wp_region_seq ?_
    | refine thru_seq_next ?_
    | refine wp_blockA ?_
    | refine wl_nil ?_
    | refine wl_pop rfl (po_assign rfl) ?_
    | fail)
  refine wc_loop [(0, _)] (fun k : Nat => [(1, I ((a + totalG (g.take k) : Nat) : Int)), (5, I k)]) (fun k σ' => k ≤ g.length ∧ RW σ' s ss ∧ ORs σ₀ σ' ss ((mkN a g).take k ++ g.drop k) ∧ (∀ (j n : Nat), AV.sl j 0 n ∈ ss → ∃ l : List Nat, Has σ' j (Row l)) ∧ ∀ (j : Nat) (o : Ob), (∀ n, AV.sl j 0 n ∉ ss) → σ[j]? = some o → σ'[j]? = some o)
    (fun k => g.length - k) 0 ⟨Nat.zero_le _, hs, by simpa using hg, fun j n h => (hg.has h).2, fun _ _ _ h => h⟩ (by simp only [List.take_zero, totalG_nil]; exact (by repeat' (first | exact sub_nil | refine sub_cons rfl ?_ | refine sub_int rfl (by first | rfl | omega | (push_cast; omega) | simp) ?_ | refine sub_eq rfl (by assumption) ?_))) ?_
  rintro k σ' ⟨hk, hrw, hor, hown, hkeep⟩
  have hml := mkN_len g a
  repeat' (first
    | refine wl_pop rfl (pc_ldAV rfl inferInstance inferInstance (by omega) inferInstance) ?_
    | refine wl_pop rfl (pc_indexRow rfl rfl inferInstance inferInstance inferInstance (by omega)) ?_
    | refine wl_pop rfl (pc_lenRow rfl inferInstance inferInstance) ?_
    | refine wp_seqA ?_
    | refine wp_region_seq ?_
    | refine thru_seq_next ?_
    | refine thru_seq ?_
    | refine exit_here ?_
    | refine wp_skipA ?_
    | refine wp_retA ?_
    | refine wp_exitA ?_
    | refine wp_blockA ?_
    | refine wl_nil ?_
    | refine wl_pop rfl (po_move rfl) ?_
    | refine wl_pop rfl (po_assign rfl) ?_
    | refine wl_pop rfl (po_binOp rfl rfl rfl) ?_
    | refine wp_condP rfl (fun _ => ?_) (fun _ => ?_)
    | refine at_ret (res1 rfl rfl) ?_
    | fail)
  rotate_left
  · obtain rfl : k = g.length := by omega
    rw [List.take_length]
    refine ⟨rfl, ?_, hown, hkeep⟩
    rw [List.drop_length, List.append_nil, List.take_of_length_le (by omega)] at hor
    exact hor
  have hk' : k < g.length := by omega
  have hrow := hor.row k
  have hgk : ((mkN a g).take k ++ g.drop k).getD k [] = g.getD k [] := by
    rw [List.getD_eq_getElem?_getD, List.getElem?_append_right (by simp; omega), List.length_take, Nat.min_eq_left (by omega), Nat.sub_self]
    simp [List.getD_eq_getElem?_getD]
  rw [hgk] at hrow
  have hone := hrow.one
  have htk := totalG_take hk'
  have htl := totalG_le g (k + 1)
  repeat' (first
    | (refine wl_call rfl inferInstance rfl (c_markIntS σ' (ss.getD k nilS) _ hrow (by omega)) ?_ rfl ?_)
    | fail)
  · rintro j ⟨n, hn⟩
    have hmem : AV.sl j 0 n ∈ ss := by
      rw [← hn, getD_lt (by omega)]; exact List.getElem_mem _
    obtain ⟨l, hl'⟩ := hown j n hmem
    exact ⟨.inl ⟨n, hmem⟩, _, hl'.get, .inl rfl⟩
  rintro _ σ2 ⟨rfl, h2, h3⟩
  have hne : ∀ n, ss.getD k nilS ≠ .sl s.id 0 n ∨ ∀ off m, s ≠ .sl s.id off m := by
    intro n
    by_cases e : ∃ off m, s = .sl s.id off m
    · left
      intro e2
      exact hsep n e (by rw [← e2, getD_lt (by omega)]; exact List.getElem_mem _)
    · right
      intro off m e2; exact e ⟨off, m, e2⟩
  have hrw2 : RW σ2 s ss := hrw.mono fun o ⟨off, n, e⟩ ho => h3 _ o (fun n' => (hne n').resolve_right fun h => h off n e) ho
  have hone2 := hrw2.one
  repeat' (first
    | refine wp_region_seq ?_
    | refine thru_seq_next ?_
    | refine thru_block_next ?_
    | refine wl_nil ?_
    | refine wl_pop rfl (po_move rfl) ?_
    | refine wl_pop rfl (po_assign rfl) ?_
    | refine wl_pop rfl (pc_add rfl rfl (by omega) (by omega)) ?_
    | fail)
  have hmk := mkN_get g a k hk'
  refine ⟨k + 1, by omega, ⟨hk', hrw2, ?_, ?_, ?_⟩, (by simp only [htk]; exact (by repeat' (first | exact sub_nil | refine sub_cons rfl ?_ | refine sub_int rfl (by first | rfl | omega | (push_cast; omega) | simp) ?_ | refine sub_eq rfl (by assumption) ?_)))⟩
  · refine hor.turn (k := k) (by simp; omega) (by omega) ?_ ?_ h3
    · have : ((mkN a g).take (k + 1) ++ g.drop (k + 1)).getD k [] = cntN (a + totalG (g.take k)) (g.getD k []).length := by
        rw [List.getD_eq_getElem?_getD, List.getElem?_append_left (by simp; omega), List.getElem?_take, if_pos (by omega), ← List.getD_eq_getElem?_getD, hmk]
      rw [this]; exact h2
    · intro j hj
      simp only [List.getD_eq_getElem?_getD]
      by_cases e : j < k
      · rw [List.getElem?_append_left (by simp; omega), List.getElem?_append_left (by simp; omega), List.getElem?_take, List.getElem?_take, if_pos (by omega), if_pos (by omega)]
      · rw [List.getElem?_append_right (by simp; omega), List.getElem?_append_right (by simp; omega)]
        simp only [List.length_take, List.getElem?_drop]
        congr 2; omega
  · intro j n hm
    by_cases e : ∃ m, ss.getD k nilS = .sl j 0 m
    · obtain ⟨m, e⟩ := e
      rcases h2.rep with ⟨_, h5⟩ | ⟨id, h5, _, h6⟩
      · rw [e] at h5; cases h5
      · rw [e] at h5; cases h5; exact ⟨_, h6⟩
    · obtain ⟨l, hl'⟩ := hown j n hm
      exact ⟨l, ⟨h3 j _ (fun m hm => e ⟨m, hm⟩) hl'.get⟩⟩
  · intro j o hj ho
    refine h3 j o (fun n e => hj n ?_) (hkeep j o hj ho)
    rw [← e, getD_lt (by omega)]; exact List.getElem_mem _
theorem c_heldIntSS (σ : Store) (s : AV) (a : Nat) {ss : List AV} {g : List (List Nat)} [hs : RW σ s ss] [hg : RRs σ ss (mkN a g)] (ha2 : a + totalG g ≤ 1000000000000000) :
    ACall Try.prog base F_laws_heldIntSS [s, I (a : Int)] σ (fun _ => False) (Ret σ (I ((a + totalG g : Nat) : Int))) := by
  have hb := hs.bound
  have hl := hg.len
  have hml := mkN_len g a
  refine acall2 fun_laws_heldIntSS rfl tmps_laws_heldIntSS rfl fun N B w₀ ρ₀ => ?_
  repeat' (first
    | refine wp_seqA ?_
    | refine wp_region_seq ?_
    | refine thru_seq_next ?_
    | refine wp_blockA ?_
    | refine wl_nil ?_
    | refine wl_pop rfl (po_assign rfl) ?_
    | fail)
  refine wc_loop [(0, _)] (fun k : Nat => [(1, I ((a + totalG (g.take k) : Nat) : Int)), (5, I k)]) (fun k σ' => k ≤ g.length ∧ LeS σ σ') (fun k => g.length - k) 0 ⟨Nat.zero_le _, inferInstance⟩ (by simp only [List.take_zero, totalG_nil]; exact (by repeat' (first | exact sub_nil | refine sub_cons rfl ?_ | refine sub_int rfl (by first | rfl | omega | (push_cast; omega) | simp) ?_ | refine sub_eq rfl (by assumption) ?_))) ?_
  rintro k σ' ⟨hk, hle⟩
  have := hle.grow
  repeat' (first
    | refine wl_pop rfl (pc_ldAV rfl inferInstance inferInstance (by omega) inferInstance) ?_
    | refine wl_pop rfl (pc_indexRow rfl rfl inferInstance inferInstance inferInstance (by omega)) ?_
    | refine wl_pop rfl (pc_lenRow rfl inferInstance inferInstance) ?_
    | refine wp_seqA ?_
    | refine wp_region_seq ?_
    | refine thru_seq_next ?_
    | refine thru_seq ?_
    | refine exit_here ?_
    | refine wp_skipA ?_
    | refine wp_retA ?_
    | refine wp_exitA ?_
    | refine wp_blockA ?_
    | refine wl_nil ?_
    | refine wl_pop rfl (po_move rfl) ?_
    | refine wl_pop rfl (po_assign rfl) ?_
    | refine wl_pop rfl (po_binOp rfl rfl rfl) ?_
    | refine wp_condP rfl (fun _ => ?_) (fun _ => ?_)
    | refine at_ret (res1 rfl rfl) ?_
    | fail)
  rotate_left
  · obtain rfl : k = g.length := by omega
    rw [List.take_length]
    exact ret_ inferInstance rfl
  have hk' : k < g.length := by omega
  have htk := totalG_take hk'
  have htl := totalG_le g (k + 1)
  have hrow : RW σ' (ss.getD k nilS) (cntN (a + totalG (g.take k)) (g.getD k []).length) := by
    rw [← mkN_get g a k hk']; infer_instance
  repeat' (first
    | (refine wc_callR rfl inferInstance rfl (c_heldIntS σ' (ss.getD k nilS) _ (by omega)) rfl ?_; intro _ _)
    | refine wp_seqA ?_
    | refine wp_region_seq ?_
    | refine thru_seq_next ?_
    | refine thru_block_next ?_
    | refine wp_skipA ?_
    | refine wl_nil ?_
    | refine wl_pop rfl (po_move rfl) ?_
    | refine wl_pop rfl (po_assign rfl) ?_
    | refine wl_pop rfl (pc_add rfl rfl (by omega) (by omega)) ?_
    | refine wl_pop rfl (po_binOp rfl rfl rfl) ?_
    | refine wp_condF rfl ?_
    | fail)
  all_goals first | (exfalso; omega) | exact ⟨k + 1, by omega, ⟨hk', inferInstance⟩, (by simp only [htk]; exact (by repeat' (first | exact sub_nil | refine sub_cons rfl ?_ | refine sub_int rfl (by first | rfl | omega | (push_cast; omega) | simp) ?_ | refine sub_eq rfl (by assumption) ?_)))⟩
end
section
variable {E : Env} {ops : Array Oper} {l : List Oper} {Q : Exit → Slots → Store → Prop} {S : Slots} {σ : Store} {d : Option Tmp} {ty : TypeId} {pos : String} {af : Array Edge} {x y : Operand}
/-- A call that marks rows of numbers that lie between two stores; the slice that holds them stays. -/
theorem wc_callMkN {args : Array Operand} {ats : Array TypeId} {f : FuncId} {rs caps : List AV} {s : AV} {ss : List AV} {r : Int} {g g' : List (List Nat)} (σa σb : Store) (hf : S.ev x = some (.fn f caps)) (hc : Callable E.P f) (hargs : evs S args.toList = some rs)
    (how : OW σa σ s ss) (hg : ORs σa σ ss g') (hb : ORs σa σb ss g') (h : ACall E.P E.base f (rs ++ caps) σ (fun j => ∃ n, AV.sl j 0 n ∈ ss) (RetMarkR σa σ ss r g)) (hm : ∀ i, σa.length ≤ i → E.may i) (hd : okd E d = true)
    (k : ∀ σ', Mk σ σa σb σ' → OW σa σ' s ss → ORs σa σ' ss g → WL E ops l Q (S.put d (I r)) σ') :
    WL E ops (⟨d, .call ⟨.value x, args, ats⟩, ty, pos, af, none⟩ :: l) Q S σ :=
  wl_call hf hc hargs h (fun i ⟨n, hi⟩ => by
    obtain ⟨h1, l', h2⟩ := hg.has hi
    exact ⟨hm i h1, _, h2.get, .inl rfl⟩) hd fun r' σ' hK => by
    obtain ⟨e, h1, _, h3⟩ := hK
    subst e
    exact k σ' ⟨fun j o hj => h3 j o (fun n hn => by
      have h4 := (hg.has hn).1
      have h5 := hb.lt hn
      omega)⟩ (how.keep fun j o _ ⟨n, e⟩ ho => h3 j o (fun m hm => by
        subst e
        exact rw_ne_nat how.rw hg m ⟨_, _, rfl⟩ hm) ho) h1
end
end Go.Proofs.Ytemhpkfijoodkaa.Asl
