/- Rows of whole numbers: alike, marked, what was marked held. -/
import Derived.Test.YtemhpkfijoodkaaG5
import Derived.Test.YtemhpkfijoodkaaGA
namespace Go.Proofs.Ytemhpkfijoodkaa.Asl
open Go.RowKit Go.Proofs.YtemhpkfijoodkaaW.PrintLast
set_option linter.unusedVariables false
set_option linter.unusedSimpArgs false
attribute [local irreducible] WP WL andThen inBlock noGoto atEnd ACall DA DL PO Hold
set_option maxHeartbeats 4000000
/-- Numbers that count on. -/
def cntN (a : Nat) : Nat → List Nat
  | 0 => []
  | n + 1 => cntN a n ++ [a + n]
theorem cntN_len (a n : Nat) : (cntN a n).length = n := by induction n <;> simp_all [cntN]
theorem cntN_get (a : Nat) {n k : Nat} (h : k < n) : (cntN a n).getD k 0 = a + k := by
  induction n with
  | zero => omega
  | succ n ih =>
    simp only [cntN]
    rw [List.getD_eq_getElem?_getD]
    rcases Nat.lt_or_ge k n with h1 | h1
    · rw [List.getElem?_append_left (by rw [cntN_len]; exact h1), ← List.getD_eq_getElem?_getD]; exact ih h1
    · obtain rfl : k = n := by omega
      rw [List.getElem?_append_right (by rw [cntN_len]; omega), cntN_len]; simp
section
variable {base : Nat}
theorem c_eqIntS (σ : Store) (s s' : AV) {l l' : List Nat} [hs : RW σ s l] [hs' : RW σ s' l'] : ACall Try.prog base F_laws_eqIntS [s, s'] σ (fun _ => False) (Ret σ (Bo (eqB l l'))) := by
  have hb := hs.bound
  have hb' := hs'.bound
  refine acall2 fun_laws_eqIntS rfl tmps_laws_eqIntS rfl fun N B w₀ ρ₀ => ?_
  repeat' (first
    | refine wl_pop rfl (pc_lenRow rfl inferInstance inferInstance) ?_
    | refine wp_seqA ?_
    | refine wp_region_seq ?_
    | refine thru_seq_next ?_
    | refine thru_seq_ret ?_
    | refine wp_skipA ?_
    | refine wp_retA ?_
    | refine wp_blockA ?_
    | refine wl_nil ?_
    | refine wl_pop rfl (po_move rfl) ?_
    | refine wl_pop rfl (po_assign rfl) ?_
    | refine wl_pop rfl (po_binOp rfl rfl rfl) ?_
    | refine wp_condNP rfl (fun _ => ?_) (fun _ => ?_)
    | refine at_ret (res1 rfl rfl) ?_
    | fail)
  · refine ret_ inferInstance (congrArg Bo (eqB_ne ?_).symm)
    rintro rfl; simp_all
  rename_i hl
  have hl' : l.length = l'.length := by omega
  refine wc_loop [(0, _), (1, _)] (fun k : Nat => [(5, I k)]) (fun k σ' => k ≤ l.length ∧ l.take k = l'.take k ∧ LeS σ σ') (fun k => l.length - k) 0 ⟨Nat.zero_le _, rfl, inferInstance⟩ (by repeat' (first | exact sub_nil | refine sub_cons rfl ?_ | refine sub_int rfl (by first | rfl | omega | (push_cast; omega) | simp) ?_ | refine sub_eq rfl (by assumption) ?_)) ?_
  rintro k σ' ⟨hk, htk, hg⟩
  have := hg.grow
  repeat' (first
    | refine wl_pop rfl (pc_lenRow rfl inferInstance inferInstance) ?_
    | refine wp_seqA ?_
    | refine wp_region_seq ?_
    | refine thru_seq_next ?_
    | refine thru_seq ?_
    | refine exit_here ?_
    | refine wp_skipA ?_
    | refine wp_retA ?_
    | refine wp_exitA ?_
    | refine wp_blockA ?_
    | refine wl_nil ?_
    | refine wl_pop rfl (po_move rfl) ?_
    | refine wl_pop rfl (po_assign rfl) ?_
    | refine wl_pop rfl (po_binOp rfl rfl rfl) ?_
    | refine wp_condP rfl (fun _ => ?_) (fun _ => ?_)
    | refine at_ret (res1 rfl rfl) ?_
    | fail)
  rotate_left
  · refine ret_ inferInstance (congrArg Bo ?_)
    have : k = l.length := by omega
    subst this
    rw [List.take_length, List.take_of_length_le (by omega)] at htk
    rw [htk, eqB_self]
  have hk' : k < l.length := by omega
  have hk2 : k < l'.length := by omega
  refine wc_drawn [] mixed_ rfl ?_
  all_goals refine da_takeC 0 rfl rfl (by kernel_rfl) (by first | exact po_move rfl | fail) ?_
  all_goals refine da_takeC 1 rfl rfl (by kernel_rfl) (by first | exact po_move rfl | fail) ?_
  all_goals refine da_takeC 2 rfl rfl (by kernel_rfl) (by first | exact pc_indexRow rfl rfl inferInstance inferInstance inferInstance (by omega) | fail) ?_
  all_goals refine da_takeC 3 rfl rfl (by kernel_rfl) (by first | exact pc_ldNat rfl inferInstance inferInstance (by omega) inferInstance | fail) ?_
  all_goals refine da_takeC 4 rfl rfl (by kernel_rfl) (by first | exact po_move rfl | fail) ?_
  all_goals refine da_takeC 5 rfl rfl (by kernel_rfl) (by first | exact po_move rfl | fail) ?_
  all_goals refine da_takeC 6 rfl rfl (by kernel_rfl) (by first | exact pc_indexRow rfl rfl inferInstance inferInstance inferInstance (by omega) | fail) ?_
  all_goals refine da_takeC 7 rfl rfl (by kernel_rfl) (by first | exact pc_ldNat rfl inferInstance inferInstance (by omega) inferInstance | fail) ?_
  all_goals refine da_takeC 8 rfl rfl (by kernel_rfl) (by first | exact po_binOp rfl rfl rfl | fail) ?_
  all_goals refine da_done (by kernel_rfl) ?_
  repeat' (first
    | refine wp_seqA ?_
    | refine wp_region_seq ?_
    | refine thru_seq_next ?_
    | refine thru_seq_ret ?_
    | refine thru_block_ret ?_
    | refine thru_block_next ?_
    | refine wp_skipA ?_
    | refine wp_retA ?_
    | refine wl_nil ?_
    | refine wl_pop rfl (po_move rfl) ?_
    | refine wl_pop rfl (po_assign rfl) ?_
    | refine wl_pop rfl (pc_add rfl rfl (by omega) (by omega)) ?_
    | refine wp_condNP rfl (fun _ => ?_) (fun _ => ?_)
    | refine at_ret (res1 rfl rfl) ?_
    | fail)
  · rename_i he
    refine ret_ inferInstance (congrArg Bo (eqB_ne ?_).symm)
    rintro rfl
    exact he rfl
  · rename_i he
    have he' : l.getD k 0 = l'.getD k 0 := by omega
    exact ⟨k + 1, by omega, ⟨hk', take_eq_succ htk hk' hk2 he', inferInstance⟩, (by repeat' (first | exact sub_nil | refine sub_cons rfl ?_ | refine sub_int rfl (by first | rfl | omega | (push_cast; omega) | simp) ?_ | refine sub_eq rfl (by assumption) ?_))⟩
theorem c_markIntS {σ₀ : Store} (σ : Store) (s : AV) (a : Nat) {l : List Nat} (hs : OW σ₀ σ s l) (ha2 : a + l.length ≤ 1000000000000000) :
    ACall Try.prog base F_laws_markIntS [s, I (a : Int)] σ (fun j => ∃ n, s = .sl j 0 n) (RetMarkW σ₀ σ s ((a + l.length : Nat) : Int) (cntN a l.length)) := by
  have hb := hs.bound
  rcases hs.rep with ⟨rfl, rfl⟩ | ⟨i, rfl, hi0, hi⟩
  · refine acall2 fun_laws_markIntS rfl tmps_laws_markIntS rfl fun N B w₀ ρ₀ => ?_
    repeat' (first
      | refine wp_seqA ?_
      | refine wp_region_seq ?_
      | refine thru_seq_next ?_
      | refine wp_blockA ?_
      | refine wl_nil ?_
      | refine wl_pop rfl (po_assign rfl) ?_
      | fail)
    refine wc_loop [(0, _)] (fun _ : Unit => [(1, I (a : Int)), (5, I 0)]) (fun _ σ' => σ' = σ) (fun _ => 0) () rfl (by repeat' (first | exact sub_nil | refine sub_cons rfl ?_ | refine sub_int rfl (by first | rfl | omega | (push_cast; omega) | simp) ?_ | refine sub_eq rfl (by assumption) ?_)) ?_
    rintro _ σ' rfl
    repeat' (first
      | refine wl_pop rfl (pc_lenRow rfl inferInstance inferInstance) ?_
      | refine wp_seqA ?_
      | refine wp_region_seq ?_
      | refine thru_seq_next ?_
      | refine thru_seq ?_
      | refine exit_here ?_
      | refine wp_retA ?_
      | refine wp_exitA ?_
      | refine wl_nil ?_
      | refine wl_pop rfl (po_move rfl) ?_
      | refine wl_pop rfl (po_assign rfl) ?_
      | refine wl_pop rfl (po_binOp rfl rfl rfl) ?_
      | refine wp_condF rfl ?_
      | refine at_ret (res1 rfl rfl) ?_
      | fail)
    exact ⟨by simp, OW.nilS _ _, fun _ _ _ h => h⟩
  refine acall2 fun_laws_markIntS rfl tmps_laws_markIntS rfl fun N B w₀ ρ₀ => ?_
  repeat' (first
    | refine wp_seqA ?_
    | refine wp_region_seq ?_
    | refine thru_seq_next ?_
    | refine wp_blockA ?_
    | refine wl_nil ?_
    | refine wl_pop rfl (po_assign rfl) ?_
    | fail)
  refine wc_loop [(0, _)] (fun k : Nat => [(1, I ((a + k : Nat) : Int)), (5, I k)]) (fun k σ' => k ≤ l.length ∧ Has σ' i (Row (cntN a k ++ l.drop k)) ∧ LeX i σ σ') (fun k => l.length - k) 0 ⟨Nat.zero_le _, by simpa [cntN] using hi, LeX.refl i σ⟩ (by repeat' (first | exact sub_nil | refine sub_cons rfl ?_ | refine sub_int rfl (by first | rfl | omega | (push_cast; omega) | simp) ?_ | refine sub_eq rfl (by assumption) ?_)) ?_
  rintro k σ' ⟨hk, hh, hl⟩
  have hcl := cntN_len a k
  repeat' (first
    | (refine wc_stNat rfl rfl inferInstance inferInstance (by simp; omega) (.inl ⟨_, rfl⟩) ?_; intro _ _)
    | refine wp_seqA ?_
    | refine wp_region_seq ?_
    | refine thru_seq_next ?_
    | refine thru_seq ?_
    | refine thru_block_next ?_
    | refine exit_here ?_
    | refine wp_skipA ?_
    | refine wp_retA ?_
    | refine wp_exitA ?_
    | refine wp_blockA ?_
    | refine wl_nil ?_
    | refine wl_pop rfl (po_move rfl) ?_
    | refine wl_pop rfl (po_assign rfl) ?_
    | refine wl_pop rfl (pc_add rfl rfl (by omega) (by omega)) ?_
    | refine wl_pop rfl (po_binOp rfl rfl rfl) ?_
    | refine wl_pop rfl (pc_indexAddr rfl rfl inferInstance inferInstance (by omega)) ?_
    | refine wl_pop rfl (po_len (ri := 0) rfl Un.eq) ?_
    | refine wp_condP rfl (fun _ => ?_) (fun _ => ?_)
    | refine at_ret (res1 rfl rfl) ?_
    | fail)
  · rename_i hk1 σ2 u2
    have hk' : k < l.length := by omega
    have h3 : Has σ2 i _ := instHasUpd (g := u2)
    have e : (cntN a k ++ l.drop k).set k (a + k) = cntN a (k + 1) ++ l.drop (k + 1) := by
      rw [List.set_append_right _ _ (by omega), hcl, Nat.sub_self, List.drop_eq_getElem_cons hk', List.set_cons_zero]
      simp [cntN]
    rw [e] at h3
    exact ⟨k + 1, by omega, ⟨hk', h3, hl.upd u2⟩, (by repeat' (first | exact sub_nil | refine sub_cons rfl ?_ | refine sub_int rfl (by first | rfl | omega | (push_cast; omega) | simp) ?_ | refine sub_eq rfl (by assumption) ?_))⟩
  · obtain rfl : k = l.length := by omega
    refine ⟨rfl, ow_of_has (by simpa using hh) hi0 (by simp [hcl]) (by simpa [hcl] using hb), fun j o hj ho => hl.keep j o (fun e => hj l.length (by rw [e])) ho⟩
theorem c_heldIntS (σ : Store) (s : AV) (a : Nat) {n : Nat} [hs : RW σ s (cntN a n)] (ha2 : a + n ≤ 1000000000000000) :
    ACall Try.prog base F_laws_heldIntS [s, I (a : Int)] σ (fun _ => False) (Ret σ (I ((a + n : Nat) : Int))) := by
  have hb := hs.bound
  have hcl := cntN_len a n
  refine acall2 fun_laws_heldIntS rfl tmps_laws_heldIntS rfl fun N B w₀ ρ₀ => ?_
  repeat' (first
    | refine wp_seqA ?_
    | refine wp_region_seq ?_
    | refine thru_seq_next ?_
    | refine wp_blockA ?_
    | refine wl_nil ?_
    | refine wl_pop rfl (po_assign rfl) ?_
    | fail)
  refine wc_loop [(0, _)] (fun k : Nat => [(1, I ((a + k : Nat) : Int)), (5, I k)]) (fun k σ' => k ≤ n ∧ LeS σ σ') (fun k => n - k) 0 ⟨Nat.zero_le _, inferInstance⟩ (by repeat' (first | exact sub_nil | refine sub_cons rfl ?_ | refine sub_int rfl (by first | rfl | omega | (push_cast; omega) | simp) ?_ | refine sub_eq rfl (by assumption) ?_)) ?_
  rintro k σ' ⟨hk, hg⟩
  have := hg.grow
  have hget := fun h : k < n => cntN_get a h
  repeat' (first
    | refine wl_pop rfl (pc_ldNat rfl inferInstance inferInstance (by omega) inferInstance) ?_
    | refine wl_pop rfl (pc_indexRow rfl rfl inferInstance inferInstance inferInstance (by omega)) ?_
    | refine wl_pop rfl (pc_lenRow rfl inferInstance inferInstance) ?_
    | refine wp_seqA ?_
    | refine wp_region_seq ?_
    | refine thru_seq_next ?_
    | refine thru_seq_ret ?_
    | refine thru_seq ?_
    | refine thru_block_ret ?_
    | refine thru_block_next ?_
    | refine exit_here ?_
    | refine wp_skipA ?_
    | refine wp_retA ?_
    | refine wp_exitA ?_
    | refine wp_blockA ?_
    | refine wl_nil ?_
    | refine wl_pop rfl (po_move rfl) ?_
    | refine wl_pop rfl (po_assign rfl) ?_
    | refine wl_pop rfl (pc_add rfl rfl (by omega) (by omega)) ?_
    | refine wl_pop rfl (po_binOp rfl rfl rfl) ?_
    | refine wp_condP rfl (fun _ => ?_) (fun _ => ?_)
    | refine wp_condNP rfl (fun _ => ?_) (fun _ => ?_)
    | refine at_ret (res1 rfl rfl) ?_
    | fail)
  · rename_i hk1 hne
    exact absurd (by rw [hget (by omega)]) hne
  · exact ⟨k + 1, by omega, ⟨by omega, inferInstance⟩, (by repeat' (first | exact sub_nil | refine sub_cons rfl ?_ | refine sub_int rfl (by first | rfl | omega | (push_cast; omega) | simp) ?_ | refine sub_eq rfl (by assumption) ?_))⟩
  · obtain rfl : k = n := by omega
    exact ret_ inferInstance rfl
end
section
variable {α : Type} [Enc α] {E : Env} {ops : Array Oper} {l : List Oper} {Q : Exit → Slots → Store → Prop} {S : Slots} {σ : Store} {d : Option Tmp} {ty : TypeId} {pos : String} {af : Array Edge} {x y : Operand}
theorem OW.id_lt {σ₀ σ : Store} {u : AV} {g : List α} (h : OW σ₀ σ u g) {j n : Nat} (e : u = .sl j 0 n) : σ₀.length ≤ j ∧ j < σ.length ∧ Has σ j (Row g) := by
  rcases h.rep with ⟨_, h1⟩ | ⟨id, h1, h2, h3⟩
  · rw [e] at h1; cases h1
  · rw [e] at h1; cases h1; exact ⟨h2, h3.lt, h3⟩
/-- A call that marks a row that lies between two stores. -/
theorem wc_callMkW {args : Array Operand} {ats : Array TypeId} {f : FuncId} {rs caps : List AV} {s : AV} {r : Int} {g g' : List α} (σa σb : Store) (hf : S.ev x = some (.fn f caps)) (hc : Callable E.P f) (hargs : evs S args.toList = some rs)
    (hg : OW σa σ s g') (hb : OW σa σb s g') (h : ACall E.P E.base f (rs ++ caps) σ (fun j => ∃ n, s = .sl j 0 n) (RetMarkW σa σ s r g)) (hm : ∀ i, σa.length ≤ i → E.may i) (hd : okd E d = true)
    (k : ∀ σ', Mk σ σa σb σ' → OW σa σ' s g → WL E ops l Q (S.put d (I r)) σ') :
    WL E ops (⟨d, .call ⟨.value x, args, ats⟩, ty, pos, af, none⟩ :: l) Q S σ :=
  wl_call hf hc hargs h (fun i ⟨n, hi⟩ => by
    obtain ⟨h1, _, h2⟩ := hg.id_lt hi
    exact ⟨hm i h1, _, h2.get, .inl rfl⟩) hd fun r' σ' hK => by
    obtain ⟨e, h1, h3⟩ := hK
    subst e
    exact k σ' ⟨fun j o hj => h3 j o (fun n hn => by
      have h4 := (hg.id_lt hn).1
      have h5 := (hb.id_lt hn).2.1
      omega)⟩ h1
end
end Go.Proofs.Ytemhpkfijoodkaa.Asl
