/- Rows and graphs marked, and what was marked held. -/
import Derived.Test.YtpkgcdpebomalaaDoorG2
import Derived.Test.YtpkgcdpebomalaaDoorBB
namespace Go.Proofs.YtpkgcdpebomalaaDoor.Asl
open Go.RowKit Go.Proofs.YtpkgcdpebomalaaDoorW.PrintLast
set_option linter.unusedVariables false
set_option linter.unusedSimpArgs false
attribute [local irreducible] WP WL andThen inBlock noGoto atEnd ACall DA DL PO Hold
set_option maxHeartbeats 4000000

section
variable {α : Type} [Enc α]
instance instRWMk {σ σa σb σ' : Store} {s : AV} {l : List α} [m : Mk σ σa σb σ'] [a : LeS σa σ] [h : RW σa s l] : RW σ' s l := by
  have h2 := h.les a
  rcases h.rep with ⟨rfl, b, c, rfl⟩ | ⟨id, off, o, rfl, h1, _⟩
  · exact .nil _ _ _
  · exact h2.mono fun o _ ho => m.keep _ o (.inl (Has.lt ⟨h1⟩)) ho
instance instRRsMk {σ σa σb σ' : Store} {ss : List AV} {g : List (List α)} [m : Mk σ σa σb σ'] [a : LeS σa σ] [h : RRs σa ss g] : RRs σ' ss g :=
  ⟨h.len, fun k => instRWMk (h := h.row k)⟩
instance instOWMk {σ σa σb σc σ' : Store} {s : AV} {l : List α} [m : Mk σ σa σb σ'] [a : LeS σb σc] [h : OW σc σ s l] : OW σc σ' s l :=
  h.keep fun j o hj _ ho => m.keep j o (.inr (Nat.le_trans a.len hj)) ho
instance instORsMk {σ σa σb σc σ' : Store} {ss : List AV} {g : List (List α)} [m : Mk σ σa σb σ'] [a : LeS σb σc] [h : ORs σc σ ss g] : ORs σc σ' ss g :=
  h.keep fun j o hj _ ho => m.keep j o (.inr (Nat.le_trans a.len hj)) ho
/-- What marking a row leaves. -/
def RetMarkW (σ₀ σ : Store) (s : AV) (r : Int) (l : List α) : AV → Store → Prop := fun r' σ' => r' = I r ∧ OW σ₀ σ' s l ∧ ∀ (j : Nat) (o : Ob), (∀ n, s ≠ .sl j 0 n) → σ[j]? = some o → σ'[j]? = some o
/-- What marking rows leaves. -/
def RetMarkR (σ₀ σ : Store) (ss : List AV) (r : Int) (g : List (List α)) : AV → Store → Prop := fun r' σ' => r' = I r ∧ ORs σ₀ σ' ss g ∧ (∀ (j n : Nat), AV.sl j 0 n ∈ ss → ∃ l : List α, Has σ' j (Row l)) ∧ ∀ (j : Nat) (o : Ob), (∀ n, AV.sl j 0 n ∉ ss) → σ[j]? = some o → σ'[j]? = some o
theorem ORs.has {σ₀ σ : Store} {ss : List AV} {g : List (List α)} (h : ORs σ₀ σ ss g) {j n : Nat} (hj : AV.sl j 0 n ∈ ss) : σ₀.length ≤ j ∧ ∃ l : List α, Has σ j (Row l) := by
  obtain ⟨k, hk, e⟩ := List.getElem_of_mem hj
  have e' : ss.getD k nilS = .sl j 0 n := by simp [List.getD_eq_getElem?_getD, hk, e]
  rcases (h.row k).rep with ⟨_, h1⟩ | ⟨id, h1, h2, h3⟩
  · rw [e'] at h1; cases h1
  · rw [e'] at h1; cases h1; exact ⟨h2, _, h3⟩
/-- The slices stay, one row is turned. -/
theorem ORs.turn {σ₀ σ σ' : Store} {ss : List AV} {g g' : List (List α)} {k : Nat} (h : ORs σ₀ σ ss g) (hl : g'.length = g.length) (hk : k < ss.length) (hw : OW σ₀ σ' (ss.getD k nilS) (g'.getD k [])) (ho : ∀ j, j ≠ k → g'.getD j [] = g.getD j [])
    (hkeep : ∀ (j : Nat) (o : Ob), (∀ n, ss.getD k nilS ≠ .sl j 0 n) → σ[j]? = some o → σ'[j]? = some o) : ORs σ₀ σ' ss g' := by
  refine ⟨by rw [h.len, hl], fun q => ?_, h.apart⟩
  by_cases e : q = k
  · subst e; exact hw
  · rw [ho q e]
    refine (h.row q).keep fun j o hj ⟨n, hn⟩ hoj => hkeep j o (fun m hm => e ?_) hoj
    by_cases hq : q < ss.length
    · refine h.apart q k j n m ?_ ?_
      · rw [← hn]; simp [List.getD_eq_getElem?_getD, hq]
      · rw [← hm]; simp [List.getD_eq_getElem?_getD, hk]
    · rw [List.getD_eq_getElem?_getD, List.getElem?_eq_none (by omega)] at hn; cases hn
end

/-- Moves that count on. -/
def cntM (a : Int) : Nat → List Mv
  | 0 => []
  | n + 1 => cntM a n ++ [(a + 2 * n, a + 2 * n + 1)]
theorem cntM_len (a : Int) (n : Nat) : (cntM a n).length = n := by induction n <;> simp_all [cntM]
theorem cntM_get (a : Int) {n k : Nat} (h : k < n) : (cntM a n).getD k (0, 0) = (a + 2 * k, a + 2 * k + 1) := by
  induction n with
  | zero => omega
  | succ n ih =>
    simp only [cntM]
    rw [List.getD_eq_getElem?_getD]
    rcases Nat.lt_or_ge k n with h1 | h1
    · rw [List.getElem?_append_left (by rw [cntM_len]; exact h1), ← List.getD_eq_getElem?_getD]; exact ih h1
    · obtain rfl : k = n := by omega
      rw [List.getElem?_append_right (by rw [cntM_len]; omega), cntM_len]; simp
def mkG (a : Int) : Gr → Gr
  | [] => []
  | l :: g => cntM a l.length :: mkG (a + 2 * (l.length : Int)) g
def totalG {α : Type} (g : List (List α)) : Nat := (g.map List.length).sum
theorem mkG_len : ∀ (g : Gr) (a : Int), (mkG a g).length = g.length
  | [], a => rfl
  | l :: g, a => by simp [mkG, mkG_len g]
theorem totalG_nil {α : Type} : totalG ([] : List (List α)) = 0 := rfl
theorem totalG_take {α : Type} {g : List (List α)} {k : Nat} (h : k < g.length) : totalG (g.take (k + 1)) = totalG (g.take k) + (g.getD k []).length := by
  unfold totalG
  rw [List.take_succ_eq_append_getElem h, List.map_append, List.sum_append, getD_lt h]
  simp only [List.map_cons, List.map_nil, List.sum_cons, List.sum_nil, Nat.add_zero]
theorem totalG_le {α : Type} (g : List (List α)) (k : Nat) : totalG (g.take k) ≤ totalG g := by
  unfold totalG
  have := congrArg (fun l => (l.map List.length).sum) (List.take_append_drop k g)
  simp only [List.map_append, List.sum_append] at this
  omega
theorem totalG_bound {α : Type} {g : List (List α)} {b : Nat} (h : ∀ l ∈ g, l.length ≤ b) : totalG g ≤ g.length * b := by
  induction g with
  | nil => simp [totalG]
  | cons l g ih =>
    have h1 := h l (by simp)
    have h2 := ih fun x hx => h x (by simp [hx])
    unfold totalG at *
    simp only [List.map_cons, List.sum_cons, List.length_cons, Nat.add_mul]; omega
theorem mkG_get : ∀ (g : Gr) (a : Int) (k : Nat), k < g.length → (mkG a g).getD k [] = cntM (a + 2 * (totalG (g.take k) : Int)) (g.getD k []).length
  | [], a, k, h => by simp at h
  | l :: g, a, 0, h => by simp [mkG, totalG]
  | l :: g, a, k + 1, h => by
    have := mkG_get g (a + 2 * (l.length : Int)) k (by simpa using h)
    simp only [mkG, List.getD_cons_succ, List.take_succ_cons]
    rw [this]
    congr 1
    simp only [totalG, List.map_cons, List.sum_cons]
    push_cast; omega

section
variable {base : Nat}
theorem c_markMoveS {σ₀ : Store} (σ : Store) (s : AV) (a : Int) {l : List Mv} (hs : OW σ₀ σ s l) (ha : 0 ≤ a) (ha2 : a + 2 * (l.length : Int) ≤ 1000000000000000) :
    ACall Tryd.prog base F_laws_markMoveS [s, I a] σ (fun j => ∃ n, s = .sl j 0 n) (RetMarkW σ₀ σ s (a + 2 * (l.length : Int)) (cntM a l.length)) := by
  have hb := hs.bound
  rcases hs.rep with ⟨rfl, rfl⟩ | ⟨i, rfl, hi0, hi⟩
  · refine acall2 fun_laws_markMoveS rfl tmps_laws_markMoveS rfl fun N B w₀ ρ₀ => ?_
    repeat' (first
      | refine wp_seqA ?_
      | refine wp_region_seq ?_
      | refine thru_seq_next ?_
      | refine wp_blockA ?_
      | refine wl_nil ?_
      | refine wl_pop rfl (po_assign rfl) ?_
      | fail)
    refine wc_loop [(0, _)] (fun _ : Unit => [(1, I a), (5, I 0)]) (fun _ σ' => σ' = σ) (fun _ => 0) () rfl (by repeat' (first | exact sub_nil | refine sub_cons rfl ?_ | refine sub_int rfl (by first | rfl | omega | (push_cast; omega) | simp) ?_ | refine sub_eq rfl (by assumption) ?_)) ?_
    rintro _ σ' rfl
    repeat' (first
      | refine wl_pop rfl (pc_lenRow rfl inferInstance inferInstance) ?_
      | refine wp_seqA ?_
      | refine wp_region_seq ?_
      | refine thru_seq_next ?_
      | refine thru_seq ?_
      | refine exit_here ?_
      | refine wp_retA ?_
      | refine wp_exitA ?_
      | refine wl_nil ?_
      | refine wl_pop rfl (po_move rfl) ?_
      | refine wl_pop rfl (po_assign rfl) ?_
      | refine wl_pop rfl (po_binOp rfl rfl rfl) ?_
      | refine wp_condF rfl ?_
      | refine at_ret (res1 rfl rfl) ?_
      | fail)
    exact ⟨by simp, OW.nilS _ _, fun _ _ _ h => h⟩
  refine acall2 fun_laws_markMoveS rfl tmps_laws_markMoveS rfl fun N B w₀ ρ₀ => ?_
  repeat' (first
    | refine wp_seqA ?_
    | refine wp_region_seq ?_
    | refine thru_seq_next ?_
    | refine wp_blockA ?_
    | refine wl_nil ?_
    | refine wl_pop rfl (po_assign rfl) ?_
    | fail)
  refine wc_loop [(0, _)] (fun k : Nat => [(1, I (a + 2 * k)), (5, I k)]) (fun k σ' => k ≤ l.length ∧ Has σ' i (Row (cntM a k ++ l.drop k)) ∧ LeX i σ σ') (fun k => l.length - k) 0 ⟨Nat.zero_le _, by simpa [cntM] using hi, LeX.refl i σ⟩ (by repeat' (first | exact sub_nil | refine sub_cons rfl ?_ | refine sub_int rfl (by first | rfl | omega | (push_cast; omega) | simp) ?_ | refine sub_eq rfl (by assumption) ?_)) ?_
  rintro k σ' ⟨hk, hh, hl⟩
  have hcl := cntM_len a k
  repeat' (first
    | (refine wc_stMv1 rfl rfl inferInstance inferInstance (by simp; omega) (.inl ⟨_, rfl⟩) ?_; intro _ _)
    | (refine wc_stMv2 rfl rfl inferInstance inferInstance (by simp; omega) (.inl ⟨_, rfl⟩) ?_; intro _ _)
    | refine wp_seqA ?_
    | refine wp_region_seq ?_
    | refine thru_seq_next ?_
    | refine thru_seq ?_
    | refine thru_block_next ?_
    | refine exit_here ?_
    | refine wp_skipA ?_
    | refine wp_retA ?_
    | refine wp_exitA ?_
    | refine wp_blockA ?_
    | refine wl_nil ?_
    | refine wl_pop rfl (po_move rfl) ?_
    | refine wl_pop rfl (po_assign rfl) ?_
    | refine wl_pop rfl (pc_add rfl rfl (by omega) (by omega)) ?_
    | refine wl_pop rfl (po_binOp rfl rfl rfl) ?_
    | refine wl_pop rfl (pc_indexAddr rfl rfl inferInstance inferInstance (by omega)) ?_
    | refine wl_pop rfl (po_fieldAddr rfl inferInstance) ?_
    | refine wl_pop rfl (po_len (ri := 0) rfl Un.eq) ?_
    | refine wp_condP rfl (fun _ => ?_) (fun _ => ?_)
    | refine at_ret (res1 rfl rfl) ?_
    | fail)
  · rename_i hk1 σ2 u2 σ3 u3
    have hk' : k < l.length := by omega
    have h3 : Has σ3 i _ := instHasUpd (g := u3)
    have e : ((cntM a k ++ l.drop k).set k (a + 2 * k, ((cntM a k ++ l.drop k).getD k (0, 0)).2)).set k ((((cntM a k ++ l.drop k).set k (a + 2 * k, ((cntM a k ++ l.drop k).getD k (0, 0)).2)).getD k (0, 0)).1, a + 2 * k + 1) = cntM a (k + 1) ++ l.drop (k + 1) := by
      rw [List.set_set]
      have e1 : (((cntM a k ++ l.drop k).set k (a + 2 * k, ((cntM a k ++ l.drop k).getD k (0, 0)).2)).getD k (0, 0)).1 = a + 2 * k := by
        rw [List.getD_eq_getElem?_getD, List.getElem?_set_self (by simp; omega)]; rfl
      rw [e1, List.set_append_right _ _ (by omega), hcl, Nat.sub_self, List.drop_eq_getElem_cons hk', List.set_cons_zero]
      simp [cntM]
    rw [e] at h3
    exact ⟨k + 1, by omega, ⟨hk', h3, (hl.upd u2).upd u3⟩, (by repeat' (first | exact sub_nil | refine sub_cons rfl ?_ | refine sub_int rfl (by first | rfl | omega | (push_cast; omega) | simp) ?_ | refine sub_eq rfl (by assumption) ?_))⟩
  · obtain rfl : k = l.length := by omega
    refine ⟨rfl, ow_of_has (by simpa using hh) hi0 (by simp [hcl]) (by simpa [hcl] using hb), fun j o hj ho => hl.keep j o (fun e => hj l.length (by rw [e])) ho⟩
theorem c_heldMoveS (σ : Store) (s : AV) (a : Int) {n : Nat} [hs : RW σ s (cntM a n)] (ha : 0 ≤ a) (ha2 : a + 2 * (n : Int) ≤ 1000000000000000) :
    ACall Tryd.prog base F_laws_heldMoveS [s, I a] σ (fun _ => False) (Ret σ (I (a + 2 * (n : Int)))) := by
  have hb := hs.bound
  have hcl := cntM_len a n
  refine acall2 fun_laws_heldMoveS rfl tmps_laws_heldMoveS rfl fun N B w₀ ρ₀ => ?_
  repeat' (first
    | refine wp_seqA ?_
    | refine wp_region_seq ?_
    | refine thru_seq_next ?_
    | refine wp_blockA ?_
    | refine wl_nil ?_
    | refine wl_pop rfl (po_assign rfl) ?_
    | fail)
  refine wc_loop [(0, _)] (fun k : Nat => [(1, I (a + 2 * k)), (5, I k)]) (fun k σ' => k ≤ n ∧ LeS σ σ') (fun k => n - k) 0 ⟨Nat.zero_le _, inferInstance⟩ (by repeat' (first | exact sub_nil | refine sub_cons rfl ?_ | refine sub_int rfl (by first | rfl | omega | (push_cast; omega) | simp) ?_ | refine sub_eq rfl (by assumption) ?_)) ?_
  rintro k σ' ⟨hk, hg⟩
  have := hg.grow
  have hget := fun h : k < n => cntM_get a h
  repeat' (first
    | refine wl_pop rfl (pc_ldMv1 rfl inferInstance inferInstance (by omega) inferInstance) ?_
    | refine wl_pop rfl (pc_ldMv2 rfl inferInstance inferInstance (by omega) inferInstance) ?_
    | refine wl_pop rfl (pc_indexRow rfl rfl inferInstance inferInstance inferInstance (by omega)) ?_
    | refine wl_pop rfl (pc_lenRow rfl inferInstance inferInstance) ?_
    | refine wp_seqA ?_
    | refine wp_region_seq ?_
    | refine thru_seq_next ?_
    | refine thru_seq_ret ?_
    | refine thru_seq ?_
    | refine thru_block_ret ?_
    | refine thru_block_next ?_
    | refine exit_here ?_
    | refine wp_skipA ?_
    | refine wp_retA ?_
    | refine wp_exitA ?_
    | refine wp_blockA ?_
    | refine wl_nil ?_
    | refine wl_pop rfl (po_move rfl) ?_
    | refine wl_pop rfl (po_assign rfl) ?_
    | refine wl_pop rfl (pc_add rfl rfl (by omega) (by omega)) ?_
    | refine wl_pop rfl (po_binOp rfl rfl rfl) ?_
    | refine wl_pop rfl (po_fieldAddr rfl inferInstance) ?_
    | refine wp_condP rfl (fun _ => ?_) (fun _ => ?_)
    | refine wp_condNP rfl (fun _ => ?_) (fun _ => ?_)
    | refine at_ret (res1 rfl rfl) ?_
    | fail)
  · rename_i hk1 hne
    exact absurd (by rw [hget (by omega)]) hne
  · rename_i hk1 _ hne
    exact absurd (by rw [hget (by omega)]) hne
  · exact ⟨k + 1, by omega, ⟨by omega, inferInstance⟩, (by repeat' (first | exact sub_nil | refine sub_cons rfl ?_ | refine sub_int rfl (by first | rfl | omega | (push_cast; omega) | simp) ?_ | refine sub_eq rfl (by assumption) ?_))⟩
  · obtain rfl : k = n := by omega
    exact ret_ inferInstance rfl
theorem c_markMoveSS {σ₀ : Store} (σ : Store) (s : AV) (a : Int) {ss : List AV} {g : Gr} [hs : RW σ s ss] (hg : ORs σ₀ σ ss g) (ha : 0 ≤ a) (ha2 : a + 2 * (totalG g : Int) ≤ 1000000000000000) :
    ACall Tryd.prog base F_laws_markMoveSS [s, I a] σ (fun j => ∃ n, AV.sl j 0 n ∈ ss) (RetMarkR σ₀ σ ss (a + 2 * (totalG g : Int)) (mkG a g)) := by
  have hb := hs.bound
  have hl := hg.len
  -- the outer object is none of the inner ones
  have hsep : ∀ n, (∃ off m, s = .sl s.id off m) → AV.sl s.id 0 n ∉ ss := by
    rintro n ⟨off, m, e⟩ hm
    obtain ⟨_, l, hh⟩ := hg.has hm
    have hpos : 0 < ss.length := List.length_pos_of_mem hm
    obtain ⟨o, h1, h2, h3, h4, h5⟩ := hs.inner hpos
    have := h2.symm.trans hh.get
    cases this
    exact absurd h4 (by show ¬ (2 = 1); decide)
  refine acall2 fun_laws_markMoveSS rfl tmps_laws_markMoveSS rfl fun N B w₀ ρ₀ => ?_
  repeat' (first
    | refine wp_seqA ?_
    | refine wp_region_seq ?_
    | refine thru_seq_next ?_
    | refine wp_blockA ?_
    | refine wl_nil ?_
    | refine wl_pop rfl (po_assign rfl) ?_
    | fail)
  refine wc_loop [(0, _)] (fun k : Nat => [(1, I (a + 2 * (totalG (g.take k) : Int))), (5, I k)]) (fun k σ' => k ≤ g.length ∧ RW σ' s ss ∧ ORs σ₀ σ' ss ((mkG a g).take k ++ g.drop k) ∧ (∀ (j n : Nat), AV.sl j 0 n ∈ ss → ∃ l : List Mv, Has σ' j (Row l)) ∧ ∀ (j : Nat) (o : Ob), (∀ n, AV.sl j 0 n ∉ ss) → σ[j]? = some o → σ'[j]? = some o)
    (fun k => g.length - k) 0 ⟨Nat.zero_le _, hs, by simpa using hg, fun j n h => (hg.has h).2, fun _ _ _ h => h⟩ (by simp only [List.take_zero, totalG_nil]; exact (by repeat' (first | exact sub_nil | refine sub_cons rfl ?_ | refine sub_int rfl (by first | rfl | omega | (push_cast; omega) | simp) ?_ | refine sub_eq rfl (by assumption) ?_))) ?_
  rintro k σ' ⟨hk, hrw, hor, hown, hkeep⟩
  have hml := mkG_len g a
  repeat' (first
    | refine wl_pop rfl (pc_ldAV rfl inferInstance inferInstance (by omega) inferInstance) ?_
    | refine wl_pop rfl (pc_indexRow rfl rfl inferInstance inferInstance inferInstance (by omega)) ?_
    | refine wl_pop rfl (pc_lenRow rfl inferInstance inferInstance) ?_
    | refine wp_seqA ?_
    | refine wp_region_seq ?_
    | refine thru_seq_next ?_
    | refine thru_seq ?_
    | refine exit_here ?_
    | refine wp_skipA ?_
    | refine wp_retA ?_
    | refine wp_exitA ?_
    | refine wp_blockA ?_
    | refine wl_nil ?_
    | refine wl_pop rfl (po_move rfl) ?_
    | refine wl_pop rfl (po_assign rfl) ?_
    | refine wl_pop rfl (po_binOp rfl rfl rfl) ?_
    | refine wp_condP rfl (fun _ => ?_) (fun _ => ?_)
    | refine at_ret (res1 rfl rfl) ?_
    | fail)
  rotate_left
  · obtain rfl : k = g.length := by omega
    rw [List.take_length]
    refine ⟨rfl, ?_, hown, hkeep⟩
    rw [List.drop_length, List.append_nil, List.take_of_length_le (by omega)] at hor
    exact hor
  have hk' : k < g.length := by omega
  have hrow := hor.row k
  have hgk : ((mkG a g).take k ++ g.drop k).getD k [] = g.getD k [] := by
    rw [List.getD_eq_getElem?_getD, List.getElem?_append_right (by simp; omega), List.length_take, Nat.min_eq_left (by omega), Nat.sub_self]
    simp [List.getD_eq_getElem?_getD]
  rw [hgk] at hrow
  have hone := hrow.one
  have htk := totalG_take hk'
  have htl := totalG_le g (k + 1)
  repeat' (first
    | (refine wl_call rfl inferInstance rfl (c_markMoveS σ' (ss.getD k nilS) _ hrow (by omega) (by omega)) ?_ rfl ?_)
    | fail)
  · rintro j ⟨n, hn⟩
    have hmem : AV.sl j 0 n ∈ ss := by
      rw [← hn, getD_lt (by omega)]; exact List.getElem_mem _
    obtain ⟨l, hl'⟩ := hown j n hmem
    exact ⟨.inl ⟨n, hmem⟩, _, hl'.get, .inl rfl⟩
  rintro _ σ2 ⟨rfl, h2, h3⟩
  have hne : ∀ n, ss.getD k nilS ≠ .sl s.id 0 n ∨ ∀ off m, s ≠ .sl s.id off m := by
    intro n
    by_cases e : ∃ off m, s = .sl s.id off m
    · left
      intro e2
      exact hsep n e (by rw [← e2, getD_lt (by omega)]; exact List.getElem_mem _)
    · right
      intro off m e2; exact e ⟨off, m, e2⟩
  have hrw2 : RW σ2 s ss := hrw.mono fun o ⟨off, n, e⟩ ho => h3 _ o (fun n' => (hne n').resolve_right fun h => h off n e) ho
  have hone2 := hrw2.one
  repeat' (first
    | refine wp_region_seq ?_
    | refine thru_seq_next ?_
    | refine thru_block_next ?_
    | refine wl_nil ?_
    | refine wl_pop rfl (po_move rfl) ?_
    | refine wl_pop rfl (po_assign rfl) ?_
    | refine wl_pop rfl (pc_add rfl rfl (by omega) (by omega)) ?_
    | fail)
  have hmk := mkG_get g a k hk'
  refine ⟨k + 1, by omega, ⟨hk', hrw2, ?_, ?_, ?_⟩, (by simp only [htk]; exact (by repeat' (first | exact sub_nil | refine sub_cons rfl ?_ | refine sub_int rfl (by first | rfl | omega | (push_cast; omega) | simp) ?_ | refine sub_eq rfl (by assumption) ?_)))⟩
  · refine hor.turn (k := k) (by simp; omega) (by omega) ?_ ?_ h3
    · have : ((mkG a g).take (k + 1) ++ g.drop (k + 1)).getD k [] = cntM (a + 2 * (totalG (g.take k) : Int)) (g.getD k []).length := by
        rw [List.getD_eq_getElem?_getD, List.getElem?_append_left (by simp; omega), List.getElem?_take, if_pos (by omega), ← List.getD_eq_getElem?_getD, hmk]
      rw [this]; exact h2
    · intro j hj
      simp only [List.getD_eq_getElem?_getD]
      by_cases e : j < k
      · rw [List.getElem?_append_left (by simp; omega), List.getElem?_append_left (by simp; omega), List.getElem?_take, List.getElem?_take, if_pos (by omega), if_pos (by omega)]
      · rw [List.getElem?_append_right (by simp; omega), List.getElem?_append_right (by simp; omega)]
        simp only [List.length_take, List.getElem?_drop]
        congr 2; omega
  · intro j n hm
    by_cases e : ∃ m, ss.getD k nilS = .sl j 0 m
    · obtain ⟨m, e⟩ := e
      rcases h2.rep with ⟨_, h5⟩ | ⟨id, h5, _, h6⟩
      · rw [e] at h5; cases h5
      · rw [e] at h5; cases h5; exact ⟨_, h6⟩
    · obtain ⟨l, hl'⟩ := hown j n hm
      exact ⟨l, ⟨h3 j _ (fun m hm => e ⟨m, hm⟩) hl'.get⟩⟩
  · intro j o hj ho
    refine h3 j o (fun n e => hj n ?_) (hkeep j o hj ho)
    rw [← e, getD_lt (by omega)]; exact List.getElem_mem _
theorem c_heldMoveSS (σ : Store) (s : AV) (a : Int) {ss : List AV} {g : Gr} [hs : RW σ s ss] [hg : RRs σ ss (mkG a g)] (ha : 0 ≤ a) (ha2 : a + 2 * (totalG g : Int) ≤ 1000000000000000) :
    ACall Tryd.prog base F_laws_heldMoveSS [s, I a] σ (fun _ => False) (Ret σ (I (a + 2 * (totalG g : Int)))) := by
  have hb := hs.bound
  have hl := hg.len
  have hml := mkG_len g a
  refine acall2 fun_laws_heldMoveSS rfl tmps_laws_heldMoveSS rfl fun N B w₀ ρ₀ => ?_
  repeat' (first
    | refine wp_seqA ?_
    | refine wp_region_seq ?_
    | refine thru_seq_next ?_
    | refine wp_blockA ?_
    | refine wl_nil ?_
    | refine wl_pop rfl (po_assign rfl) ?_
    | fail)
  refine wc_loop [(0, _)] (fun k : Nat => [(1, I (a + 2 * (totalG (g.take k) : Int))), (5, I k)]) (fun k σ' => k ≤ g.length ∧ LeS σ σ') (fun k => g.length - k) 0 ⟨Nat.zero_le _, inferInstance⟩ (by simp only [List.take_zero, totalG_nil]; exact (by repeat' (first | exact sub_nil | refine sub_cons rfl ?_ | refine sub_int rfl (by first | rfl | omega | (push_cast; omega) | simp) ?_ | refine sub_eq rfl (by assumption) ?_))) ?_
  rintro k σ' ⟨hk, hle⟩
  have := hle.grow
  repeat' (first
    | refine wl_pop rfl (pc_ldAV rfl inferInstance inferInstance (by omega) inferInstance) ?_
    | refine wl_pop rfl (pc_indexRow rfl rfl inferInstance inferInstance inferInstance (by omega)) ?_
    | refine wl_pop rfl (pc_lenRow rfl inferInstance inferInstance) ?_
    | refine wp_seqA ?_
    | refine wp_region_seq ?_
    | refine thru_seq_next ?_
    | refine thru_seq ?_
    | refine exit_here ?_
    | refine wp_skipA ?_
    | refine wp_retA ?_
    | refine wp_exitA ?_
    | refine wp_blockA ?_
    | refine wl_nil ?_
    | refine wl_pop rfl (po_move rfl) ?_
    | refine wl_pop rfl (po_assign rfl) ?_
    | refine wl_pop rfl (po_binOp rfl rfl rfl) ?_
    | refine wp_condP rfl (fun _ => ?_) (fun _ => ?_)
    | refine at_ret (res1 rfl rfl) ?_
    | fail)
  rotate_left
  · obtain rfl : k = g.length := by omega
    rw [List.take_length]
    exact ret_ inferInstance rfl
  have hk' : k < g.length := by omega
  have htk := totalG_take hk'
  have htl := totalG_le g (k + 1)
  have hrow : RW σ' (ss.getD k nilS) (cntM (a + 2 * (totalG (g.take k) : Int)) (g.getD k []).length) := by
    rw [← mkG_get g a k hk']; infer_instance
  repeat' (first
    | (refine wc_callR rfl inferInstance rfl (c_heldMoveS σ' (ss.getD k nilS) _ (by omega) (by omega)) rfl ?_; intro _ _)
    | refine wp_seqA ?_
    | refine wp_region_seq ?_
    | refine thru_seq_next ?_
    | refine thru_seq_ret ?_
    | refine thru_block_ret ?_
    | refine thru_block_next ?_
    | refine wp_skipA ?_
    | refine wp_retA ?_
    | refine wl_nil ?_
    | refine wl_pop rfl (po_move rfl) ?_
    | refine wl_pop rfl (po_assign rfl) ?_
    | refine wl_pop rfl (pc_add rfl rfl (by omega) (by omega)) ?_
    | refine wl_pop rfl (po_binOp rfl rfl rfl) ?_
    | refine wp_condP rfl (fun _ => ?_) (fun _ => ?_)
    | refine at_ret (res1 rfl rfl) ?_
    | fail)
  · omega
  · exact ⟨k + 1, by omega, ⟨hk', inferInstance⟩, (by simp only [htk]; exact (by repeat' (first | exact sub_nil | refine sub_cons rfl ?_ | refine sub_int rfl (by first | rfl | omega | (push_cast; omega) | simp) ?_ | refine sub_eq rfl (by assumption) ?_)))⟩
theorem c_markGraph {σ₀ : Store} (σ : Store) (s : AV) (a : Int) {ss : List AV} {g : Gr} [hs : RW σ s ss] (hg : ORs σ₀ σ ss g) (ha : 0 ≤ a) (ha2 : a + 2 * (totalG g : Int) ≤ 1000000000000000) :
    ACall Tryd.prog base F_laws_markGraph [.agg [s], I a] σ (fun j => ∃ n, AV.sl j 0 n ∈ ss) (RetMarkR σ₀ σ ss (a + 2 * (totalG g : Int)) (mkG a g)) := by
  have := hs.one
  refine acall2 fun_laws_markGraph rfl tmps_laws_markGraph rfl fun N B w₀ ρ₀ => ?_
  repeat' (first
    | refine wp_seqA ?_
    | refine wp_region_seq ?_
    | refine thru_seq_next ?_
    | refine wl_nil ?_
    | refine wl_pop rfl (po_move rfl) ?_
    | refine wl_pop rfl (po_assign rfl) ?_
    | refine wl_pop rfl (po_fieldAddr rfl inferInstance) ?_
    | refine wc_load1 rfl inferInstance (at_has (.inl rfl) rfl rfl) rfl ?_
    | (refine wc_boxA rfl inferInstance rfl ?_; intro _ _ _ _ _)
    | fail)
  rename_i i σ1 g1 n1 h1
  have hg1 : ORs σ₀ σ1 ss g := inferInstance
  refine wl_call rfl inferInstance rfl (c_markMoveSS σ1 s a hg1 ha ha2) (fun j ⟨n, hj⟩ => ⟨.inl ⟨n, hj⟩, by obtain ⟨_, l, h⟩ := hg1.has hj; exact ⟨_, h.get, .inl rfl⟩⟩) rfl ?_
  rintro _ σ2 ⟨rfl, h2, h3, h4⟩
  repeat' (first
    | refine wp_seqA ?_
    | refine wp_region_seq ?_
    | refine thru_seq_next ?_
    | refine wp_retA ?_
    | refine wl_nil ?_
    | refine wl_pop rfl (po_move rfl) ?_
    | refine wl_pop rfl (po_assign rfl) ?_
    | refine at_ret (res1 rfl rfl) ?_
    | fail)
  exact ⟨rfl, h2, h3, fun j o hj ho => h4 j o hj (g1.keep j o ho)⟩
theorem c_heldGraph (σ : Store) (s : AV) (a : Int) {ss : List AV} {g : Gr} [hs : RW σ s ss] [hg : RRs σ ss (mkG a g)] (ha : 0 ≤ a) (ha2 : a + 2 * (totalG g : Int) ≤ 1000000000000000) :
    ACall Tryd.prog base F_laws_heldGraph [.agg [s], I a] σ (fun _ => False) (Ret σ (I (a + 2 * (totalG g : Int)))) := by
  have := hs.one
  refine acall2 fun_laws_heldGraph rfl tmps_laws_heldGraph rfl fun N B w₀ ρ₀ => ?_
  repeat' (first
    | (refine wc_callR rfl inferInstance rfl (c_heldMoveSS _ s a ha ha2) rfl ?_; intro _ _)
    | refine wp_seqA ?_
    | refine wp_region_seq ?_
    | refine thru_seq_next ?_
    | refine thru_seq_ret ?_
    | refine wp_skipA ?_
    | refine wp_retA ?_
    | refine wl_nil ?_
    | refine wl_pop rfl (po_move rfl) ?_
    | refine wl_pop rfl (po_assign rfl) ?_
    | refine wl_pop rfl (po_binOp rfl rfl rfl) ?_
    | refine wl_pop rfl (po_fieldAddr rfl inferInstance) ?_
    | refine wc_load1 rfl inferInstance (at_has (.inl rfl) rfl rfl) rfl ?_
    | (refine wc_boxA rfl inferInstance rfl ?_; intro _ _ _ _ _)
    | refine wp_condP rfl (fun _ => ?_) (fun _ => ?_)
    | refine at_ret (res1 rfl rfl) ?_
    | exact ret_ inferInstance rfl
    | fail)
  omega
end
section
variable {α : Type} [Enc α] {E : Env} {ops : Array Oper} {l : List Oper} {Q : Exit → Slots → Store → Prop} {S : Slots} {σ : Store} {d : Option Tmp} {ty : TypeId} {pos : String} {af : Array Edge} {x y : Operand}
/-- A call that marks rows that lie between two stores. -/
theorem wc_callMkR {args : Array Operand} {ats : Array TypeId} {f : FuncId} {rs caps : List AV} {ss : List AV} {r : Int} {g g' : List (List α)} (σa σb : Store) (hf : S.ev x = some (.fn f caps)) (hc : Callable E.P f) (hargs : evs S args.toList = some rs)
    (hg : ORs σa σ ss g') (hb : ORs σa σb ss g') (h : ACall E.P E.base f (rs ++ caps) σ (fun j => ∃ n, AV.sl j 0 n ∈ ss) (RetMarkR σa σ ss r g)) (hm : ∀ i, σa.length ≤ i → E.may i) (hd : okd E d = true)
    (k : ∀ σ', Mk σ σa σb σ' → ORs σa σ' ss g → WL E ops l Q (S.put d (I r)) σ') :
    WL E ops (⟨d, .call ⟨.value x, args, ats⟩, ty, pos, af, none⟩ :: l) Q S σ :=
  wl_call hf hc hargs h (fun i ⟨n, hi⟩ => by
    obtain ⟨h1, l', h2⟩ := hg.has hi
    exact ⟨hm i h1, _, h2.get, .inl rfl⟩) hd fun r' σ' hK => by
    obtain ⟨e, h1, _, h3⟩ := hK
    subst e
    exact k σ' ⟨fun j o hj => h3 j o (fun n hn => by
      have h4 := (hg.has hn).1
      have h5 := hb.lt hn
      omega)⟩ h1
end
end Go.Proofs.YtpkgcdpebomalaaDoor.Asl
