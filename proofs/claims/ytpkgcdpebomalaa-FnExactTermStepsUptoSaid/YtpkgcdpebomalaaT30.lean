/- Steps compared, marked and read again. -/
import Derived.Test.YtpkgcdpebomalaaT28
import Derived.Test.YtpkgcdpebomalaaT21
namespace Go.Proofs.Ytpkgcdpebomalaa.Asl
open Go.RowKit Go.Proofs.YtpkgcdpebomalaaW.PrintLast
set_option linter.unusedVariables false
set_option linter.unusedSimpArgs false
attribute [local irreducible] WP WL andThen inBlock noGoto atEnd ACall DA DL PO Hold nodeOk Tm.shape Tm.ok
set_option maxHeartbeats 4000000
set_option synthInstance.maxHeartbeats 400000
set_option synthInstance.maxSize 10000
theorem splice_field {α : Type} [Enc α] {l : List α} {k j : Nat} {x' : α} {c : AV} (hk : k < l.length) (hj : j < Enc.e α) (he : ∀ m, m < Enc.e α → (Enc.enc x')[m]? = if m = j then some c else (Enc.enc (l.getD k Enc.dflt))[m]?) : splice (rowCells l) (0 + k * Enc.e α + j) [c] = rowCells (l.set k x') := by
  rw [← rowCells_set (α := α) _ hk]
  have hl := rowCells_length l
  have hlk : (k + 1) * Enc.e α ≤ l.length * Enc.e α := Nat.mul_le_mul_right _ hk
  rw [Nat.succ_mul] at hlk
  have h2 := rowCells_cut (l := l) (k := k) (x := l.getD k Enc.dflt) (by simp [List.getD_eq_getElem?_getD, hk])
  generalize hK : k * Enc.e α = K at *
  generalize hT : l.length * Enc.e α = T at *
  generalize hE : Enc.e α = e at *
  apply List.ext_getElem?
  intro i
  rw [splice_get (by simp only [List.length_cons, List.length_nil]; omega), splice_get (by rw [Enc.len, hE]; omega), Enc.len, hE]
  simp only [List.length_cons, List.length_nil]
  by_cases h0 : i < K
  · rw [if_pos (by omega), if_pos h0]
  · by_cases h3 : i < K + e
    · rw [if_neg h0, if_pos h3, he _ (by omega)]
      have h4 : (rowCells l)[i]? = (Enc.enc (l.getD k Enc.dflt))[i - K]? := by
        rw [← h2]; unfold cutL
        rw [List.getElem?_take, if_pos (by omega), List.getElem?_drop]; congr 1; omega
      by_cases h5 : i = K + j
      · rw [if_neg (by omega), if_pos (by omega), if_pos (by omega), show i - (0 + K + j) = 0 by omega]; rfl
      · rw [if_neg (show ¬ i - K = j by omega), ← h4]
        by_cases h6 : i < 0 + K + j
        · rw [if_pos h6]
        · rw [if_neg h6, if_neg (by omega)]
    · rw [if_neg (by omega), if_neg (by omega), if_neg h0, if_neg h3]
section
variable {E : Env} {ops : Array Oper} {L : List Oper} {Q : Exit → Slots → Store → Prop} {S : Slots} {σ σ₀ : Store} {d : Option Tmp} {ty : TypeId} {pos : String} {af : Array Edge} {g : Option (Nat × Bool)} {x y : Operand} {t : TypeId} {bytes : Nat} {z : Value} {i k : Nat}
theorem wc_stSt0 {l : List StC} {u : Int} (hx : S.ev x = some (.pt i (0 + k * 4 + 0))) (hy : S.ev y = some (I u)) (ht : Ty E.P t false 1 bytes z) (ho : Has σ i (Row l)) (hk : k < l.length) (hm : E.may i)
    (kk : ∀ σ', Upd σ i (Row (l.set k { l.getD k Enc.dflt with act := u })) σ' → WL E ops L Q S σ') : WL E ops (⟨none, .store t x y, ty, pos, af, none⟩ :: L) Q S σ :=
  wc_store hx hy ht ho rfl rfl (by simp [AV.one, AV.cells]) (by have := rowCells_length l; have e2 : Enc.e StC = 4 := rfl; rw [e2] at this; omega)
    (splice_field (α := StC) (j := 0) hk (by decide) (by intro m hm; match m, hm with | 0, _ => rfl | 1, _ => rfl | 2, _ => rfl | 3, _ => rfl)) hm kk
theorem wc_stSt1 {l : List StC} {u : Int} (hx : S.ev x = some (.pt i (0 + k * 4 + 1 + 0))) (hy : S.ev y = some (I u)) (ht : Ty E.P t false 1 bytes z) (ho : Has σ i (Row l)) (hk : k < l.length) (hm : E.may i)
    (kk : ∀ σ', Upd σ i (Row (l.set k { l.getD k Enc.dflt with op := u })) σ' → WL E ops L Q S σ') : WL E ops (⟨none, .store t x y, ty, pos, af, none⟩ :: L) Q S σ :=
  wc_store hx hy ht ho rfl rfl (by simp [AV.one, AV.cells]) (by have := rowCells_length l; have e2 : Enc.e StC = 4 := rfl; rw [e2] at this; omega)
    (splice_field (α := StC) (j := 1) hk (by decide) (by intro m hm; match m, hm with | 0, _ => rfl | 1, _ => rfl | 2, _ => rfl | 3, _ => rfl)) hm kk
theorem wc_stSt2 {l : List StC} {u : Int} (hx : S.ev x = some (.pt i (0 + k * 4 + 1 + 1))) (hy : S.ev y = some (I u)) (ht : Ty E.P t false 1 bytes z) (ho : Has σ i (Row l)) (hk : k < l.length) (hm : E.may i)
    (kk : ∀ σ', Upd σ i (Row (l.set k { l.getD k Enc.dflt with n := u })) σ' → WL E ops L Q S σ') : WL E ops (⟨none, .store t x y, ty, pos, af, none⟩ :: L) Q S σ :=
  wc_store hx hy ht ho rfl rfl (by simp [AV.one, AV.cells]) (by have := rowCells_length l; have e2 : Enc.e StC = 4 := rfl; rw [e2] at this; omega)
    (splice_field (α := StC) (j := 2) hk (by decide) (by intro m hm; match m, hm with | 0, _ => rfl | 1, _ => rfl | 2, _ => rfl | 3, _ => rfl)) hm kk
end
/-- How many numbers a list of steps has. -/
def SW : List Stp → Nat
  | [] => 0
  | y :: L => (3 + 2 * Tm.cnts y.2.ps) + SW L
def mks (a : Int) : List Stp → List Stp
  | [] => []
  | y :: L => (a, .node (a + 1) (a + 2) (Tm.marks (a + 3) y.2.ps)) :: mks (a + (3 + 2 * (Tm.cnts y.2.ps : Int))) L
theorem mks_len (L : List Stp) : ∀ a, (mks a L).length = L.length := by
  induction L with
  | nil => intro a; rfl
  | cons y L ih => intro a; simp [mks, ih]
theorem mks_get : ∀ (L : List Stp) (a : Int) (k : Nat) (y : Stp), L[k]? = some y → (mks a L)[k]? = some (a + (SW (L.take k) : Int), .node (a + (SW (L.take k) : Int) + 1) (a + (SW (L.take k) : Int) + 2) (Tm.marks (a + (SW (L.take k) : Int) + 3) y.2.ps))
  | [], a, k, y, h => by simp at h
  | q :: L, a, 0, y, h => by simp at h; subst h; simp [mks, SW]
  | q :: L, a, k + 1, y, h => by
    have := mks_get L (a + (3 + 2 * (Tm.cnts q.2.ps : Int))) k y (by simpa using h)
    simp only [mks, List.getElem?_cons_succ, List.take_succ_cons, SW]
    rw [this]
    have e : a + (3 + 2 * (Tm.cnts q.2.ps : Int)) + (SW (L.take k) : Int) = a + ((3 + 2 * Tm.cnts q.2.ps + SW (L.take k) : Nat) : Int) := by push_cast; omega
    rw [e]
theorem SW_take : ∀ {L : List Stp} {k : Nat} {y : Stp}, L[k]? = some y → SW (L.take (k + 1)) = SW (L.take k) + (3 + 2 * Tm.cnts y.2.ps)
  | [], k, y, h => by simp at h
  | q :: L, 0, y, h => by simp at h; subst h; simp [SW]
  | q :: L, k + 1, y, h => by
    have := SW_take (L := L) (k := k) (y := y) (by simpa using h)
    simp only [List.take_succ_cons, SW]; rw [this]; omega
theorem SW_le : ∀ (L : List Stp) (k : Nat), SW (L.take k) ≤ SW L
  | [], k => by simp [SW]
  | q :: L, 0 => by simp [SW]
  | q :: L, k + 1 => by
    have := SW_le L k
    simp only [List.take_succ_cons, SW]; omega
theorem SW_bound {L : List Stp} {c : Nat} (h : ∀ y ∈ L, y.2.cnt ≤ c) : SW L ≤ L.length * (3 + 2 * c) := by
  induction L with
  | nil => simp [SW]
  | cons y L ih =>
    have h1 := h y (by simp)
    have h2 := ih fun y hy => h y (by simp [hy])
    have h3 : y.2.cnt = 1 + Tm.cnts y.2.ps := by cases y.2; rfl
    have e : (L.length + 1) * (3 + 2 * c) = L.length * (3 + 2 * c) + (3 + 2 * c) := Nat.succ_mul _ _
    simp only [SW, List.length_cons]
    rw [e]; omega
/-- Steps in objects of F, each reached once. -/
def SDk (σ : Store) (F : Nat → Prop) (u : AV) (L : List Stp) : Prop := (L = [] ∧ u = nilS) ∨ ∃ (id : Nat) (l : List StC) (Fs : Nat → Nat → Prop), u = .sl id 0 L.length ∧ F id ∧ Has σ id (Row l) ∧ l.length = L.length ∧ (∀ k, k < L.length → ∀ i, Fs k i → F i) ∧ (∀ j j' i, j < L.length → j' < L.length → Fs j i → Fs j' i → j = j') ∧
  ∀ (j : Nat) (x : StC) (y : Stp), l[j]? = some x → L[j]? = some y → x.act = y.1 ∧ x.op = y.2.op ∧ x.n = y.2.n ∧ RepD σ (Fs j) x.s y.2.ps
theorem SDk.of {σ₀ σ : Store} {u : AV} {l : List StC} {L : List Stp} (h : OW σ₀ σ u l) (h2 : SRD σ₀ σ l L) : SDk σ (fun i => σ₀.length ≤ i ∧ i < σ.length) u L := by
  rcases h.rep with ⟨rfl, rfl⟩ | ⟨id, rfl, hid, hh⟩
  · exact .inl ⟨List.length_eq_zero_iff.mp h2.len.symm, rfl⟩
  · obtain ⟨Fs, h3, h4, h5⟩ := h2.rep.ex
    refine .inr ⟨id, l, fun j i => Fs j i ∧ i < σ.length, by rw [h2.len], ⟨hid, hh.lt⟩, hh, h2.len, fun k hk i hi => ⟨h3 k hk i hi.1, hi.2⟩, fun j j' i hj hj' a b => h4 j j' i hj hj' a.1 b.1, fun j x y hx hy => ?_⟩
    obtain ⟨a1, a2, a3, a4⟩ := h5 j x y (get_lt hy) hx hy
    exact ⟨a1, a2, a3, a4.lt⟩
theorem SDk.mono {σ σ' : Store} {F : Nat → Prop} {u : AV} {L : List Stp} (h : SDk σ F u L) (hk : ∀ (i : Nat) (o : Ob), F i → σ[i]? = some o → σ'[i]? = some o) : SDk σ' F u L := by
  rcases h with h | ⟨id, l, Fs, h1, h2, h3, h4, h5, h6, h7⟩
  · exact .inl h
  · refine .inr ⟨id, l, Fs, h1, h2, ⟨hk _ _ h2 h3.get⟩, h4, h5, h6, fun j x y hx hy => ?_⟩
    obtain ⟨a1, a2, a3, a4⟩ := h7 j x y hx hy
    exact ⟨a1, a2, a3, a4.mono (fun i o hi ho => hk i o (h5 j (get_lt hy) i hi) ho) (fun _ h => h)⟩
theorem SDk.rw {σ : Store} {F : Nat → Prop} {u : AV} {L : List Stp} (h : SDk σ F u L) (hb : L.length ≤ 4294967296) : ∃ l, RW σ u l ∧ SR (fun _ => True) σ l L := by
  rcases h with ⟨rfl, rfl⟩ | ⟨id, l, Fs, rfl, h2, h3, h4, h5, h6, h7⟩
  · exact ⟨[], RW.nil _ _ _, SR.nil _ _⟩
  · have hd : SRD [] σ l L := ⟨h4, Fs, fun j hj i hi => by simp, fun j j' i hj hj' a b => h6 j j' i hj hj' a b, fun j x y hj hx hy => h7 j x y hx hy⟩
    exact ⟨l, rw_of_has h3 h4 hb, hd.sr⟩
def RetMarkS (σ : Store) (F F' : Nat → Prop) (u : AV) (a : Int) (L : List Stp) : AV → Store → Prop := fun r σ' => r = I (a + (SW L : Int)) ∧ SDk σ' F u (mks a L) ∧ ∀ (j : Nat) (o : Ob), ¬ F' j → σ[j]? = some o → σ'[j]? = some o
section
variable {base : Nat}
theorem c_eqStep (a : Int) (t : Tm) (σ : Store) (s s' : AV) [h : RTs σ s t.ps] [h' : RTs σ s' t.ps] : ACall Try.prog base F_laws_eqStep [.agg [I a, I t.op, I t.n, s], .agg [I a, I t.op, I t.n, s']] σ (fun _ => False) (Ret σ (Bo true)) := by
  have := h.one
  have := h'.one
  refine acall2 fun_laws_eqStep rfl tmps_laws_eqStep rfl fun N B w₀ ρ₀ => ?_
  repeat' (first
    | (refine wc_callR rfl inferInstance rfl (c_eqTerm_self t _ _ _) rfl ?_; intro _ _)
    | (refine wc_loadn rfl inferInstance (at_sub3 (at_has (cs := [_, _, _, _]) (.inl rfl) rfl rfl)) rfl ?_)
    | refine wp_seqA ?_
    | refine wp_region_seq ?_
    | refine thru_seq_next ?_
    | refine thru_seq_ret ?_
    | refine wp_skipA ?_
    | refine wp_retA ?_
    | refine wl_nil ?_
    | refine wl_pop rfl (po_assign rfl) ?_
    | refine wl_pop rfl (po_binOp rfl rfl rfl) ?_
    | refine wl_pop rfl (po_fieldAddr rfl inferInstance) ?_
    | refine wc_load1 rfl inferInstance (at_has (.inl rfl) rfl rfl) rfl ?_
    | refine wl_pop rfl (po_not rfl) ?_
    | (refine wc_boxA rfl inferInstance rfl ?_; intro _ _ _ _ _)
    | refine wp_condF rfl ?_
    | refine wp_condNP rfl (fun _ => ?_) (fun _ => ?_)
    | refine at_ret (res1 rfl rfl) ?_
    | exact ret_ inferInstance rfl
    | fail)
  all_goals first | contradiction | exact ret_ inferInstance rfl
theorem c_eqStepS (L : List Stp) (xs xs' : List StC) (σ : Store) (u u' : AV) {G G' : Nat → Prop} [hu : RW σ u xs] [hu' : RW σ u' xs'] [hs : SR G σ xs L] [hs' : SR G' σ xs' L] : ACall Try.prog base F_laws_eqStepS [u, u'] σ (fun _ => False) (Ret σ (Bo true)) := by
  have := hu.one
  have := hu'.one
  have hl := hs.len'
  have hl' := hs'.len'
  have hb := hu.bound
  refine acall2 fun_laws_eqStepS rfl tmps_laws_eqStepS rfl fun N B w₀ ρ₀ => ?_
  repeat' (first
    | refine wl_pop rfl (pc_lenRow rfl inferInstance inferInstance) ?_
    | refine wp_seqA ?_
    | refine wp_region_seq ?_
    | refine thru_seq_next ?_
    | refine thru_seq_ret ?_
    | refine wp_skipA ?_
    | refine wp_retA ?_
    | refine wp_blockA ?_
    | refine wl_nil ?_
    | refine wl_pop rfl (po_move rfl) ?_
    | refine wl_pop rfl (po_assign rfl) ?_
    | refine wl_pop rfl (po_binOp rfl rfl rfl) ?_
    | refine wp_condNP rfl (fun _ => ?_) (fun _ => ?_)
    | refine at_ret (res1 rfl rfl) ?_
    | fail)
  · exfalso; omega
  refine wc_loop [(0, _), (1, _)] (fun k : Nat => [(5, I k)]) (fun k σ' => k ≤ L.length ∧ LeS σ σ') (fun k => L.length - k) 0 ⟨Nat.zero_le _, inferInstance⟩ (by repeat' (first | exact sub_nil | refine sub_cons rfl ?_ | refine sub_int rfl (by first | rfl | omega | (push_cast; omega) | simp) ?_ | refine sub_eq rfl (by assumption) ?_)) ?_
  rintro k σ' ⟨hk, hg⟩
  have := hg.grow
  repeat' (first
    | refine wl_pop rfl (pc_lenRow rfl inferInstance inferInstance) ?_
    | refine wp_seqA ?_
    | refine wp_region_seq ?_
    | refine thru_seq_next ?_
    | refine thru_seq ?_
    | refine exit_here ?_
    | refine wp_skipA ?_
    | refine wp_retA ?_
    | refine wp_exitA ?_
    | refine wp_blockA ?_
    | refine wl_nil ?_
    | refine wl_pop rfl (po_move rfl) ?_
    | refine wl_pop rfl (po_assign rfl) ?_
    | refine wl_pop rfl (po_binOp rfl rfl rfl) ?_
    | refine wp_condP rfl (fun _ => ?_) (fun _ => ?_)
    | refine at_ret (res1 rfl rfl) ?_
    | exact ret_ inferInstance rfl
    | fail)
  have hk' : k < L.length := by omega
  have hkx : k < xs.length := by omega
  have hkx' : k < xs'.length := by omega
  obtain ⟨e1, e2, e3, r⟩ := hs.at hk'
  obtain ⟨f1, f2, f3, r'⟩ := hs'.at hk'
  have r1 : RTs σ' (xs.getD k Enc.dflt).s (L.getD k (0, nilT)).2.ps := ⟨(r.les hg).rep.mono (fun _ _ _ h => h) (fun _ _ => trivial)⟩
  have r2 : RTs σ' (xs'.getD k Enc.dflt).s (L.getD k (0, nilT)).2.ps := ⟨(r'.les hg).rep.mono (fun _ _ _ h => h) (fun _ _ => trivial)⟩
  have hok : One (xs.getD k Enc.dflt).s := ⟨(xs.getD k Enc.dflt).one⟩
  have hok' : One (xs'.getD k Enc.dflt).s := ⟨(xs'.getD k Enc.dflt).one⟩
  have hst : ACall Try.prog base F_laws_eqStep [.agg [I (xs.getD k Enc.dflt).act, I (xs.getD k Enc.dflt).op, I (xs.getD k Enc.dflt).n, (xs.getD k Enc.dflt).s], .agg [I (xs'.getD k Enc.dflt).act, I (xs'.getD k Enc.dflt).op, I (xs'.getD k Enc.dflt).n, (xs'.getD k Enc.dflt).s]] σ' (fun _ => False) (Ret σ' (Bo true)) := by
    rw [e1, e2, e3, f1, f2, f3]
    exact c_eqStep _ (L.getD k (0, nilT)).2 _ _ _
  refine wc_drawn [] mixed_ rfl ?_
  all_goals refine da_takeC 0 rfl rfl (by kernel_rfl) (by first | exact po_move rfl | fail) ?_
  all_goals refine da_takeC 1 rfl rfl (by kernel_rfl) (by first | exact po_move rfl | fail) ?_
  all_goals refine da_takeC 2 rfl rfl (by kernel_rfl) (by first | exact pc_indexRow rfl rfl inferInstance inferInstance inferInstance (by omega) | fail) ?_
  all_goals refine da_takeC 3 rfl rfl (by kernel_rfl) (by first | exact pc_ldSt rfl inferInstance inferInstance (by omega) inferInstance | fail) ?_
  all_goals refine da_takeC 4 rfl rfl (by kernel_rfl) (by first | exact po_move rfl | fail) ?_
  all_goals refine da_takeC 5 rfl rfl (by kernel_rfl) (by first | exact po_move rfl | fail) ?_
  all_goals refine da_takeC 6 rfl rfl (by kernel_rfl) (by first | exact pc_indexRow rfl rfl inferInstance inferInstance inferInstance (by omega) | fail) ?_
  all_goals refine da_takeC 7 rfl rfl (by kernel_rfl) (by first | exact pc_ldSt rfl inferInstance inferInstance (by omega) inferInstance | fail) ?_
  all_goals (first | (refine da_one 8 rfl (by kernel_rfl) (fun _ _ _ _ => ?_); (repeat' (first | (refine wc_callR rfl inferInstance rfl hst rfl ?_; intro _ _) | fail)); all_goals (first | refine wl_nil ⟨rfl, (by first | exact LeS.len inferInstance | exact App.len (by assumption)), ?_⟩ | trace_state)))
  all_goals refine da_takeC 9 rfl rfl (by kernel_rfl) (by first | exact po_not rfl | fail) ?_
  all_goals refine da_done (by kernel_rfl) ?_
  all_goals try (exfalso; omega)
  repeat' (first
    | refine wp_region_seq ?_
    | refine thru_seq_next ?_
    | refine thru_block_next ?_
    | refine wp_skipA ?_
    | refine wl_nil ?_
    | refine wl_pop rfl (po_move rfl) ?_
    | refine wl_pop rfl (po_assign rfl) ?_
    | refine wl_pop rfl (pc_add rfl rfl (by omega) (by omega)) ?_
    | refine wp_condF rfl ?_
    | fail)
  exact ⟨k + 1, by omega, ⟨hk', inferInstance⟩, (by repeat' (first | exact sub_nil | refine sub_cons rfl ?_ | refine sub_int rfl (by first | rfl | omega | (push_cast; omega) | simp) ?_ | refine sub_eq rfl (by assumption) ?_))⟩
theorem c_heldStepS (L : List Stp) (a : Int) (xs : List StC) (σ : Store) (u : AV) {G : Nat → Prop} [hu : RW σ u xs] [hs : SR G σ xs (mks a L)] (ha : 0 ≤ a) (ha2 : a + (SW L : Int) ≤ 1000000000000) : ACall Try.prog base F_laws_heldStepS [u, I a] σ (fun _ => False) (Ret σ (I (a + (SW L : Int)))) := by
  have := hu.one
  have hb := hu.bound
  have hl := hs.len'
  have hml := mks_len L a
  refine acall2 fun_laws_heldStepS rfl tmps_laws_heldStepS rfl fun N B w₀ ρ₀ => ?_
  repeat' (first
    | refine wp_seqA ?_
    | refine wp_region_seq ?_
    | refine thru_seq_next ?_
    | refine wp_blockA ?_
    | refine wl_nil ?_
    | refine wl_pop rfl (po_assign rfl) ?_
    | fail)
  refine wc_loop [(0, _)] (fun k : Nat => [(1, I (a + (SW (L.take k) : Int))), (5, I k)]) (fun k σ' => k ≤ L.length ∧ LeS σ σ') (fun k => L.length - k) 0 ⟨Nat.zero_le _, inferInstance⟩ (sub_int rfl (by simp [SW]) (sub_int rfl (by simp) (sub_cons rfl sub_nil))) ?_
  rintro k σ' ⟨hk, hg⟩
  have := hg.grow
  have hcl := SW_le L k
  repeat' (first
    | refine wl_pop rfl (pc_indexRow rfl rfl inferInstance inferInstance inferInstance (by omega)) ?_
    | refine wl_pop rfl (pc_lenRow rfl inferInstance inferInstance) ?_
    | refine wp_seqA ?_
    | refine wp_region_seq ?_
    | refine thru_seq_next ?_
    | refine thru_seq ?_
    | refine exit_here ?_
    | refine wp_skipA ?_
    | refine wp_retA ?_
    | refine wp_exitA ?_
    | refine wp_blockA ?_
    | refine wl_nil ?_
    | refine wl_pop rfl (po_move rfl) ?_
    | refine wl_pop rfl (po_assign rfl) ?_
    | refine wl_pop rfl (po_binOp rfl rfl rfl) ?_
    | refine wl_pop rfl (po_fieldAddr rfl inferInstance) ?_
    | refine wp_condP rfl (fun _ => ?_) (fun _ => ?_)
    | refine at_ret (res1 rfl rfl) ?_
    | fail)
  rotate_left
  · obtain rfl : k = L.length := by omega
    rw [List.take_length]
    exact ret_ inferInstance rfl
  have hk' : k < L.length := by omega
  have hkx : k < xs.length := by omega
  have hLk : L[k]? = some L[k] := List.getElem?_eq_getElem hk'
  have hct := SW_take hLk
  have hcl1 := SW_le L (k + 1)
  have hm := mks_get L a k _ hLk
  obtain ⟨e1, e2, e3, r⟩ := hs.at (k := k) (by omega)
  have hm' : (mks a L).getD k (0, nilT) = (a + (SW (L.take k) : Int), .node (a + (SW (L.take k) : Int) + 1) (a + (SW (L.take k) : Int) + 2) (Tm.marks (a + (SW (L.take k) : Int) + 3) L[k].2.ps)) := by rw [List.getD_eq_getElem?_getD, hm]; rfl
  rw [hm'] at e1 e2 e3 r
  simp only [Tm.op, Tm.n, Tm.ps] at e1 e2 e3 r
  generalize hA : a + (SW (L.take k) : Int) = A at *
  have hat := at_row hu hkx
  have henc : (Enc.enc (xs.getD k Enc.dflt) : List AV) = [I (xs.getD k Enc.dflt).act, I (xs.getD k Enc.dflt).op, I (xs.getD k Enc.dflt).n, (xs.getD k Enc.dflt).s] := rfl
  rw [henc, e1, e2, e3] at hat
  have hat' : At σ' u.id (u.off + k * 4) 4 [I A, I (A + 1), I (A + 2), (xs.getD k Enc.dflt).s] := hat.grow hg
  have hok : One (xs.getD k Enc.dflt).s := ⟨(xs.getD k Enc.dflt).one⟩
  have hat0 : At σ' u.id (u.off + k * 4 + 0) 1 [I A] := at_sub hat' rfl
  have hat1 : At σ' u.id (u.off + k * 4 + 1 + 0) 1 [I (A + 1)] := at_sub hat' (j := 1) rfl
  have hat2 : At σ' u.id (u.off + k * 4 + 1 + 1) 1 [I (A + 2)] := at_sub hat' (j := 2) rfl
  have hat3 : At σ' u.id (u.off + k * 4 + 1 + 2) 1 [(xs.getD k Enc.dflt).s] := at_sub hat' (j := 3) rfl
  have e3' : A + 1 + 1 + 1 = A + 3 := by omega
  have hrt : RTs σ' (xs.getD k Enc.dflt).s (Tm.marks (A + 1 + 1 + 1) L[k].2.ps) := by
    rw [e3']
    exact ⟨(r.les hg).rep.mono (fun _ _ _ h => h) (fun _ _ => trivial)⟩
  repeat' (first
    | (refine wc_callR rfl inferInstance rfl (c_heldTermS L[k].2 (A + 1 + 1 + 1) _ _ (by omega) (by omega)) rfl ?_; intro _ _)
    | refine wl_pop rfl (pc_indexRow rfl rfl inferInstance inferInstance inferInstance (by omega)) ?_
    | refine wp_seqA ?_
    | refine wp_region_seq ?_
    | refine thru_seq_next ?_
    | refine thru_seq_ret ?_
    | refine thru_block_ret ?_
    | refine thru_block_next ?_
    | refine wp_skipA ?_
    | refine wp_retA ?_
    | refine wl_nil ?_
    | refine wl_pop rfl (po_move rfl) ?_
    | refine wl_pop rfl (po_assign rfl) ?_
    | refine wl_pop rfl (pc_add rfl rfl (by omega) (by omega)) ?_
    | refine wl_pop rfl (po_binOp rfl rfl rfl) ?_
    | refine wl_pop rfl (po_fieldAddr rfl inferInstance) ?_
    | refine wc_load1 rfl inferInstance inferInstance rfl ?_
    | refine wp_condP rfl (fun _ => ?_) (fun _ => ?_)
    | refine wp_condNP rfl (fun _ => ?_) (fun _ => ?_)
    | refine at_ret (res1 rfl rfl) ?_
    | fail)
  all_goals first
    | (exfalso; first | contradiction | omega)
    | skip
  refine ⟨k + 1, by omega, ⟨hk', inferInstance⟩, sub_int rfl (by rw [hct]; push_cast; omega) (sub_int rfl (by simp) (sub_cons rfl sub_nil))⟩
theorem c_markStepS {F : Nat → Prop} {u : AV} (L : List Stp) (a : Int) (σ : Store) (hb : L.length ≤ 4294967296) (h : SDk σ F u L) (ha : 0 ≤ a) (ha2 : a + (SW L : Int) ≤ 1000000000000) :
    ∃ F' : Nat → Prop, (∀ i, F' i → F i ∧ ∃ o, σ[i]? = some o ∧ o.kind = .own) ∧ ACall Try.prog base F_laws_markStepS [u, I a] σ F' (RetMarkS σ F F' u a L) := by
  rcases h with ⟨rfl, rfl⟩ | ⟨id, l₀, Fs0, rfl, h2, h3, h4, h5', h6', h7'⟩
  · refine ⟨fun _ => False, fun i hi => hi.elim, ?_⟩
    refine acall2 fun_laws_markStepS rfl tmps_laws_markStepS rfl fun N B w₀ ρ₀ => ?_
    repeat' (first
      | refine wp_seqA ?_
      | refine wp_region_seq ?_
      | refine thru_seq_next ?_
      | refine wp_blockA ?_
      | refine wl_nil ?_
      | refine wl_pop rfl (po_assign rfl) ?_
      | fail)
    refine wc_loop [(0, _)] (fun _ : Unit => [(1, I a), (5, I 0)]) (fun _ σ' => σ' = σ) (fun _ => 0) () rfl (sub_cons rfl (sub_cons rfl (sub_cons rfl sub_nil))) ?_
    rintro _ σ' rfl
    repeat' (first
      | refine wl_pop rfl (po_len_lit rfl Un.eq) ?_
      | refine wp_seqA ?_
      | refine wp_region_seq ?_
      | refine thru_seq_next ?_
      | refine thru_seq ?_
      | refine exit_here ?_
      | refine wp_retA ?_
      | refine wp_exitA ?_
      | refine wl_nil ?_
      | refine wl_pop rfl (po_move rfl) ?_
      | refine wl_pop rfl (po_assign rfl) ?_
      | refine wl_pop rfl (po_binOp rfl rfl rfl) ?_
      | refine wp_condF rfl ?_
      | refine at_ret (res1 rfl rfl) ?_
      | fail)
    exact ⟨by simp [SW], .inl ⟨rfl, rfl⟩, fun _ _ _ h => h⟩
  · obtain ⟨Fs, h5, hown, h6, h7⟩ : ∃ Fs : Nat → Nat → Prop, (∀ k, k < L.length → ∀ i, Fs k i → F i) ∧ (∀ k, k < L.length → ∀ i, Fs k i → ∃ l, Has σ i ⟨.own, 3, l, []⟩) ∧ (∀ j j' i, j < L.length → j' < L.length → Fs j i → Fs j' i → j = j') ∧
        ∀ (j : Nat) (x : StC) (y : Stp), l₀[j]? = some x → L[j]? = some y → x.act = y.1 ∧ x.op = y.2.op ∧ x.n = y.2.n ∧ RepD σ (Fs j) x.s y.2.ps :=
      ⟨fun j i => Fs0 j i ∧ ∃ l, Has σ i ⟨.own, 3, l, []⟩, fun k hk i hi => h5' k hk i hi.1, fun k hk i hi => hi.2, fun j j' i hj hj' p q => h6' j j' i hj hj' p.1 q.1, fun j x y hx hy => by
        obtain ⟨a1, a2, a3, a4⟩ := h7' j x y hx hy
        exact ⟨a1, a2, a3, a4.own⟩⟩
    have hidne : ∀ k, k < L.length → ∀ i, Fs k i → i ≠ id := fun k hk i hi e => by
      obtain ⟨l', hl'⟩ := hown k hk i hi
      subst e
      have := h3.get.symm.trans hl'.get
      simp at this
      exact absurd this.1 (by decide)
    refine ⟨fun i => i = id ∨ ∃ k, k < L.length ∧ Fs k i, ?_, ?_⟩
    · rintro i (rfl | ⟨k, hk, hi⟩)
      · exact ⟨h2, _, h3.get, rfl⟩
      · obtain ⟨l', hl'⟩ := hown k hk i hi
        exact ⟨h5 k hk i hi, _, hl'.get, rfl⟩
    generalize hF' : (fun i => i = id ∨ ∃ k, k < L.length ∧ Fs k i) = F'
    have hFi : ∀ i, F' i ↔ i = id ∨ ∃ k, k < L.length ∧ Fs k i := fun i => by rw [← hF']
    refine acall2 fun_laws_markStepS rfl tmps_laws_markStepS rfl fun N B w₀ ρ₀ => ?_
    repeat' (first
      | refine wp_seqA ?_
      | refine wp_region_seq ?_
      | refine thru_seq_next ?_
      | refine wp_blockA ?_
      | refine wl_nil ?_
      | refine wl_pop rfl (po_assign rfl) ?_
      | fail)
    refine wc_loop [(0, .sl id 0 L.length)] (fun k : Nat => [(1, I (a + (SW (L.take k) : Int))), (5, I k)]) (fun k σ' => k ≤ L.length ∧ (∃ l, Has σ' id (Row l) ∧ l.length = L.length ∧
        (∀ (j : Nat) (x : StC) (y : Stp), k ≤ j → l[j]? = some x → L[j]? = some y → x.act = y.1 ∧ x.op = y.2.op ∧ x.n = y.2.n ∧ RepD σ' (Fs j) x.s y.2.ps) ∧
        (∀ (j : Nat) (x : StC) (y : Stp), j < k → l[j]? = some x → (mks a L)[j]? = some y → x.act = y.1 ∧ x.op = y.2.op ∧ x.n = y.2.n ∧ RepD σ' (Fs j) x.s y.2.ps)) ∧
        (∀ k, k < L.length → ∀ i, Fs k i → ∃ l, Has σ' i ⟨.own, 3, l, []⟩) ∧ ∀ (j : Nat) (o : Ob), ¬ F' j → σ[j]? = some o → σ'[j]? = some o)
      (fun k => L.length - k) 0 ⟨Nat.zero_le _, ⟨l₀, h3, h4, fun j x y _ hx hy => h7 j x y hx hy, fun j x y hj => absurd hj (by omega)⟩, hown, fun _ _ _ h => h⟩ (sub_int rfl (by simp [SW]) (sub_int rfl (by simp) (sub_cons rfl sub_nil))) ?_
    rintro k σ' ⟨hk, ⟨l, hl, hlen, hlo, hhi⟩, hFo, hkeep⟩
    have hcl := SW_le L k
    repeat' (first
      | refine wp_seqA ?_
      | refine wp_region_seq ?_
      | refine thru_seq_next ?_
      | refine thru_seq ?_
      | refine exit_here ?_
      | refine wp_skipA ?_
      | refine wp_retA ?_
      | refine wp_exitA ?_
      | refine wp_blockA ?_
      | refine wl_nil ?_
      | refine wl_pop rfl (po_move rfl) ?_
      | refine wl_pop rfl (po_assign rfl) ?_
      | refine wl_pop rfl (po_binOp rfl rfl rfl) ?_
      | refine wl_pop rfl (pc_indexAddr rfl rfl inferInstance inferInstance (by omega)) ?_
      | refine wl_pop rfl (po_fieldAddr rfl inferInstance) ?_
      | refine wl_pop rfl (po_len (ri := 0) rfl Un.eq) ?_
      | refine wp_condP rfl (fun _ => ?_) (fun _ => ?_)
      | refine at_ret (res1 rfl rfl) ?_
      | fail)
    rotate_left
    · obtain rfl : k = L.length := by omega
      rw [List.take_length]
      exact ⟨rfl, .inr ⟨id, l, Fs, by rw [mks_len], h2, hl, by rw [mks_len]; exact hlen, by rw [mks_len]; exact h5, by rw [mks_len]; exact h6, fun j x y hx hy => hhi j x y (by have := get_lt hy; rwa [mks_len] at this) hx hy⟩, hkeep⟩
    have hk' : k < L.length := by omega
    have hkl : k < l.length := by omega
    have hLk : L[k]? = some L[k] := List.getElem?_eq_getElem hk'
    have hct := SW_take hLk
    have hcl1 := SW_le L (k + 1)
    have hm := mks_get L a k _ hLk
    have hmay : False ∨ F' id := .inr ((hFi id).mpr (.inl rfl))
    have hlk : l[k]? = some (l.getD k Enc.dflt) := by simp [List.getD_eq_getElem?_getD, hkl]
    obtain ⟨q1, q2, q3, q4⟩ := hlo k _ _ (Nat.le_refl _) hlk hLk
    generalize hA : a + (SW (L.take k) : Int) = A at *
    generalize hX : l.getD k Enc.dflt = X at *
    repeat' (first
      | (refine wc_stSt0 rfl rfl inferInstance inferInstance (by first | omega | (simp only [List.length_set]; omega)) (.inl ((hFi id).mpr (.inl rfl))) ?_; intro _ _)
      | (refine wc_stSt1 rfl rfl inferInstance inferInstance (by first | omega | (simp only [List.length_set]; omega)) (.inl ((hFi id).mpr (.inl rfl))) ?_; intro _ _)
      | (refine wc_stSt2 rfl rfl inferInstance inferInstance (by first | omega | (simp only [List.length_set]; omega)) (.inl ((hFi id).mpr (.inl rfl))) ?_; intro _ _)
      | refine wp_seqA ?_
      | refine wp_region_seq ?_
      | refine thru_seq_next ?_
      | refine wl_nil ?_
      | refine wl_pop rfl (po_move rfl) ?_
      | refine wl_pop rfl (po_assign rfl) ?_
      | refine wl_pop rfl (pc_add rfl rfl (by omega) (by omega)) ?_
      | refine wl_pop rfl (pc_indexAddr rfl rfl inferInstance inferInstance (by omega)) ?_
      | refine wl_pop rfl (po_fieldAddr rfl inferInstance) ?_
      | fail)
    rename_i σ1 u1 σ2 u2 σ3 u3
    have hg1 : ∀ y : StC, (l.set k y).getD k Enc.dflt = y := fun y => getD_set_eq hkl
    have hl3 : Has σ3 id (Row (l.set k ⟨A, A + 1, A + 1 + 1, X.s, X.one⟩)) := by
      have h := instHasUpd (g := u3)
      simp only [List.set_set, hg1, hX] at h
      exact h
    have hne : ∀ (i : Nat) (o : Ob), i ≠ id → σ'[i]? = some o → σ3[i]? = some o := fun i o hi ho => by
      rw [u3.eq, List.getElem?_set_ne (Ne.symm hi), u2.eq, List.getElem?_set_ne (Ne.symm hi), u1.eq, List.getElem?_set_ne (Ne.symm hi)]; exact ho
    have hat : At σ3 id (0 + k * 4 + 1 + 2) 1 [X.s] := by
      have h := at_own hl3 (k := k) (by simp; omega)
      rw [hg1] at h
      exact at_sub h (j := 3) rfl
    have hone : One X.s := ⟨X.one⟩
    have hown3 : ∀ i, Fs k i → ∃ l, Has σ3 i ⟨.own, 3, l, []⟩ := fun i hi => by
      obtain ⟨l', h⟩ := hFo k hk' i hi
      exact ⟨l', ⟨hne i _ (hidne k hk' i hi) h.get⟩⟩
    have hrep3 : RepD σ3 (Fs k) X.s L[k].2.ps := q4.mono (fun i o hi ho => hne i o (hidne k hk' i hi) ho) (fun _ h => h)
    clear u1 u2 u3
    repeat' (first
      | refine wl_pop rfl (po_move rfl) ?_
      | refine wc_load1 rfl inferInstance inferInstance rfl ?_
      | fail)
    refine wl_call rfl inferInstance rfl (c_markTermS_all L[k].2 (Fs k) X.s _ σ3 hown3 hrep3 (by omega) (by omega)) (fun i hi => ⟨.inl ((hFi i).mpr (.inr ⟨k, hk', hi⟩)), by obtain ⟨l', h⟩ := hown3 i hi; exact ⟨_, h.get, .inl rfl⟩⟩) rfl ?_
    rintro _ σ4 ⟨rfl, hr4, ho4, hk4⟩
    repeat' (first
      | refine wp_region_seq ?_
      | refine thru_seq_next ?_
      | refine thru_block_next ?_
      | refine wl_nil ?_
      | refine wl_pop rfl (po_move rfl) ?_
      | refine wl_pop rfl (po_assign rfl) ?_
      | refine wl_pop rfl (pc_add rfl rfl (by omega) (by omega)) ?_
      | fail)
    refine ⟨k + 1, by omega, ⟨hk', ⟨l.set k ⟨A, A + 1, A + 1 + 1, X.s, X.one⟩, ⟨hk4 _ _ (fun hi => hidne k hk' id hi rfl) hl3.get⟩, by simp [hlen], fun j x y hj hx hy => ?_, fun j x y hj hx hy => ?_⟩, fun k2 hk2 i hi => ?_, fun j o hj ho => ?_⟩, sub_int rfl (by rw [hct]; push_cast; omega) (sub_int rfl (by simp) (sub_cons rfl sub_nil))⟩
    · rw [List.getElem?_set_ne (by omega)] at hx
      obtain ⟨a1, a2, a3, a4⟩ := hlo j x y (by omega) hx hy
      have hjl := get_lt hy
      exact ⟨a1, a2, a3, a4.mono (fun i o hi ho => hk4 i o (fun h => by have := h6 j k i hjl hk' hi h; omega) (hne i o (hidne j hjl i hi) ho)) (fun _ h => h)⟩
    · by_cases e : j = k
      · subst e
        rw [List.getElem?_set_self hkl] at hx
        cases hx
        rw [hm] at hy
        cases hy
        refine ⟨rfl, rfl, by show A + 1 + 1 = A + 2; omega, ?_⟩
        show RepD σ4 (Fs j) X.s (Tm.marks (A + 3) L[j].2.ps)
        rw [show A + 3 = A + 1 + 1 + 1 by omega]; exact hr4
      · rw [List.getElem?_set_ne (by omega)] at hx
        have hjl : j < L.length := by omega
        obtain ⟨a1, a2, a3, a4⟩ := hhi j x y (by omega) hx hy
        exact ⟨a1, a2, a3, a4.mono (fun i o hi ho => hk4 i o (fun h => e (h6 j k i hjl hk' hi h)) (hne i o (hidne j hjl i hi) ho)) (fun _ h => h)⟩
    · by_cases e : k2 = k
      · subst e; exact ho4 i hi
      · obtain ⟨l', h⟩ := hFo k2 hk2 i hi
        exact ⟨l', ⟨hk4 i _ (fun h2 => e (h6 k2 k i hk2 hk' hi h2)) (hne i _ (hidne k2 hk2 i hi) h.get)⟩⟩
    · have h1 : j ≠ id := fun e => hj ((hFi j).mpr (.inl e))
      exact hk4 j o (fun h2 => hj ((hFi j).mpr (.inr ⟨k, hk', h2⟩))) (hne j o h1 (hkeep j o hj ho))
end
section
variable {E : Env} {ops : Array Oper} {l : List Oper} {Q : Exit → Slots → Store → Prop} {S : Slots} {σ : Store} {d : Option Tmp} {ty : TypeId} {pos : String} {af : Array Edge} {x : Operand} {base : Nat}
theorem wc_callMkS {args : Array Operand} {ats : Array TypeId} {rs caps : List AV} {F : Nat → Prop} {u : AV} {a : Int} {L : List Stp} (σa σb : Store) (hP : E.P = Try.prog) (hf : S.ev x = some (.fn F_laws_markStepS caps)) (hc : Callable E.P F_laws_markStepS) (hargs : evs S args.toList = some rs) (hr : rs ++ caps = [u, I a])
    (hb : L.length ≤ 4294967296) (h : SDk σ F u L) (ha : 0 ≤ a) (ha2 : a + (SW L : Int) ≤ 1000000000000) (hF : ∀ j, F j → σa.length ≤ j ∧ j < σb.length) (hm : ∀ i, F i → E.may i) (hd : okd E d = true)
    (k : ∀ σ', Mk σ σa σb σ' → SDk σ' F u (mks a L) → WL E ops l Q (S.put d (I (a + (SW L : Int)))) σ') :
    WL E ops (⟨d, .call ⟨.value x, args, ats⟩, ty, pos, af, none⟩ :: l) Q S σ := by
  obtain ⟨F', h1, h2⟩ := c_markStepS (base := E.base) L a σ hb h ha ha2
  rw [← hr, ← hP] at h2
  refine wl_call hf hc hargs h2 (fun i hi => ⟨hm i (h1 i hi).1, by obtain ⟨o, ho, hk⟩ := (h1 i hi).2; exact ⟨o, ho, .inl hk⟩⟩) hd fun r σ' hK => ?_
  obtain ⟨e, h3, h4⟩ := hK
  subst e
  exact k σ' ⟨fun j o hj => h4 j o (fun hi => by have := hF j (h1 j hi).1; omega)⟩ h3
end
end Go.Proofs.Ytpkgcdpebomalaa.Asl
