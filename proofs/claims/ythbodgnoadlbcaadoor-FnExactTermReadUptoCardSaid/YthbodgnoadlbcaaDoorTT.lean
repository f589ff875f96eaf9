/- Several texts in one. -/
import Derived.Test.YthbodgnoadlbcaaDoorBB
import Derived.Test.YthbodgnoadlbcaaDoorF
/- Trees: how terms lie in the store. -/
namespace Go.Proofs.YthbodgnoadlbcaaDoor.Asl
open Go.RowKit
set_option linter.unusedVariables false

/-- A tree: a kind, a number, and parts. -/
inductive Tm where
  | node (op n : Int) (ps : List Tm)
namespace Tm
def op : Tm → Int | node o _ _ => o
def n : Tm → Int | node _ n _ => n
def ps : Tm → List Tm | node _ _ ps => ps
theorem ind {P : Tm → Prop} (h : ∀ op n ps, (∀ p ∈ ps, P p) → P (node op n ps)) : ∀ t, P t
  | node op n ps => h op n ps fun p hp => ind h p
termination_by t => SizeOf.sizeOf t
decreasing_by
  have := List.sizeOf_lt_of_mem hp
  simp only [node.sizeOf_spec]; omega
end Tm

/-- A list of terms lies in the store, in objects of which F tells. -/
inductive RepTs (σ : Store) (F : Nat → Prop) : AV → List Tm → Prop
  | nil {a : Option Addr} {c : Nat} : RepTs σ F (.lit (.slice a 0 c)) []
  | row {id off : Nat} {o : Ob} {ps : List Tm} (ss : List AV) : F id → σ[id]? = some o → o.readable → o.esz = 3 → ps.length ≤ 4294967296 → ss.length = ps.length →
      (∀ (k : Nat) (t : Tm) (s : AV), ps[k]? = some t → ss[k]? = some s → cut o (off + k * 3) 3 = [I t.op, I t.n, s]) → (∀ (k : Nat) (t : Tm) (s : AV), ps[k]? = some t → ss[k]? = some s → RepTs σ F s t.ps) → RepTs σ F (.sl id off ps.length) ps

theorem RepTs.mono {σ σ' : Store} {F F' : Nat → Prop} (hk : ∀ (i : Nat) (o : Ob), F i → σ[i]? = some o → σ'[i]? = some o) (hF : ∀ i, F i → F' i) {s : AV} {ps : List Tm} (h : RepTs σ F s ps) : RepTs σ' F' s ps := by
  induction h with
  | nil => exact .nil
  | row ss h1 h2 h3 h4 h45 h5 h6 h7 ih => exact .row ss (hF _ h1) (hk _ _ h1 h2) h3 h4 h45 h5 h6 fun k t s ht hs => ih k t s ht hs

/-- A list of terms lies in the store. -/
class RTs (σ : Store) (s : AV) (ps : outParam (List Tm)) : Prop where
  rep : RepTs σ (fun _ => True) s ps
/-- A list of terms lies in objects that are new since a store. -/
class RTsN (σ₀ : outParam Store) (σ : Store) (s : AV) (ps : outParam (List Tm)) : Prop where
  rep : RepTs σ (fun i => σ₀.length ≤ i) s ps
instance instRTsGrow {σ σ' : Store} {s : AV} {ps : List Tm} [g : Grow σ σ'] [h : RTs σ s ps] : RTs σ' s ps := ⟨h.rep.mono (fun i o _ => g.keep i o) (fun _ _ => trivial)⟩
instance instRTsUpd {σa σ σ' : Store} {i : Nat} {o' : Ob} {s : AV} {ps : List Tm} [g : Upd σ i o' σ'] [n : New σa i] [k : LeS σa σ] [h : RTs σa s ps] : RTs σ' s ps :=
  ⟨h.rep.mono (fun j o _ ho => (instLeUpd (h := k) (k := instLeRefl) (n := n) (g := g)).keep j o ho) (fun _ _ => trivial)⟩
instance instRTsNGrow {σ₀ σ σ' : Store} {s : AV} {ps : List Tm} [g : Grow σ σ'] [h : RTsN σ₀ σ s ps] : RTsN σ₀ σ' s ps := ⟨h.rep.mono (fun i o _ => g.keep i o) (fun _ h => h)⟩
instance instRTsNUpd {σ₀ σ σ' : Store} {i : Nat} {o o' : Ob} {s : AV} {ps : List Tm} [g : Upd σ i o' σ'] [k : Has σ₀ i o] [h : RTsN σ₀ σ s ps] : RTsN σ₀ σ' s ps :=
  ⟨h.rep.mono (fun j o hj ho => by have := k.lt; rw [g.eq, List.getElem?_set_ne (by omega)]; exact ho) (fun _ h => h)⟩
theorem RTsN.rts {σ₀ σ : Store} {s : AV} {ps : List Tm} (h : RTsN σ₀ σ s ps) : RTs σ s ps := ⟨h.rep.mono (fun _ _ _ h => h) (fun _ _ => trivial)⟩
instance instRTsN {σ₀ σ : Store} {s : AV} {ps : List Tm} [h : RTsN σ₀ σ s ps] : RTs σ s ps := h.rts
theorem RTs.bound {σ : Store} {s : AV} {ps : List Tm} (h : RTs σ s ps) : ps.length ≤ 4294967296 := by cases h.rep <;> simp_all
theorem RTs.one {σ : Store} {s : AV} {ps : List Tm} (h : RTs σ s ps) : One s := by cases h.rep <;> exact ⟨rfl⟩
instance instRTsNil {σ : Store} : RTs σ nilS [] := ⟨.nil⟩

section
variable {E : Env} {ops : Array Oper} {l : List Oper} {Q : Exit → Slots → Store → Prop} {S : Slots} {σ : Store} {d : Option Tmp} {ty : TypeId} {pos : String} {af : Array Edge} {g : Option (Nat × Bool)} {n0 : Nat} {x y : Operand}
theorem po_len_lit {t e : TypeId} {a : Option Addr} {n c : Nat} (hx : S.ev x = some (.lit (.slice a n c))) (ht : E.P.underlying t = some (.slice e)) :
    PO E S σ n0 ⟨d, .call ⟨.builtin .len, #[x], #[t]⟩, ty, pos, af, g⟩ (.lit (.int .i64 (n : Int))) := by
  intro A w ρ W0 hw hag hn
  have e1 := R_lit (hw.ev hx)
  refine ⟨_, .lit _, fun w' _ => ?_⟩
  simp [execOp, resolve, invoke, builtin, Builtin.len_, e1, underlying, ht, goInt]
/-- How many parts there are. -/
theorem pc_lenT {t e : TypeId} {s : AV} {ps : List Tm} (hx : S.ev x = some s) (h : RTs σ s ps) (ht : Un E.P t (.slice e)) :
    PO E S σ n0 ⟨d, .call ⟨.builtin .len, #[x], #[t]⟩, ty, pos, af, g⟩ (I ps.length) := by
  cases h.rep with
  | nil => exact po_len_lit hx ht.eq
  | row => exact po_len (ri := 0) hx ht.eq
end
/-- A part. -/
theorem RTs.part {σ : Store} {s : AV} {ps : List Tm} (h : RTs σ s ps) {k : Nat} (hk : k < ps.length) :
    ∃ id off s', s = .sl id off ps.length ∧ At σ id (off + k * 3) 3 [I ps[k].op, I ps[k].n, s'] ∧ RTs σ s' ps[k].ps := by
  cases h.rep with
  | nil => simp at hk
  | @row id off o _ ss h1 h2 h3 h4 h45 h5 h6 h9 =>
    have h7 := h6 k ps[k] ss[k] (by simp [hk]) (by simp [h5, hk])
    have h8 := h9 k ps[k] ss[k] (by simp [hk]) (by simp [h5, hk])
    exact ⟨id, off, ss[k], rfl, ⟨o, h2, h3, h7, rfl⟩, ⟨h8⟩⟩
/-- A copy: in new objects. -/
def RetTm (σ : Store) (t : Tm) : AV → Store → Prop := fun r σ' => ∃ s, r = .agg [I t.op, I t.n, s] ∧ RTsN σ σ' s t.ps ∧ Grow σ σ'
def RetTms (σ : Store) (ps : List Tm) : AV → Store → Prop := fun r σ' => RTsN σ σ' r ps ∧ Grow σ σ'
theorem RTsN.down {σ σ₁ σ' : Store} {ps : List Tm} {s : AV} (h : RTsN σ₁ σ' s ps) (k : LeS σ σ₁) : RTsN σ σ' s ps := ⟨h.rep.mono (fun _ _ _ h => h) (fun _ hi => Nat.le_trans k.len hi)⟩
theorem Upd.len {σ σ' : Store} {i : Nat} {o : Ob} (h : Upd σ i o σ') : σ'.length = σ.length := by rw [h.eq]; simp

end Go.Proofs.YthbodgnoadlbcaaDoor.Asl

/- Counting terms. -/
namespace Go.Proofs.YthbodgnoadlbcaaDoor.Asl
open Go.RowKit
set_option linter.unusedVariables false
attribute [local irreducible] WP WL andThen inBlock noGoto atEnd ACall DA PO
set_option maxHeartbeats 4000000

end Go.Proofs.YthbodgnoadlbcaaDoor.Asl

/- Terms compared and copied. -/
namespace Go.Proofs.YthbodgnoadlbcaaDoor.Asl
open Go.RowKit
set_option linter.unusedVariables false
attribute [local irreducible] WP WL andThen inBlock noGoto atEnd ACall DA PO
set_option maxHeartbeats 4000000

theorem c_eqTerm_of {base : Nat} {op n op' n' : Int} {ps ps' : List Tm} (h : ∀ (σ : Store) (s s' : AV) [RTs σ s ps] [RTs σ s' ps'], ACall Tryd.prog base F_laws_eqTermS [s, s'] σ (fun _ => False) (Ret σ (Bo (eqB ps ps'))))
    (σ : Store) (s s' : AV) [hs : RTs σ s ps] [hs' : RTs σ s' ps'] : ACall Tryd.prog base F_laws_eqTerm [.agg [I op, I n, s], .agg [I op', I n', s']] σ (fun _ => False) (Ret σ (Bo (eqB (Tm.node op n ps) (.node op' n' ps')))) := by
  have := hs.one
  have := hs'.one
  refine acall2 fun_laws_eqTerm rfl tmps_laws_eqTerm rfl fun N B w₀ ρ₀ => ?_
  repeat' (first
    | (refine wc_callR rfl inferInstance rfl (h _ _ _) rfl ?_; intro _ _)
    | refine wp_seqA ?_
    | refine wp_region_seq ?_
    | refine thru_seq_next ?_
    | refine thru_seq_ret ?_
    | refine wp_skipA ?_
    | refine wp_retA ?_
    | refine wl_nil ?_
    | refine wl_pop rfl (po_assign rfl) ?_
    | refine wl_pop rfl (po_binOp rfl rfl rfl) ?_
    | refine wl_pop rfl (po_fieldAddr rfl inferInstance) ?_
    | refine wc_load1 rfl inferInstance (at_has (.inl rfl) rfl rfl) rfl ?_
    | refine wl_pop rfl (po_not rfl) ?_
    | (refine wc_boxA rfl inferInstance rfl ?_; intro _ _ _ _ _)
    | refine wp_condNP rfl (fun _ => ?_) (fun _ => ?_)
    | refine wp_condA rfl (fun _ => ?_) (fun _ => ?_)
    | refine at_ret (res1 rfl rfl) ?_
    | fail)
  all_goals refine ret_ inferInstance (congrArg Bo ?_)
  all_goals simp_all [eqB]

theorem c_eqTermS_of {base : Nat} {ps ps' : List Tm} (h : ∀ p ∈ ps, ∀ (p' : Tm) (σ : Store) (s s' : AV) [RTs σ s p.ps] [RTs σ s' p'.ps], ACall Tryd.prog base F_laws_eqTerm [.agg [I p.op, I p.n, s], .agg [I p'.op, I p'.n, s']] σ (fun _ => False) (Ret σ (Bo (eqB p p'))))
    (σ : Store) (s s' : AV) [hs : RTs σ s ps] [hs' : RTs σ s' ps'] : ACall Tryd.prog base F_laws_eqTermS [s, s'] σ (fun _ => False) (Ret σ (Bo (eqB ps ps'))) := by
  have hb := hs.bound
  have hb' := hs'.bound
  refine acall2 fun_laws_eqTermS rfl tmps_laws_eqTermS rfl fun N B w₀ ρ₀ => ?_
  repeat' (first
    | refine wp_seqA ?_
    | refine wp_region_seq ?_
    | refine thru_seq_next ?_
    | refine thru_seq_ret ?_
    | refine wp_skipA ?_
    | refine wp_retA ?_
    | refine wp_blockA ?_
    | refine wl_nil ?_
    | refine wl_pop rfl (po_move rfl) ?_
    | refine wl_pop rfl (po_assign rfl) ?_
    | refine wl_pop rfl (po_binOp rfl rfl rfl) ?_
    | refine wp_condNP rfl (fun _ => ?_) (fun _ => ?_)
    | refine wl_pop rfl (pc_lenT rfl inferInstance inferInstance) ?_
    | refine at_ret (res1 rfl rfl) ?_
    | fail)
  · refine ret_ inferInstance (congrArg Bo (eqB_ne ?_).symm)
    rintro rfl; simp_all
  rename_i hl
  have hl' : ps.length = ps'.length := by omega
  refine wc_loop [(0, s), (1, s')] (fun k : Nat => [(5, I k)]) (fun k σ' => k ≤ ps.length ∧ ps.take k = ps'.take k ∧ Grow σ σ') (fun k => ps.length - k) 0 ⟨Nat.zero_le _, rfl, LeS.grow inferInstance⟩ (sub_int rfl (by simp) (sub_cons rfl (sub_cons rfl sub_nil))) ?_
  rintro k σ' ⟨hk, htk, hg⟩
  repeat' (first
    | refine wp_seqA ?_
    | refine wp_region_seq ?_
    | refine thru_seq_next ?_
    | refine thru_seq ?_
    | refine exit_here ?_
    | refine wp_skipA ?_
    | refine wp_retA ?_
    | refine wp_exitA ?_
    | refine wp_blockA ?_
    | refine wl_nil ?_
    | refine wl_pop rfl (po_move rfl) ?_
    | refine wl_pop rfl (po_assign rfl) ?_
    | refine wl_pop rfl (po_binOp rfl rfl rfl) ?_
    | refine wp_condP rfl (fun _ => ?_) (fun _ => ?_)
    | refine wl_pop rfl (pc_lenT rfl inferInstance inferInstance) ?_
    | refine at_ret (res1 rfl rfl) ?_
    | fail)
  rotate_left
  · refine ret_ inferInstance (congrArg Bo ?_)
    have : k = ps.length := by omega
    subst this
    rw [List.take_length, List.take_of_length_le (by omega)] at htk
    rw [htk, eqB_self]
  rename_i hk1
  have hk' : k < ps.length := by omega
  have hk2 : k < ps'.length := by omega
  obtain ⟨id, off, u, rfl, hat, hrs⟩ := (inferInstance : RTs σ' s ps).part hk'
  obtain ⟨id', off', u', rfl, hat', hrs'⟩ := (inferInstance : RTs σ' s' ps').part hk2
  repeat' (first
    | fail)
  refine wc_drawn [] mixed_ rfl ?_
  refine da_takeC 0 rfl rfl (by kernel_rfl) (by first | exact po_move rfl | fail) ?_
  refine da_takeC 1 rfl rfl (by kernel_rfl) (by first | exact po_move rfl | fail) ?_
  refine da_takeC 2 rfl rfl (by kernel_rfl) (by first | exact pc_indexAddr rfl rfl inferInstance inferInstance (by omega) | fail) ?_
  refine da_takeC 3 rfl rfl (by kernel_rfl) (by first | exact pc_loadnL rfl inferInstance inferInstance inferInstance | fail) ?_
  refine da_takeC 4 rfl rfl (by kernel_rfl) (by first | exact po_move rfl | fail) ?_
  refine da_takeC 5 rfl rfl (by kernel_rfl) (by first | exact po_move rfl | fail) ?_
  refine da_takeC 6 rfl rfl (by kernel_rfl) (by first | exact pc_indexAddr rfl rfl inferInstance inferInstance (by omega) | fail) ?_
  refine da_takeC 7 rfl rfl (by kernel_rfl) (by first | exact pc_loadnL rfl inferInstance inferInstance inferInstance | fail) ?_
  refine da_callR 8 rfl (by kernel_rfl) rfl inferInstance rfl (h _ (List.getElem_mem hk') _ _ _ _) rfl ?_
  intro _ _
  refine da_takeC 9 rfl rfl (by kernel_rfl) (by first | exact po_not rfl | fail) ?_
  refine da_done (by kernel_rfl) ?_
  repeat' (first
    | refine wp_seqA ?_
    | refine wp_region_seq ?_
    | refine thru_seq_next ?_
    | refine thru_seq_ret ?_
    | refine thru_block_ret ?_
    | refine thru_block_next ?_
    | refine wp_skipA ?_
    | refine wp_retA ?_
    | refine wl_nil ?_
    | refine wl_pop rfl (po_move rfl) ?_
    | refine wl_pop rfl (po_assign rfl) ?_
    | refine wl_pop rfl (pc_add rfl rfl (by omega) (by omega)) ?_
    | refine wp_condA rfl (fun _ => ?_) (fun _ => ?_)
    | refine at_ret (res1 rfl rfl) ?_
    | fail)
  · refine ret_ inferInstance (congrArg Bo (eqB_ne ?_).symm)
    rintro rfl
    simp_all [eqB]
  · rename_i he
    have he' : ps[k] = ps'[k] := by simpa [eqB] using he
    exact ⟨k + 1, by omega, ⟨hk', by rw [List.take_succ_eq_append_getElem hk', List.take_succ_eq_append_getElem hk2, htk, he'], LeS.grow inferInstance⟩, sub_int rfl (by simp) (sub_cons rfl (sub_cons rfl sub_nil))⟩
theorem c_eqTerm {base : Nat} (t : Tm) : ∀ (t' : Tm) (σ : Store) (s s' : AV) [RTs σ s t.ps] [RTs σ s' t'.ps], ACall Tryd.prog base F_laws_eqTerm [.agg [I t.op, I t.n, s], .agg [I t'.op, I t'.n, s']] σ (fun _ => False) (Ret σ (Bo (eqB t t'))) :=
  Tm.ind (P := fun t => ∀ (t' : Tm) (σ : Store) (s s' : AV) [RTs σ s t.ps] [RTs σ s' t'.ps], ACall Tryd.prog base F_laws_eqTerm [.agg [I t.op, I t.n, s], .agg [I t'.op, I t'.n, s']] σ (fun _ => False) (Ret σ (Bo (eqB t t'))))
    (fun op n ps ih t' => by
      cases t' with
      | node op' n' ps' => exact c_eqTerm_of (c_eqTermS_of ih)) t

end Go.Proofs.YthbodgnoadlbcaaDoor.Asl

/- Which trees are terms. -/
namespace Go.Proofs.YthbodgnoadlbcaaDoor.Asl
open Go.RowKit
set_option linter.unusedVariables false
attribute [local irreducible] WP WL andThen inBlock noGoto atEnd ACall DA PO
set_option maxHeartbeats 4000000

def inB (n lo hi : Int) : Bool := decide (lo ≤ n ∧ n ≤ hi)
def actB (n : Int) : Bool := inB n (-4) 4
def nodeOk (op n : Int) (k : Nat) : Bool :=
  if op = 0 then decide (n = 0 ∧ k = 0) else if op = 1 then actB n && decide (k = 1) else if op = 2 ∨ op = 3 then decide (n = 0 ∧ k = 2)
  else if op = 4 then inB n 0 3 && decide (k = 1) else if op = 5 then inB n 0 2 && decide (k = 0) else false
theorem inB_iff {n a b : Int} : inB n a b = true ↔ a ≤ n ∧ n ≤ b := by simp [inB]
theorem actB_iff {n : Int} : actB n = true ↔ -4 ≤ n ∧ n ≤ 4 := by simp [actB, inB]
theorem nodeOk_iff {op n : Int} {k : Nat} : nodeOk op n k = true ↔ (op = 0 ∧ n = 0 ∧ k = 0) ∨ (op = 1 ∧ (-4 ≤ n ∧ n ≤ 4) ∧ k = 1) ∨ ((op = 2 ∨ op = 3) ∧ n = 0 ∧ k = 2) ∨ (op = 4 ∧ (0 ≤ n ∧ n ≤ 3) ∧ k = 1) ∨ (op = 5 ∧ (0 ≤ n ∧ n ≤ 2) ∧ k = 0) := by
  unfold nodeOk
  split
  · simp; omega
  split
  · simp [actB_iff]; omega
  split
  · simp; omega
  split
  · simp [inB_iff]; omega
  split
  · simp [inB_iff]; omega
  · simp; omega
mutual
def Tm.cnt : Tm → Nat | .node _ _ ps => 1 + Tm.cnts ps
def Tm.cnts : List Tm → Nat | [] => 0 | p :: ps => p.cnt + Tm.cnts ps
end
mutual
def Tm.shape : Tm → Bool | .node op n ps => nodeOk op n ps.length && Tm.shapes ps
def Tm.shapes : List Tm → Bool | [] => true | p :: ps => p.shape && Tm.shapes ps
end
theorem Tm.cnts_append (a b : List Tm) : Tm.cnts (a ++ b) = Tm.cnts a + Tm.cnts b := by
  induction a with
  | nil => simp [Tm.cnts]
  | cons p a ih => simp [Tm.cnts, ih]; omega
theorem Tm.cnts_take {ps : List Tm} {k : Nat} (h : k < ps.length) : Tm.cnts (ps.take (k + 1)) = Tm.cnts (ps.take k) + ps[k].cnt := by
  rw [List.take_succ_eq_append_getElem h, Tm.cnts_append]; simp [Tm.cnts]
theorem Tm.cnts_le {ps : List Tm} (k : Nat) : Tm.cnts (ps.take k) ≤ Tm.cnts ps := by
  have := Tm.cnts_append (ps.take k) (ps.drop k)
  rw [List.take_append_drop] at this; omega
theorem Tm.shapes_eq (ps : List Tm) : Tm.shapes ps = ps.all Tm.shape := by
  induction ps with
  | nil => rfl
  | cons p ps ih => simp [Tm.shapes, ih]
theorem Tm.cnt_pos (t : Tm) : 1 ≤ t.cnt := by cases t; simp [Tm.cnt]

section
variable {base : Nat}
theorem c_ActOk (σ : Store) (a : Int) : ACall Tryd.prog base F_impl_ActOk [I a] σ (fun _ => False) (Ret σ (Bo (actB a))) := by
  refine acall1 fun_impl_ActOk rfl tmps_impl_ActOk rfl fun N B w₀ ρ₀ => ?_
  repeat' (first
    | refine wp_seqA ?_
    | refine wp_region_seq ?_
    | refine thru_seq_next ?_
    | refine wp_retA ?_
    | refine wl_nil ?_
    | refine wl_pop rfl (po_move rfl) ?_
    | refine wl_pop rfl (po_assign rfl) ?_
    | refine wl_pop rfl (po_binOp rfl rfl rfl) ?_
    | refine wl_pop rfl (po_pick rfl rfl) ?_
    | refine wc_guardT_true rfl rfl rfl ?_
    | refine wc_guardF_true rfl rfl rfl rfl ?_
    | refine wc_guardP_true rfl rfl rfl rfl (fun _ => ?_) (fun _ => ?_)
    | refine at_ret (res1 rfl rfl) ?_
    | fail)
  all_goals (refine ret_ inferInstance (congrArg Bo (Bool.eq_iff_iff.mpr ?_)); simp [actB, inB]; try omega)
theorem c_nameOk (σ : Store) (a : Int) : ACall Tryd.prog base F_impl_nameOk [I a] σ (fun _ => False) (Ret σ (Bo (inB a 0 3))) := by
  refine acall1 fun_impl_nameOk rfl tmps_impl_nameOk rfl fun N B w₀ ρ₀ => ?_
  repeat' (first
    | refine wp_seqA ?_
    | refine wp_region_seq ?_
    | refine thru_seq_next ?_
    | refine wp_retA ?_
    | refine wl_nil ?_
    | refine wl_pop rfl (po_move rfl) ?_
    | refine wl_pop rfl (po_assign rfl) ?_
    | refine wl_pop rfl (po_binOp rfl rfl rfl) ?_
    | refine wl_pop rfl (po_pick rfl rfl) ?_
    | refine wc_guardT_true rfl rfl rfl ?_
    | refine wc_guardF_true rfl rfl rfl rfl ?_
    | refine wc_guardP_true rfl rfl rfl rfl (fun _ => ?_) (fun _ => ?_)
    | refine at_ret (res1 rfl rfl) ?_
    | fail)
  all_goals (refine ret_ inferInstance (congrArg Bo (Bool.eq_iff_iff.mpr ?_)); simp [inB]; try omega)
theorem c_l6In (σ : Store) (a b c : Int) : ACall Tryd.prog base F_spec_l6In [I a, I b, I c] σ (fun _ => False) (Ret σ (Bo (inB a b c))) := by
  refine acall3 fun_spec_l6In rfl tmps_spec_l6In rfl fun N B w₀ ρ₀ => ?_
  repeat' (first
    | refine wp_seqA ?_
    | refine wp_region_seq ?_
    | refine thru_seq_next ?_
    | refine wp_retA ?_
    | refine wl_nil ?_
    | refine wl_pop rfl (po_move rfl) ?_
    | refine wl_pop rfl (po_assign rfl) ?_
    | refine wl_pop rfl (po_binOp rfl rfl rfl) ?_
    | refine wl_pop rfl (po_pick rfl rfl) ?_
    | refine wc_guardT_true rfl rfl rfl ?_
    | refine wc_guardF_true rfl rfl rfl rfl ?_
    | refine wc_guardP_true rfl rfl rfl rfl (fun _ => ?_) (fun _ => ?_)
    | refine at_ret (res1 rfl rfl) ?_
    | fail)
  all_goals (refine ret_ inferInstance (congrArg Bo (Bool.eq_iff_iff.mpr ?_)); simp [inB]; try omega)
theorem c_sActOk (σ : Store) (a : Int) : ACall Tryd.prog base F_spec_ActOk [I a] σ (fun _ => False) (Ret σ (Bo (actB a))) := by
  refine acall1 fun_spec_ActOk rfl tmps_spec_ActOk rfl fun N B w₀ ρ₀ => ?_
  repeat' (first
    | (refine wc_callR rfl inferInstance rfl (c_l6In _ _ _ _) rfl ?_; intro _ _)
    | refine wp_seqA ?_
    | refine wp_region_seq ?_
    | refine thru_seq_next ?_
    | refine wp_retA ?_
    | refine wl_nil ?_
    | refine wl_pop rfl (po_move rfl) ?_
    | refine wl_pop rfl (po_assign rfl) ?_
    | refine at_ret (res1 rfl rfl) ?_
    | exact ret_ inferInstance rfl
    | fail)

/-- Some of the terms are as a function says. -/
theorem c_IndexFunc {ps : List Tm} {f : FuncId} {caps : List AV} (J : Store → Prop) (hJ : ∀ σ σ', Grow σ σ' → J σ → J σ') (g : Tm → Bool) [Callable Tryd.prog f]
    (h : ∀ p ∈ ps, ∀ (σ : Store) (s : AV) [RTs σ s p.ps], J σ → ACall Tryd.prog base f ([.agg [I p.op, I p.n, s]] ++ caps) σ (fun _ => False) (Ret σ (Bo (g p))))
    (σ : Store) (s : AV) [hs : RTs σ s ps] (j0 : J σ) : ACall Tryd.prog base F_slices_IndexFunc_impl_Term_impl_Term [s, .fn f caps] σ (fun _ => False) (fun r σ' => (∃ z, r = I z ∧ decide (z ≥ 0) = ps.any g) ∧ Grow σ σ') := by
  have hb := hs.bound
  refine acall2 fun_slices_IndexFunc_impl_Term_impl_Term rfl tmps_slices_IndexFunc_impl_Term_impl_Term rfl fun N B w₀ ρ₀ => ?_
  repeat' (first
    | refine wp_seqA ?_
    | refine wp_region_seq ?_
    | refine thru_seq_next ?_
    | refine wp_blockA ?_
    | refine wl_nil ?_
    | refine wl_pop rfl (po_move rfl) ?_
    | refine wl_pop rfl (po_assign rfl) ?_
    | refine wl_pop rfl (pc_lenT rfl inferInstance inferInstance) ?_
    | fail)
  refine wc_loop [(0, s), (1, .fn f caps), (7, I ps.length)] (fun k : Nat => [(8, I k)]) (fun k σ' => k ≤ ps.length ∧ (ps.take k).any g = false ∧ Grow σ σ') (fun k => ps.length - k) 0 ⟨Nat.zero_le _, rfl, LeS.grow inferInstance⟩ (sub_int rfl (by simp) (sub_cons rfl (sub_cons rfl (sub_cons rfl sub_nil)))) ?_
  rintro k σ' ⟨hk, hf, hg⟩
  repeat' (first
    | refine wp_seqA ?_
    | refine wp_region_seq ?_
    | refine thru_seq_next ?_
    | refine thru_seq ?_
    | refine exit_here ?_
    | refine wp_skipA ?_
    | refine wp_retA ?_
    | refine wp_exitA ?_
    | refine wp_blockA ?_
    | refine wl_nil ?_
    | refine wl_pop rfl (po_move rfl) ?_
    | refine wl_pop rfl (po_assign rfl) ?_
    | refine wl_pop rfl (po_binOp rfl rfl rfl) ?_
    | refine wp_condP rfl (fun _ => ?_) (fun _ => ?_)
    | refine at_ret (res1 rfl rfl) ?_
    | fail)
  rotate_left
  · have : k = ps.length := by omega
    subst this
    rw [List.take_length] at hf
    exact ⟨⟨_, rfl, by rw [hf]; rfl⟩, hg⟩
  have hk' : k < ps.length := by omega
  obtain ⟨id, off, s', rfl, hat, hrs⟩ := (inferInstance : RTs σ' s ps).part hk'
  repeat' (first
    | (refine wc_callR rfl inferInstance rfl (h _ (List.getElem_mem hk') _ _ (hJ _ _ inferInstance j0)) rfl ?_; intro _ _)
    | refine wp_seqA ?_
    | refine wp_region_seq ?_
    | refine thru_seq_next ?_
    | refine thru_seq_ret ?_
    | refine thru_block_ret ?_
    | refine thru_block_next ?_
    | refine wp_skipA ?_
    | refine wp_retA ?_
    | refine wl_nil ?_
    | refine wl_pop rfl (po_move rfl) ?_
    | refine wl_pop rfl (po_assign rfl) ?_
    | refine wl_pop rfl (pc_add rfl rfl (by omega) (by omega)) ?_
    | refine wl_pop rfl (pc_indexAddr rfl rfl inferInstance inferInstance (by omega)) ?_
    | refine wc_loadn rfl inferInstance inferInstance rfl ?_
    | refine wp_condA rfl (fun _ => ?_) (fun _ => ?_)
    | refine at_ret (res1 rfl rfl) ?_
    | fail)
  · rename_i h1
    exact ⟨⟨_, rfl, by simp; exact ⟨_, List.getElem_mem hk', h1⟩⟩, LeS.grow inferInstance⟩
  · rename_i h1
    exact ⟨k + 1, by omega, ⟨hk', by rw [List.take_succ_eq_append_getElem hk', List.any_append, hf]; simp [h1], LeS.grow inferInstance⟩, sub_int rfl (by simp) (sub_cons rfl (sub_cons rfl (sub_cons rfl sub_nil)))⟩
theorem c_ContainsFunc {ps : List Tm} {f : FuncId} {caps : List AV} (J : Store → Prop) (hJ : ∀ σ σ', Grow σ σ' → J σ → J σ') (g : Tm → Bool) [Callable Tryd.prog f]
    (h : ∀ p ∈ ps, ∀ (σ : Store) (s : AV) [RTs σ s p.ps], J σ → ACall Tryd.prog base f ([.agg [I p.op, I p.n, s]] ++ caps) σ (fun _ => False) (Ret σ (Bo (g p))))
    (σ : Store) (s : AV) [hs : RTs σ s ps] (j0 : J σ) : ACall Tryd.prog base F_slices_ContainsFunc_impl_Term_impl_Term [s, .fn f caps] σ (fun _ => False) (Ret σ (Bo (ps.any g))) := by
  refine acall2 fun_slices_ContainsFunc_impl_Term_impl_Term rfl tmps_slices_ContainsFunc_impl_Term_impl_Term rfl fun N B w₀ ρ₀ => ?_
  repeat' (first
    | (refine wc_call rfl inferInstance rfl (c_IndexFunc J hJ g h _ _ j0) rfl ?_; rintro _ σ' ⟨⟨z, rfl, hz⟩, hg⟩)
    | refine wp_seqA ?_
    | refine wp_region_seq ?_
    | refine thru_seq_next ?_
    | refine wp_retA ?_
    | refine wl_nil ?_
    | refine wl_pop rfl (po_move rfl) ?_
    | refine wl_pop rfl (po_assign rfl) ?_
    | refine wl_pop rfl (po_binOp rfl rfl rfl) ?_
    | refine at_ret (res1 rfl rfl) ?_
    | fail)
  exact ret_ inferInstance (congrArg Bo hz)
end
end Go.Proofs.YthbodgnoadlbcaaDoor.Asl

/- Which trees are terms: the program's answer and the reference's. -/
namespace Go.Proofs.YthbodgnoadlbcaaDoor.Asl
open Go.RowKit
set_option linter.unusedVariables false
attribute [local irreducible] WP WL andThen inBlock noGoto atEnd ACall DA PO Hold
set_option maxHeartbeats 4000000

section
variable {base : Nat}
theorem c_termNodes_of {op n : Int} {ps : List Tm} (h : ∀ p ∈ ps, ∀ (most : Int) (σ : Store) (s : AV) [RTs σ s p.ps], 0 ≤ most → most ≤ 1000000 → ACall Tryd.prog base F_impl_termNodes [.agg [I p.op, I p.n, s], I most] σ (fun _ => False) (Ret σ (I (min (p.cnt : Int) (most + 1)))))
    (most : Int) (σ : Store) (s : AV) [hs : RTs σ s ps] (h0 : 0 ≤ most) (h1 : most ≤ 1000000) : ACall Tryd.prog base F_impl_termNodes [.agg [I op, I n, s], I most] σ (fun _ => False) (Ret σ (I (min ((Tm.node op n ps).cnt : Int) (most + 1)))) := by
  have hb := hs.bound
  have := hs.one
  refine acall2 fun_impl_termNodes rfl tmps_impl_termNodes rfl fun N B w₀ ρ₀ => ?_
  repeat' (first
    | refine wp_seqA ?_
    | refine wp_region_seq ?_
    | refine thru_seq_next ?_
    | refine wp_blockA ?_
    | refine wl_nil ?_
    | refine wl_pop rfl (po_move rfl) ?_
    | refine wl_pop rfl (po_assign rfl) ?_
    | refine wl_pop rfl (po_fieldAddr rfl inferInstance) ?_
    | refine wc_load1 rfl inferInstance (at_has (.inl rfl) rfl rfl) rfl ?_
    | (refine wc_boxA rfl inferInstance rfl ?_; intro _ _ _ _ _)
    | refine wl_pop rfl (pc_lenT rfl inferInstance inferInstance) ?_
    | fail)
  rename_i i σ₁ g1 n1 h2
  refine wc_loop [(1, I most), (9, s), (10, I ps.length)] (fun x : Nat × Int => [(5, I x.2), (11, I x.1)]) (fun x σ' => x.1 ≤ ps.length ∧ x.2 = min (1 + (Tm.cnts (ps.take x.1) : Int)) (most + 1) ∧ LeS σ₁ σ') (fun x => ps.length - x.1) (0, 1) ⟨Nat.zero_le _, by simp [Tm.cnts]; omega, inferInstance⟩ (sub_int rfl (by simp) (sub_int rfl (by simp) (sub_cons rfl (sub_cons rfl (sub_cons rfl sub_nil))))) ?_
  rintro ⟨k, z⟩ σ' ⟨hk, hz, hg⟩
  dsimp only at hk hz ⊢
  have := hg.grow
  repeat' (first
    | refine wp_seqA ?_
    | refine wp_region_seq ?_
    | refine thru_seq_next ?_
    | refine thru_seq ?_
    | refine exit_here ?_
    | refine wp_skipA ?_
    | refine wp_retA ?_
    | refine wp_exitA ?_
    | refine wp_blockA ?_
    | refine wl_nil ?_
    | refine wl_pop rfl (po_move rfl) ?_
    | refine wl_pop rfl (po_assign rfl) ?_
    | refine wl_pop rfl (po_binOp rfl rfl rfl) ?_
    | refine wp_condP rfl (fun _ => ?_) (fun _ => ?_)
    | refine at_ret (res1 rfl rfl) ?_
    | fail)
  rotate_left
  · have : k = ps.length := by omega
    subst this
    rw [List.take_length] at hz
    refine ret_ inferInstance (congrArg I ?_)
    simp only [Tm.cnt]; omega
  have hk' : k < ps.length := by omega
  obtain ⟨id, off, s', rfl, hat, hrs⟩ := (inferInstance : RTs σ' s ps).part hk'
  have := hrs.one
  repeat' (first
    | (refine wc_callR rfl inferInstance rfl (h _ (List.getElem_mem hk') _ _ _ (by omega) (by omega)) rfl ?_; intro _ _)
    | refine wp_seqA ?_
    | refine wp_region_seq ?_
    | refine thru_seq_next ?_
    | refine thru_seq_ret ?_
    | refine thru_block_ret ?_
    | refine thru_block_next ?_
    | refine wp_skipA ?_
    | refine wp_retA ?_
    | refine wl_nil ?_
    | refine wl_pop rfl (po_move rfl) ?_
    | refine wl_pop rfl (po_assign rfl) ?_
    | refine wl_pop rfl (pc_add rfl rfl (by omega) (by omega)) ?_
    | refine wl_pop rfl (pc_sub rfl rfl (by omega) (by omega)) ?_
    | refine wl_pop rfl (po_binOp rfl rfl rfl) ?_
    | refine wl_pop rfl (pc_indexAddr rfl rfl inferInstance inferInstance (by omega)) ?_
    | refine wc_loadn rfl inferInstance (at_has (cs := [_, _, _]) (.inl rfl) rfl rfl) rfl ?_
    | refine wc_loadn rfl inferInstance inferInstance rfl ?_
    | (refine wc_storeA rfl rfl inferInstance inferInstance rfl inferInstance (Nat.le_of_ble_eq_true rfl) (.inr (may_new _)) ?_; intro _ _)
    | (refine wc_allocA (cs := [_, _, _]) inferInstance rfl inferInstance rfl ?_; intro _ _ _ _ _)
    | refine wp_condP rfl (fun _ => ?_) (fun _ => ?_)
    | refine at_ret (res1 rfl rfl) ?_
    | fail)
  · refine ret_ inferInstance (congrArg I ?_)
    have := Tm.cnts_le (ps := ps) k
    simp only [Tm.cnt]; omega
  · have := Tm.cnts_take hk'
    exact ⟨(k + 1, _), by dsimp only; omega, ⟨hk', by dsimp only; omega, inferInstance⟩, sub_cons rfl (sub_int rfl (by simp) (sub_cons rfl (sub_cons rfl (sub_cons rfl sub_nil))))⟩
theorem c_termNodes (t : Tm) : ∀ (most : Int) (σ : Store) (s : AV) [RTs σ s t.ps], 0 ≤ most → most ≤ 1000000 → ACall Tryd.prog base F_impl_termNodes [.agg [I t.op, I t.n, s], I most] σ (fun _ => False) (Ret σ (I (min (t.cnt : Int) (most + 1)))) :=
  Tm.ind (P := fun t => ∀ (most : Int) (σ : Store) (s : AV) [RTs σ s t.ps], 0 ≤ most → most ≤ 1000000 → ACall Tryd.prog base F_impl_termNodes [.agg [I t.op, I t.n, s], I most] σ (fun _ => False) (Ret σ (I (min (t.cnt : Int) (most + 1)))))
    (fun op n ps ih => c_termNodes_of ih) t

theorem c_termShape1 {p : Tm} (h : ∀ (σ : Store) (s : AV) [RTs σ s p.ps], ACall Tryd.prog base F_impl_termShape [.agg [I p.op, I p.n, s]] σ (fun _ => False) (Ret σ (Bo p.shape))) (σ : Store) (s : AV) [hs : RTs σ s p.ps] :
    ACall Tryd.prog base F_impl_termShape_1 [.agg [I p.op, I p.n, s]] σ (fun _ => False) (Ret σ (Bo (!p.shape))) := by
  have := hs.one
  refine acall1 fun_impl_termShape_1 rfl tmps_impl_termShape_1 rfl fun N B w₀ ρ₀ => ?_
  repeat' (first
    | (refine wc_callR rfl inferInstance rfl (h _ _) rfl ?_; intro _ _)
    | refine wp_seqA ?_
    | refine wp_region_seq ?_
    | refine thru_seq_next ?_
    | refine wp_retA ?_
    | refine wl_nil ?_
    | refine wl_pop rfl (po_assign rfl) ?_
    | refine wc_loadn rfl inferInstance (at_has (cs := [_, _, _]) (.inl rfl) rfl rfl) rfl ?_
    | refine wl_pop rfl (po_not rfl) ?_
    | (refine wc_boxA rfl inferInstance rfl ?_; intro _ _ _ _ _)
    | refine at_ret (res1 rfl rfl) ?_
    | exact ret_ inferInstance rfl
    | fail)
theorem c_termShape_of {op n : Int} {ps : List Tm} (h : ∀ p ∈ ps, ∀ (σ : Store) (s : AV) [RTs σ s p.ps], ACall Tryd.prog base F_impl_termShape [.agg [I p.op, I p.n, s]] σ (fun _ => False) (Ret σ (Bo p.shape)))
    (σ : Store) (s : AV) [hs : RTs σ s ps] : ACall Tryd.prog base F_impl_termShape [.agg [I op, I n, s]] σ (fun _ => False) (Ret σ (Bo (Tm.node op n ps).shape)) := by
  have hb := hs.bound
  have := hs.one
  refine acall1 fun_impl_termShape rfl tmps_impl_termShape rfl fun N B w₀ ρ₀ => ?_
  repeat' (first
    | (refine wc_callR rfl inferInstance rfl (c_ActOk _ _) rfl ?_; intro _ _)
    | (refine wc_callR rfl inferInstance rfl (c_nameOk _ _) rfl ?_; intro _ _)
    | (refine wc_callR rfl inferInstance rfl (c_ContainsFunc (caps := []) (fun _ => True) (fun _ _ _ h => h) (fun p => !p.shape) (fun p hp σ s _ _ => c_termShape1 (h p hp) σ s) _ _ trivial) rfl ?_; intro _ _)
    | refine wp_seqA ?_
    | refine wp_region_seq ?_
    | refine thru_seq_next ?_
    | refine thru_seq_ret ?_
    | refine thru_block_ret ?_
    | refine thru_block_next ?_
    | refine wp_skipA ?_
    | refine wp_retA ?_
    | refine wp_blockA ?_
    | refine wl_nil ?_
    | refine wl_pop rfl (po_move rfl) ?_
    | refine wl_pop rfl (po_assign rfl) ?_
    | refine wl_pop rfl (po_binOp rfl rfl rfl) ?_
    | refine wl_pop rfl (po_fieldAddr rfl inferInstance) ?_
    | refine wc_load1 rfl inferInstance (at_has (.inl rfl) rfl rfl) rfl ?_
    | refine wl_pop rfl (po_not rfl) ?_
    | (refine wc_boxA rfl inferInstance rfl ?_; intro _ _ _ _ _)
    | refine wl_pop rfl (po_pick rfl rfl) ?_
    | refine wc_guardT_true rfl rfl rfl ?_
    | refine wc_guardF_true rfl rfl rfl rfl ?_
    | refine wc_guardT_false rfl rfl rfl ?_
    | refine wc_guardF_false rfl rfl rfl rfl ?_
    | refine wc_guardP_true rfl rfl rfl rfl (fun _ => ?_) (fun _ => ?_)
    | refine wc_guardP_false rfl rfl rfl rfl (fun _ => ?_) (fun _ => ?_)
    | refine wp_condT rfl ?_
    | refine wp_condP rfl (fun _ => ?_) (fun _ => ?_)
    | refine wp_condNP rfl (fun _ => ?_) (fun _ => ?_)
    | refine wl_pop rfl (pc_lenT rfl inferInstance inferInstance) ?_
    | refine at_ret (res1 rfl rfl) ?_
    | fail)
  all_goals refine ret_ inferInstance (congrArg Bo ?_)
  all_goals simp only [Tm.shape, Tm.shapes_eq, List.all_eq_not_any_not]
  all_goals (simp [nodeOk, actB, inB, -List.length_eq_zero_iff, *] <;> try (intros; omega))
theorem c_termShape (t : Tm) : ∀ (σ : Store) (s : AV) [RTs σ s t.ps], ACall Tryd.prog base F_impl_termShape [.agg [I t.op, I t.n, s]] σ (fun _ => False) (Ret σ (Bo t.shape)) :=
  Tm.ind (P := fun t => ∀ (σ : Store) (s : AV) [RTs σ s t.ps], ACall Tryd.prog base F_impl_termShape [.agg [I t.op, I t.n, s]] σ (fun _ => False) (Ret σ (Bo t.shape)))
    (fun op n ps ih => c_termShape_of ih) t

/-- A term. -/
def Tm.ok (t : Tm) : Bool := decide (t.cnt ≤ 24) && t.shape
theorem c_TermOk (t : Tm) (σ : Store) (s : AV) [hs : RTs σ s t.ps] : ACall Tryd.prog base F_impl_TermOk [.agg [I t.op, I t.n, s]] σ (fun _ => False) (Ret σ (Bo t.ok)) := by
  have := hs.one
  refine acall1 fun_impl_TermOk rfl tmps_impl_TermOk rfl fun N B w₀ ρ₀ => ?_
  repeat' (first
    | (refine wc_callR rfl inferInstance rfl (c_termNodes t _ _ _ (by decide) (by decide)) rfl ?_; intro _ _)
    | (refine wc_callR rfl inferInstance rfl (c_termShape t _ _) rfl ?_; intro _ _)
    | refine wp_seqA ?_
    | refine wp_region_seq ?_
    | refine thru_seq_next ?_
    | refine wp_retA ?_
    | refine wl_nil ?_
    | refine wl_pop rfl (po_move rfl) ?_
    | refine wl_pop rfl (po_assign rfl) ?_
    | refine wl_pop rfl (po_binOp rfl rfl rfl) ?_
    | refine wc_loadn rfl inferInstance (at_has (cs := [_, _, _]) (.inl rfl) rfl rfl) rfl ?_
    | (refine wc_boxA rfl inferInstance rfl ?_; intro _ _ _ _ _)
    | refine wl_pop rfl (po_pick rfl rfl) ?_
    | refine wc_guardT_true rfl rfl rfl ?_
    | refine wc_guardF_true rfl rfl rfl rfl ?_
    | refine wc_guardP_true rfl rfl rfl rfl (fun _ => ?_) (fun _ => ?_)
    | refine at_ret (res1 rfl rfl) ?_
    | fail)
  all_goals refine ret_ inferInstance (congrArg Bo (Bool.eq_iff_iff.mpr ?_))
  all_goals (simp [Tm.ok]; try omega)

end
end Go.Proofs.YthbodgnoadlbcaaDoor.Asl

/- Which trees are terms: the reference's answer. -/
namespace Go.Proofs.YthbodgnoadlbcaaDoor.Asl
open Go.RowKit
set_option linter.unusedVariables false
attribute [local irreducible] WP WL andThen inBlock noGoto atEnd ACall DA PO Hold actB inB nodeOk
set_option maxHeartbeats 4000000

section
variable {base : Nat}
theorem c_l2Nodes_of {op n : Int} {ps : List Tm} (h : ∀ p ∈ ps, ∀ (σ : Store) (s : AV) [RTs σ s p.ps], ACall Tryd.prog base F_spec_l2Nodes [.agg [I p.op, I p.n, s]] σ (fun _ => False) (Ret σ (I (if p.shape then (min p.cnt 1000 : Nat) else 0))))
    (σ : Store) (s : AV) [hs : RTs σ s ps] : ACall Tryd.prog base F_spec_l2Nodes [.agg [I op, I n, s]] σ (fun _ => False) (Ret σ (I (if (Tm.node op n ps).shape then (min (Tm.node op n ps).cnt 1000 : Nat) else 0))) := by
  have hb := hs.bound
  have := hs.one
  refine acall1 fun_spec_l2Nodes rfl tmps_spec_l2Nodes rfl fun N B w₀ ρ₀ => ?_
  repeat' (first
    | refine wc_hold 0 ?_
    | refine wp_seqA ?_
    | refine wp_region_seq ?_
    | refine thru_seq_next ?_
    | refine wl_nil ?_
    | refine wl_pop rfl (po_assign rfl) ?_
    | refine wl_pop rfl (po_binOp rfl rfl rfl) ?_
    | refine wl_pop rfl (po_fieldAddr rfl inferInstance) ?_
    | refine wc_load1 rfl inferInstance (at_has (.inl rfl) rfl rfl) rfl ?_
    | (refine wc_boxA rfl inferInstance rfl ?_; intro _ _ _ _ _)
    | fail)
  rename_i i σ₁ g1 n1 h1
  refine wc_cut (ι := Int × Bool) [(1, .pt i 0)] (fun x => [(3, I x.1), (4, Bo x.2)]) (fun x σ' => LeS σ₁ σ' ∧ 0 ≤ x.1 ∧ x.1 ≤ 2 ∧ (nodeOk op n ps.length = true ↔ x.2 = true ∧ (ps.length : Int) = x.1)) ?_ ?_
  · repeat' (first
      | (refine wc_callR rfl inferInstance rfl (c_sActOk _ _) rfl ?_; intro _ _)
      | (refine wc_callR rfl inferInstance rfl (c_l6In _ _ _ _) rfl ?_; intro _ _)
      | refine wp_seqA ?_
      | refine wp_region_seq ?_
      | refine thru_seq_next ?_
      | refine thru_block_next ?_
      | refine wp_skipA ?_
      | refine wp_blockA ?_
      | refine wl_nil ?_
      | refine wl_pop rfl (po_assign rfl) ?_
      | refine wl_pop rfl (po_binOp rfl rfl rfl) ?_
      | refine wl_pop rfl (po_fieldAddr rfl inferInstance) ?_
      | refine wc_load1 rfl inferInstance (at_has (.inl rfl) rfl rfl) rfl ?_
      | refine wp_condP rfl (fun _ => ?_) (fun _ => ?_)
      | fail)
    all_goals refine ⟨(_, _), ⟨inferInstance, ?_, ?_, ?_⟩, sub_cons rfl (sub_cons rfl (sub_cons rfl sub_nil))⟩
    all_goals dsimp only
    all_goals first | omega | (simp only [nodeOk_iff, actB_iff, inB_iff, beq_iff_eq, Bool.false_eq_true, false_and, iff_false]; omega)
  rintro ⟨w, b⟩ σ₂ ⟨hg, hw0, hw2, hok⟩
  dsimp only at hw0 hw2 hok ⊢
  have := hg.grow
  repeat' (first
    | refine wp_seqA ?_
    | refine wp_region_seq ?_
    | refine thru_seq_next ?_
    | refine thru_seq_ret ?_
    | refine wp_skipA ?_
    | refine wp_retA ?_
    | refine wp_blockA ?_
    | refine wl_nil ?_
    | refine wl_pop rfl (po_move rfl) ?_
    | refine wl_pop rfl (po_assign rfl) ?_
    | refine wl_pop rfl (po_binOp rfl rfl rfl) ?_
    | refine wl_pop rfl (po_fieldAddr rfl inferInstance) ?_
    | refine wc_load1 rfl inferInstance (at_has (.inl rfl) rfl rfl) rfl ?_
    | refine wl_pop rfl (po_not rfl) ?_
    | refine wl_pop rfl (po_pick rfl rfl) ?_
    | refine wc_guardT_false rfl rfl rfl ?_
    | refine wc_guardF_false rfl rfl rfl rfl ?_
    | refine wc_guard rfl rfl rfl rfl (fun _ => ?_) (fun _ => ?_)
    | refine wp_condT rfl ?_
    | refine wp_condNP rfl (fun _ => ?_) (fun _ => ?_)
    | refine wl_pop rfl (pc_lenT rfl inferInstance inferInstance) ?_
    | refine at_ret (res1 rfl rfl) ?_
    | fail)
  · rename_i e1 e2
    refine ret_ inferInstance (congrArg I ?_)
    have : ¬ nodeOk op n ps.length = true := by rw [hok]; simp_all
    simp [Tm.shape, this]
  rotate_left
  · rename_i e1
    refine ret_ inferInstance (congrArg I ?_)
    have : ¬ nodeOk op n ps.length = true := by rw [hok]; simp_all
    simp [Tm.shape, this]
  rename_i e1 e2
  have e2 : (ps.length : Int) = w := by simpa using e2
  subst e2
  have hok' : nodeOk op n ps.length = true := hok.mpr ⟨by simpa using e1, rfl⟩
  refine wc_loop [(1, .pt i 0), (3, I ps.length)] (fun x : Nat × Int => [(5, I x.2), (6, I x.1)]) (fun x σ' => x.1 ≤ ps.length ∧ (ps.take x.1).all Tm.shape = true ∧ x.2 = min (1 + (Tm.cnts (ps.take x.1) : Int)) 1000 ∧ LeS σ₁ σ') (fun x => ps.length - x.1) (0, 1) ⟨Nat.zero_le _, rfl, by simp [Tm.cnts]; omega, inferInstance⟩ (sub_int rfl (by simp) (sub_int rfl (by simp) (sub_cons rfl (sub_cons rfl sub_nil)))) ?_
  rintro ⟨k, z⟩ σ' ⟨hk, hsh, hz, hg⟩
  dsimp only at hk hsh hz ⊢
  have := hg.grow
  repeat' (first
    | refine wp_seqA ?_
    | refine wp_region_seq ?_
    | refine thru_seq_next ?_
    | refine thru_seq ?_
    | refine exit_here ?_
    | refine wp_skipA ?_
    | refine wp_retA ?_
    | refine wp_exitA ?_
    | refine wp_blockA ?_
    | refine wl_nil ?_
    | refine wl_pop rfl (po_move rfl) ?_
    | refine wl_pop rfl (po_assign rfl) ?_
    | refine wl_pop rfl (po_binOp rfl rfl rfl) ?_
    | refine wl_pop rfl (po_fieldAddr rfl inferInstance) ?_
    | refine wc_load1 rfl inferInstance (at_has (.inl rfl) rfl rfl) rfl ?_
    | refine wp_condP rfl (fun _ => ?_) (fun _ => ?_)
    | refine at_ret (res1 rfl rfl) ?_
    | fail)
  rotate_left
  · have : k = ps.length := by omega
    subst this
    rw [List.take_length] at hsh hz
    refine ret_ inferInstance (congrArg I ?_)
    simp only [Tm.shape, Tm.shapes_eq, hok', hsh, Bool.and_self, if_true, Tm.cnt]; omega
  have hk' : k < ps.length := by omega
  obtain ⟨id, off, s', rfl, hat, hrs⟩ := (inferInstance : RTs σ' s ps).part hk'
  have hcp := Tm.cnt_pos ps[k]
  repeat' (first
    | (refine wc_callR rfl inferInstance rfl (h _ (List.getElem_mem hk') _ _) rfl ?_; intro _ _)
    | refine wp_seqA ?_
    | refine wp_region_seq ?_
    | refine thru_seq_next ?_
    | refine thru_seq_ret ?_
    | refine thru_block_ret ?_
    | refine thru_block_next ?_
    | refine wp_skipA ?_
    | refine wp_retA ?_
    | refine wl_nil ?_
    | refine wl_pop rfl (po_move rfl) ?_
    | refine wl_pop rfl (po_assign rfl) ?_
    | refine wl_pop rfl (pc_add rfl rfl (by omega) (by omega)) ?_
    | refine wl_pop rfl (po_binOp rfl rfl rfl) ?_
    | refine wl_pop rfl (pc_indexAddr rfl rfl inferInstance inferInstance (by omega)) ?_
    | refine wc_loadn rfl inferInstance inferInstance rfl ?_
    | refine wl_pop rfl (pc_min rfl rfl) ?_
    | refine wp_condP rfl (fun _ => ?_) (fun _ => ?_)
    | refine at_ret (res1 rfl rfl) ?_
    | fail)
  · rename_i e3
    have hn : ¬ ps[k].shape = true := by
      intro h
      rw [if_pos h] at e3; omega
    refine ret_ inferInstance (congrArg I ?_)
    rw [if_neg]
    simp only [Tm.shape, Tm.shapes_eq, Bool.and_eq_true, not_and]
    intro _ hall
    exact hn (List.all_eq_true.mp hall _ (List.getElem_mem hk'))
  rename_i σ₃ g3 e3
  have hn : ps[k].shape = true := by
    rcases Bool.eq_false_or_eq_true ps[k].shape with h | h
    · exact h
    · rw [h] at e3; simp at e3
  simp only [hn, if_true]
  repeat' (first
    | fail)
  have hcs := Tm.cnts_take hk'
  refine ⟨(k + 1, _), by dsimp only; omega, ⟨hk', by rw [List.take_succ_eq_append_getElem hk', List.all_append, hsh]; simp [hn], ?_, inferInstance⟩, sub_cons rfl (sub_int rfl (by simp) (sub_cons rfl (sub_cons rfl sub_nil)))⟩
  dsimp only
  omega
theorem c_l2Nodes (t : Tm) : ∀ (σ : Store) (s : AV) [RTs σ s t.ps], ACall Tryd.prog base F_spec_l2Nodes [.agg [I t.op, I t.n, s]] σ (fun _ => False) (Ret σ (I (if t.shape then (min t.cnt 1000 : Nat) else 0))) :=
  Tm.ind (P := fun t => ∀ (σ : Store) (s : AV) [RTs σ s t.ps], ACall Tryd.prog base F_spec_l2Nodes [.agg [I t.op, I t.n, s]] σ (fun _ => False) (Ret σ (I (if t.shape then (min t.cnt 1000 : Nat) else 0))))
    (fun op n ps ih => c_l2Nodes_of ih) t
theorem c_sTermOk (t : Tm) (σ : Store) (s : AV) [hs : RTs σ s t.ps] : ACall Tryd.prog base F_spec_TermOk [.agg [I t.op, I t.n, s]] σ (fun _ => False) (Ret σ (Bo t.ok)) := by
  have := hs.one
  refine acall1 fun_spec_TermOk rfl tmps_spec_TermOk rfl fun N B w₀ ρ₀ => ?_
  repeat' (first
    | (refine wc_callR rfl inferInstance rfl (c_l2Nodes t _ _) rfl ?_; intro _ _)
    | (refine wc_callR rfl inferInstance rfl (c_l6In _ _ _ _) rfl ?_; intro _ _)
    | refine wp_seqA ?_
    | refine wp_region_seq ?_
    | refine thru_seq_next ?_
    | refine wp_retA ?_
    | refine wl_nil ?_
    | refine wl_pop rfl (po_assign rfl) ?_
    | refine wc_loadn rfl inferInstance (at_has (cs := [_, _, _]) (.inl rfl) rfl rfl) rfl ?_
    | (refine wc_boxA rfl inferInstance rfl ?_; intro _ _ _ _ _)
    | refine at_ret (res1 rfl rfl) ?_
    | fail)
  refine ret_ inferInstance (congrArg Bo (Bool.eq_iff_iff.mpr ?_))
  rw [inB_iff]
  have := Tm.cnt_pos t
  cases h : t.shape <;> simp [Tm.ok, h] <;> omega
end
end Go.Proofs.YthbodgnoadlbcaaDoor.Asl

/- Which terms fit, and which definitions are ok. -/
namespace Go.Proofs.YthbodgnoadlbcaaDoor.Asl
open Go.RowKit
set_option linter.unusedVariables false
attribute [local irreducible] WP WL andThen inBlock noGoto atEnd ACall DA PO Hold actB inB nodeOk
set_option maxHeartbeats 4000000

mutual
def Tm.callLt (m : Int) : Tm → Bool | .node op n ps => (decide (op ≠ 5) || decide (n < m)) && Tm.callLts m ps
def Tm.callLts (m : Int) : List Tm → Bool | [] => true | p :: ps => p.callLt m && Tm.callLts m ps
end
mutual
def Tm.bare : Tm → Bool | .node op _ ps => decide (op = 5) || (decide (op ≠ 1) && Tm.bares ps)
def Tm.bares : List Tm → Bool | [] => false | p :: ps => p.bare || Tm.bares ps
end
mutual
def Tm.maxc (u : Bool) : Tm → Int | .node op n ps => if op = 5 then n else if u && decide (op = 1) then -1 else Tm.maxcs u ps
def Tm.maxcs (u : Bool) : List Tm → Int | [] => -1 | p :: ps => max (p.maxc u) (Tm.maxcs u ps)
end
theorem Tm.shape_node {op n : Int} {ps : List Tm} (h : (Tm.node op n ps).shape = true) : nodeOk op n ps.length = true ∧ ∀ p ∈ ps, p.shape = true := by
  simpa [Tm.shape, Tm.shapes_eq] using h
/-- A term that fits so many definitions. -/
def Tm.fits (m : Int) (t : Tm) : Bool := t.ok && inB m 0 3 && t.callLt m
def defsOk (ds : List Tm) : Bool := decide (ds.length ≤ 3) && ds.all fun t => t.fits ds.length && !t.bare

end Go.Proofs.YthbodgnoadlbcaaDoor.Asl

/- Which terms fit, and which definitions are ok: the reference's answer, and the program's. -/
namespace Go.Proofs.YthbodgnoadlbcaaDoor.Asl
open Go.RowKit
set_option linter.unusedVariables false
attribute [local irreducible] WP WL andThen inBlock noGoto atEnd ACall DA PO Hold actB inB nodeOk
set_option maxHeartbeats 4000000

end Go.Proofs.YthbodgnoadlbcaaDoor.Asl
