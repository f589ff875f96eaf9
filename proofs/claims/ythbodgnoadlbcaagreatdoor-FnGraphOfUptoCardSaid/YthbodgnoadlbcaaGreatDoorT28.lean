/- Several texts in one. -/
import Derived.Test.YthbodgnoadlbcaaGreatDoorDD
import Derived.Test.YthbodgnoadlbcaaGreatDoorTT
import Derived.Test.YthbodgnoadlbcaaGreatDoorTU
import Derived.Test.YthbodgnoadlbcaaGreatDoorT27
/- Several texts in one. -/
/- Names exchanged in a term: the program. -/
namespace Go.Proofs.YthbodgnoadlbcaaGreatDoor.Asl
open Go.RowKit
set_option linter.unusedVariables false
attribute [local irreducible] WP WL andThen inBlock noGoto atEnd ACall DA DL PO Hold actB inB nodeOk
set_option maxHeartbeats 4000000

mutual
def Tm.sw (a b : Int) : Tm → Tm | .node op n ps => .node op (if op = 1 then swA n a b else if op = 4 then swN n a b else n) (Tm.sws a b ps)
def Tm.sws (a b : Int) : List Tm → List Tm | [] => [] | p :: ps => p.sw a b :: Tm.sws a b ps
end
end Go.Proofs.YthbodgnoadlbcaaGreatDoor.Asl

/- Several texts in one. -/
/- Names exchanged in a term: the table, as the judge says it. -/
namespace Go.Proofs.YthbodgnoadlbcaaGreatDoor.Asl
open Go.RowKit
set_option linter.unusedVariables false
attribute [local irreducible] WP WL andThen inBlock noGoto atEnd ACall DA DL PO Hold actB inB nodeOk
set_option maxHeartbeats 4000000

def tblSw (a b : Nat) : List Nat := ((List.range 4).set a b).set b a
end Go.Proofs.YthbodgnoadlbcaaGreatDoor.Asl

/- Names exchanged in a term: both programs, whole. -/
namespace Go.Proofs.YthbodgnoadlbcaaGreatDoor.Asl
open Go.RowKit
set_option linter.unusedVariables false
attribute [local irreducible] WP WL andThen inBlock noGoto atEnd ACall DA DL PO Hold actB inB nodeOk Tm.shape Tm.ok
set_option maxHeartbeats 4000000

def tmO (o : Option Tm) : Tm := o.getD (.node 0 0 [])
def RetTO (σ : Store) (o : Option Tm) : AV → Store → Prop := fun r σ' => ∃ s, r = .tup [.agg [I (tmO o).op, I (tmO o).n, s], Bo o.isSome] ∧ RTsD σ σ' s (tmO o).ps ∧ Grow σ σ'
def Tm.swO (t : Tm) (a b : Int) : Option Tm := if (t.ok && inB a 0 3 && inB b 0 3) = true then some (t.sw a b) else none
end Go.Proofs.YthbodgnoadlbcaaGreatDoor.Asl

/- Several texts in one. -/
/- Several texts in one. -/
/- A marked term read again. -/
namespace Go.Proofs.YthbodgnoadlbcaaGreatDoor.Asl
open Go.RowKit
set_option linter.unusedVariables false
attribute [local irreducible] WP WL andThen inBlock noGoto atEnd ACall DA DL PO Hold actB inB nodeOk Tm.shape Tm.ok
set_option maxHeartbeats 4000000

end Go.Proofs.YthbodgnoadlbcaaGreatDoor.Asl

/- What the drawn law FnTermSwap draws; terms alike. -/
namespace Go.Proofs.YthbodgnoadlbcaaGreatDoor.Asl
open Go.RowKit
set_option linter.unusedVariables false
set_option linter.unusedSimpArgs false
attribute [local irreducible] WP WL andThen inBlock noGoto atEnd ACall DA DL PO Hold Tm.ok
set_option maxHeartbeats 4000000
section
variable {base : Nat}
def RetTS (σ : Store) : AV → Store → Prop := fun r σ' => ∃ (t : Tm) (u : AV) (m1 m2 : Int), r = .tup [.agg [I t.op, I t.n, u], I m1, I m2] ∧ RTs σ' u t.ps ∧ -10 ≤ m1 ∧ m1 ≤ 10 ∧ -10 ≤ m2 ∧ m2 ≤ 10 ∧ Grow σ σ'
end
/-! Exchanged twice. -/
end Go.Proofs.YthbodgnoadlbcaaGreatDoor.Asl

/- Several texts in one. -/
/- Names exchanged: shape and number of names are kept. -/
namespace Go.Proofs.YthbodgnoadlbcaaGreatDoor.Asl
open Go.RowKit
set_option linter.unusedVariables false
set_option linter.unusedSimpArgs false
set_option maxHeartbeats 4000000
end Go.Proofs.YthbodgnoadlbcaaGreatDoor.Asl

/- Copies of terms; the steps handed out: each behind a copy. -/
namespace Go.Proofs.YthbodgnoadlbcaaGreatDoor.Asl
open Go.RowKit Go.Proofs.YthbodgnoadlbcaaGreatDoorW.PrintLast
set_option linter.unusedVariables false
set_option linter.unusedSimpArgs false
attribute [local irreducible] WP WL andThen inBlock noGoto atEnd ACall DA DL PO Hold nodeOk Tm.shape Tm.ok
set_option maxHeartbeats 4000000
set_option synthInstance.maxHeartbeats 400000
set_option synthInstance.maxSize 10000
section
variable {base : Nat}
theorem c_copyTerm_of {op n : Int} {ps : List Tm} (h : ∀ p ∈ ps, ∀ (σ : Store) (s : AV) [RTs σ s p.ps], ACall Tryz.prog base F_impl_copyTerm [.agg [I p.op, I p.n, s]] σ (fun _ => False) (RetTmD σ p))
    (σ : Store) (s : AV) [hs : RTs σ s ps] : ACall Tryz.prog base F_impl_copyTerm [.agg [I op, I n, s]] σ (fun _ => False) (RetTmD σ (Tm.node op n ps)) := by
  have hbd := hs.bound
  have := hs.one
  refine acall1 fun_impl_copyTerm rfl tmps_impl_copyTerm rfl fun N B w₀ ρ₀ => ?_
  repeat' (first
    | refine wl_pop rfl (po_build (cs := [I op, I n, nilS]) inferInstance inferInstance rfl (by intro x hx; simp only [List.mem_cons, List.not_mem_nil, or_false] at hx; rcases hx with rfl | rfl <;> exact ⟨_, _, rfl, rfl, by decide⟩) rfl) ?_
    | refine wp_seqA ?_
    | refine wp_region_seq ?_
    | refine thru_seq_next ?_
    | refine wp_blockA ?_
    | refine wl_nil ?_
    | refine wl_pop rfl (po_move rfl) ?_
    | refine wl_pop rfl (po_fieldAddr rfl inferInstance) ?_
    | refine wc_load1 rfl inferInstance (at_has (.inl rfl) rfl rfl) rfl ?_
    | (refine wc_storeA rfl rfl inferInstance inferInstance rfl inferInstance (Nat.le_of_ble_eq_true rfl) (.inr (may_new _)) ?_; intro _ _)
    | (refine wc_boxA rfl inferInstance rfl ?_; intro _ _ _ _ _)
    | (refine wc_allocA (cs := [_, _, _]) inferInstance rfl inferInstance rfl ?_; intro _ _ _ _ _)
    | refine wl_pop rfl (pc_lenT rfl inferInstance inferInstance) ?_
    | fail)
  rename_i i1 σ₁ g1 n1 h1 i2 σ₂ g2 n2 h2 i3 σ₃ g3 n3 h3 σ₄ u4
  have h4 : Has σ₄ i3 ⟨.own, 1, [I op, I n, nilS], []⟩ := by
    have : Has σ₄ i3 ⟨.own, 1, splice [I 0, I 0, nilS] 0 [I op, I n, nilS], []⟩ := inferInstance
    exact this
  have hlt3 := h3.lt
  have hl4 := Upd.len u4
  refine wc_loop [(2, _), (3, _), (12, _), (13, _)] (fun x : Nat × AV => [(14, I x.1)]) (fun x σ' => x.1 ≤ ps.length ∧ LeS σ₂ σ' ∧ σ₃.length ≤ σ'.length ∧ Has σ' i3 ⟨.own, 1, [I op, I n, x.2], []⟩ ∧ One x.2 ∧ (x.1 = 0 → x.2 = nilS) ∧
      RepD σ' (fun y => σ₃.length ≤ y) x.2 (ps.take x.1)) (fun x => ps.length - x.1) (0, nilS) ⟨Nat.zero_le _, inferInstance, by omega, h4, inferInstance, fun _ => rfl, .nil⟩ (by repeat' (first | exact sub_nil | refine sub_cons rfl ?_ | refine sub_int rfl (by first | rfl | omega | (push_cast; omega) | simp) ?_ | refine sub_eq rfl (by assumption) ?_)) ?_
  rintro ⟨k, v⟩ σ' ⟨hk, hg, hlen, h3', ho', hv0, hv⟩
  dsimp only at hk h3' ho' hv0 hv ⊢
  have := hg.grow
  repeat' (first
    | refine wp_seqA ?_
    | refine wp_region_seq ?_
    | refine thru_seq_next ?_
    | refine thru_seq ?_
    | refine exit_here ?_
    | refine wp_skipA ?_
    | refine wp_retA ?_
    | refine wp_exitA ?_
    | refine wp_blockA ?_
    | refine wl_nil ?_
    | refine wl_pop rfl (po_binOp rfl rfl rfl) ?_
    | refine wc_loadn rfl inferInstance (at_has (cs := [_, _, _]) (.inl rfl) rfl rfl) rfl ?_
    | (refine wc_storeA rfl rfl inferInstance inferInstance rfl inferInstance (Nat.le_of_ble_eq_true rfl) (.inr (may_new _)) ?_; intro _ _)
    | refine wp_condP rfl (fun _ => ?_) (fun _ => ?_)
    | refine at_ret (res_cell rfl rfl inferInstance (at_has (cs := [_, _, _]) (.inl rfl) rfl rfl)) ?_
    | fail)
  rotate_left
  · rename_i hk1 σ6 u6
    obtain rfl : k = ps.length := by omega
    rw [List.take_length] at hv
    refine ret_tmD (σ₁ := σ₂) ⟨hv.mono (fun x o hx ho => ?_) (fun x hx => Nat.le_trans g3.len hx)⟩ inferInstance inferInstance
    have := h2.lt
    have := g3.len
    rw [u6.eq, List.getElem?_set_ne (by omega)]; exact ho
  have hk' : k < ps.length := by omega
  obtain ⟨id, off, s', rfl, hat, hrs⟩ := (inferInstance : RTs σ' s ps).part hk'
  have := hrs.one
  repeat' (first
    | refine thru_seq_next ?_
    | refine wl_nil ?_
    | refine wl_pop rfl (pc_indexAddr rfl rfl inferInstance inferInstance (by omega)) ?_
    | refine wc_loadn rfl inferInstance inferInstance rfl ?_
    | (refine wc_storeA rfl rfl inferInstance inferInstance rfl inferInstance (Nat.le_of_ble_eq_true rfl) (.inr (may_new _)) ?_; intro _ _)
    | (refine wc_allocA (cs := [_, _, _]) inferInstance rfl inferInstance rfl ?_; intro _ _ _ _ _)
    | fail)
  rename_i i9 σ9 g9 n9 h9 σ10 u10
  have htl : (ps.take k).length = k := by rw [List.length_take]; omega
  have hv0' : ps.take k = [] → v = nilS := fun e => hv0 (by rw [e] at htl; exact htl.symm)
  refine wc_drawn [5, 6, 7] mixed_ rfl ?_
  all_goals refine da_takeC 0 rfl rfl (by kernel_rfl) (by first | exact po_fieldAddr rfl inferInstance | fail) ?_
  all_goals refine da_takeC 1 rfl rfl (by kernel_rfl) (by first | exact pc_load1L rfl inferInstance (at_has (.inl rfl) rfl rfl) inferInstance | fail) ?_
  all_goals refine da_takeC 2 rfl rfl (by kernel_rfl) (by first | exact pc_loadnL rfl inferInstance (at_has (cs := [_, _, _]) (.inl rfl) rfl rfl) inferInstance | fail) ?_
  all_goals (first | (refine da_one 3 rfl (by kernel_rfl) (fun _ _ _ _ => ?_); (repeat' (first | (refine wc_callTD rfl inferInstance rfl (h _ (List.getElem_mem hk') _ _) rfl ?_; intro _ _ _ _ _) | fail)); all_goals (first | refine wl_nil ⟨rfl, (by first | exact LeS.len inferInstance | exact App.len (by assumption)), ?_⟩ | trace_state)))
  all_goals (first | (refine da_one 4 rfl (by kernel_rfl) (fun _ _ _ _ => ?_); (repeat' (first | (refine wc_oneTm rfl inferInstance inferInstance rfl (by decide) rfl ?_; intro _ _ _ _ _) | fail)); all_goals (first | refine wl_nil ⟨rfl, (by first | exact LeS.len inferInstance | exact App.len (by assumption)), ?_⟩ | trace_state)))
  all_goals (refine da_last 5 rfl (by decide) (by kernel_rfl) ?_; (repeat' (first | (refine wc_appendTm (σ₀ := σ₃) σ'.length rfl rfl inferInstance inferInstance rfl (by decide) (by decide) (hv.at inferInstance) hv0' (rtsD_ge inferInstance (LeS.len inferInstance)) hlen (Nat.le_trans hlen (LeS.len inferInstance)) inferInstance inferInstance (by omega) (may_ge σ₃) rfl ?_; intro _ _ _ _ _ _) | fail)); all_goals (first | refine wl_nil (dl_in ?_) | trace_state))
  all_goals (refine dl_last 6 rfl (by decide) (by kernel_rfl) ?_; (repeat' (first | refine wl_pop rfl (po_fieldAddr rfl inferInstance) ?_ | fail)); all_goals (first | refine wl_nil (dl_in ?_) | trace_state))
  all_goals (refine dl_last 7 rfl (by decide) (by kernel_rfl) ?_; (repeat' (first | (refine wc_store1 rfl rfl inferInstance inferInstance inferInstance (Nat.le_of_ble_eq_true rfl) (.inr (may_new _)) ?_; intro _ _) | fail)); all_goals (first | refine wl_nil (dl_in ?_) | trace_state))
  all_goals refine dl_done (by kernel_rfl) ?_
  repeat' (first
    | refine wp_region_seq ?_
    | refine thru_seq_next ?_
    | refine thru_block_next ?_
    | refine wl_nil ?_
    | refine wl_pop rfl (po_move rfl) ?_
    | refine wl_pop rfl (pc_add rfl rfl (by omega) (by omega)) ?_
    | fail)
  rename_i s5 σ11 o5 r5 g11 _ _ _ _ i12 σ12 g12 n12 h12 s6 σ13 ap13 mk13 r6 o6 σ14 u14
  refine ⟨⟨k + 1, s6⟩, by dsimp only; omega, ⟨by dsimp only; omega, inferInstance, ?_, ?_, inferInstance, fun e => (by cases e), ?_⟩, ?_⟩
  · have := g9.len
    have := Upd.len u10
    have := g11.len
    have := g12.len
    have := ap13.len
    have := Upd.len u14
    omega
  · have hh : Has σ14 i3 _ := instHasUpd (g := u14)
    exact hh
  · have e : ps.take (k + 1) = ps.take k ++ [ps[k]] := by
      rw [List.take_add_one, List.getElem?_eq_getElem hk']; rfl
    dsimp only
    rw [e]
    exact r6.mono (fun x o hx ho => by rw [u14.eq, List.getElem?_set_ne (by omega)]; exact ho) (fun _ h => h)
  · exact (by repeat' (first | exact sub_nil | refine sub_cons rfl ?_ | refine sub_int rfl (by first | rfl | omega | (push_cast; omega) | simp) ?_ | refine sub_eq rfl (by assumption) ?_))
theorem c_copyTerm (t : Tm) : ∀ (σ : Store) (s : AV) [RTs σ s t.ps], ACall Tryz.prog base F_impl_copyTerm [.agg [I t.op, I t.n, s]] σ (fun _ => False) (RetTmD σ t) := by
  induction t using Tm.ind with
  | _ op n ps ih => exact fun σ s _ => c_copyTerm_of ih σ s
end
/-! Steps whose terms lie apart. -/
structure SRDk (σ₀ σ : Store) (l : List StC) (L : List Stp) (k : Nat) : Prop where
  ex : ∃ Fs : Nat → Nat → Prop, (∀ j, j < k → ∀ i, Fs j i → σ₀.length ≤ i) ∧ (∀ j j' i, j < k → j' < k → Fs j i → Fs j' i → j = j') ∧
    ∀ (j : Nat) (x : StC) (y : Stp), j < k → l[j]? = some x → L[j]? = some y → x.act = y.1 ∧ x.op = y.2.op ∧ x.n = y.2.n ∧ RepD σ (Fs j) x.s y.2.ps
theorem SRDk.keep {σ₀ σ σ' : Store} {l : List StC} {L : List Stp} {k : Nat} (h : SRDk σ₀ σ l L k) (hk : ∀ (i : Nat) (o : Ob), σ₀.length ≤ i → σ[i]? = some o → σ'[i]? = some o) : SRDk σ₀ σ' l L k := by
  obtain ⟨Fs, h1, h2, h3⟩ := h.ex
  exact ⟨Fs, h1, h2, fun j x y hj hx hy => ⟨(h3 j x y hj hx hy).1, (h3 j x y hj hx hy).2.1, (h3 j x y hj hx hy).2.2.1, (h3 j x y hj hx hy).2.2.2.mono (fun i o hi ho => hk i o (h1 j hj i hi) ho) (fun _ h => h)⟩⟩
theorem SRDk.down {σ σ₁ σ' : Store} {l : List StC} {L : List Stp} {k : Nat} (h : SRDk σ₁ σ' l L k) (hl : σ.length ≤ σ₁.length) : SRDk σ σ' l L k := by
  obtain ⟨Fs, h1, h2, h3⟩ := h.ex
  exact ⟨Fs, fun j hj i hi => Nat.le_trans hl (h1 j hj i hi), h2, h3⟩
theorem SRDk.zero (σ₀ σ : Store) (l : List StC) (L : List Stp) : SRDk σ₀ σ l L 0 := ⟨fun _ _ => False, fun j hj => by omega, fun j j' i hj => by omega, fun j x y hj => by omega⟩
theorem SRDk.step {σ₀ σ σ₁ σ' : Store} {l : List StC} {L : List Stp} {k : Nat} {x : StC} {y : Stp} (h : SRDk σ₀ σ l L k) (hy : L[k]? = some y) (e1 : x.act = y.1) (e2 : x.op = y.2.op) (e3 : x.n = y.2.n) (hr : RTsD σ σ₁ x.s y.2.ps) (h0 : σ₀.length ≤ σ.length) (hk : ∀ (i : Nat) (o : Ob), σ₀.length ≤ i → σ[i]? = some o → σ'[i]? = some o) (hk2 : ∀ (i : Nat) (o : Ob), σ₀.length ≤ i → σ₁[i]? = some o → σ'[i]? = some o) :
    SRDk σ₀ σ' (l.set k x) L (k + 1) := by
  obtain ⟨Fs, h1, h2, h3⟩ := h.ex
  refine ⟨fun j i => if j = k then σ.length ≤ i else Fs j i ∧ i < σ.length, ?_, ?_, ?_⟩
  · intro j hj i hi
    by_cases e : j = k
    · rw [if_pos e] at hi; omega
    · rw [if_neg e] at hi; exact h1 j (by omega) i hi.1
  · intro j j' i hj hj' hi hi'
    by_cases e : j = k <;> by_cases e' : j' = k
    · omega
    · rw [if_pos e] at hi; rw [if_neg e'] at hi'; omega
    · rw [if_neg e] at hi; rw [if_pos e'] at hi'; omega
    · rw [if_neg e] at hi; rw [if_neg e'] at hi'; exact h2 j j' i (by omega) (by omega) hi.1 hi'.1
  · intro j x' y' hj hx hy'
    by_cases e : j = k
    · subst e
      rw [hy] at hy'; cases hy'
      rw [List.getElem?_set] at hx
      rw [if_pos rfl] at hx
      split at hx
      · cases hx
        simp only [if_true]
        exact ⟨e1, e2, e3, hr.rep.mono (fun i o hi ho => hk2 i o (Nat.le_trans h0 hi) ho) (fun _ h => h)⟩
      · cases hx
    · rw [List.getElem?_set_ne (Ne.symm e)] at hx
      obtain ⟨a1, a2, a3, a4⟩ := h3 j x' y' (by omega) hx hy'
      simp only [if_neg e]
      exact ⟨a1, a2, a3, a4.lt.mono (fun i o hi ho => hk i o (h1 j (by omega) i hi.1) ho) (fun _ h => h)⟩
class SRD (σ₀ : outParam Store) (σ : Store) (l : List StC) (L : outParam (List Stp)) : Prop where
  len : l.length = L.length
  rep : SRDk σ₀ σ l L L.length
theorem SRD.sr {σ₀ σ : Store} {l : List StC} {L : List Stp} (h : SRD σ₀ σ l L) : SR (fun _ => True) σ l L := by
  obtain ⟨Fs, h1, h2, h3⟩ := h.rep.ex
  have key : ∀ (l : List StC) (L : List Stp), l.length = L.length → (∀ (j : Nat) (x : StC) (y : Stp), l[j]? = some x → L[j]? = some y → x.act = y.1 ∧ x.op = y.2.op ∧ x.n = y.2.n ∧ RTsG (fun _ => True) σ x.s y.2.ps) → SRl (fun _ => True) σ l L := by
    intro l
    induction l with
    | nil => intro L hl _; obtain rfl : L = [] := List.length_eq_zero_iff.mp hl.symm; exact .nil
    | cons x l ih =>
      intro L hl hh
      cases L with
      | nil => simp at hl
      | cons y L =>
        obtain ⟨a1, a2, a3, a4⟩ := hh 0 x y rfl rfl
        exact .cons a1 a2 a3 a4 (ih L (by simpa using hl) fun j x y hx hy => hh (j + 1) x y (by simpa using hx) (by simpa using hy))
  exact ⟨key l L h.len fun j x y hx hy => by
    obtain ⟨a1, a2, a3, a4⟩ := h3 j x y (get_lt hy) hx hy
    exact ⟨a1, a2, a3, ⟨a4.rep.mono (fun _ _ _ h => h) (fun _ _ => trivial)⟩⟩⟩
instance instSRofSRD {σ₀ σ : Store} {l : List StC} {L : List Stp} [h : SRD σ₀ σ l L] : SR (fun _ => True) σ l L := h.sr
theorem SRD.keep {σ₀ σ σ' : Store} {l : List StC} {L : List Stp} (h : SRD σ₀ σ l L) (hk : ∀ (i : Nat) (o : Ob), σ₀.length ≤ i → σ[i]? = some o → σ'[i]? = some o) : SRD σ₀ σ' l L := ⟨h.len, h.rep.keep hk⟩
instance instSRDGrow {σ₀ σ σ' : Store} {l : List StC} {L : List Stp} [g : Grow σ σ'] [h : SRD σ₀ σ l L] : SRD σ₀ σ' l L := h.keep fun i o _ ho => g.keep i o ho
instance instSRDUpd {σ₀ σ σ' : Store} {i : Nat} {o o' : Ob} {l : List StC} {L : List Stp} [u : Upd σ i o' σ'] [k : Has σ₀ i o] [h : SRD σ₀ σ l L] : SRD σ₀ σ' l L :=
  h.keep fun j x hj ho => by have := k.lt; rw [u.eq, List.getElem?_set_ne (by omega)]; exact ho
/-- Steps, or none. -/
def RetSO (σ : Store) (o : Option (List Stp)) : AV → Store → Prop := fun r σ' => ∃ u l, r = .tup [u, Bo o.isSome] ∧ OW σ σ' u l ∧ SRD σ σ' l (o.getD []) ∧ Grow σ σ'
theorem ret_so_none {σ σ' : Store} {o : Option (List Stp)} (h : o = none) (g : LeS σ σ') : RetSO σ o (.tup [nilS, Bo false]) σ' := by
  subst h; exact ⟨nilS, [], rfl, OW.nilS _ _, ⟨rfl, SRDk.zero _ _ _ _⟩, g.grow⟩
theorem ret_so {σ σ₁ σ₂ σ' : Store} {o : Option (List Stp)} {u : AV} {l : List StC} {L : List Stp} (h : o = some L) (h1 : OW σ₁ σ' u l) (k1 : σ.length ≤ σ₁.length) (h2 : l.length = L.length) (h3 : SRDk σ₂ σ' l L L.length) (k2 : σ.length ≤ σ₂.length) (g : LeS σ σ') : RetSO σ o (.tup [u, Bo true]) σ' := by
  subst h; exact ⟨u, l, rfl, h1.down k1, ⟨h2, h3.down k2⟩, g.grow⟩
section
variable {E : Env} {ops : Array Oper} {l : List Oper} {Q : Exit → Slots → Store → Prop} {S : Slots} {σ σ₀ : Store} {d : Option Tmp} {ty : TypeId} {pos : String} {af : Array Edge} {g : Option (Nat × Bool)} {x y : Operand} {t : TypeId} {bytes : Nat} {z : Value} {i k : Nat}
theorem wc_callSO {args : Array Operand} {ats : Array TypeId} {f : FuncId} {rs caps : List AV} {o : Option (List Stp)} (hf : S.ev x = some (.fn f caps)) (hc : Callable E.P f) (hargs : evs S args.toList = some rs)
    (h : ACall E.P E.base f (rs ++ caps) σ (fun _ => False) (RetSO σ o)) (hd : okd E d = true) (k : ∀ u xs σ', One u → OW σ σ' u xs → SRD σ σ' xs (o.getD []) → Grow σ σ' → WL E ops l Q (S.put d (.tup [u, Bo o.isSome])) σ') :
    WL E ops (⟨d, .call ⟨.value x, args, ats⟩, ty, pos, af, none⟩ :: l) Q S σ :=
  wc_call hf hc hargs h hd fun r' σ' h => by obtain ⟨u, xs, e, h1, h2, hg⟩ := h; subst e; exact k u xs σ' h1.one h1 h2 hg
theorem splice_st {l : List StC} {k : Nat} {a b : Int} {s : AV} (hs : s.one = true) (h : k < l.length) : splice (rowCells l) (0 + k * 4 + 1) [I a, I b, s] = rowCells (l.set k ⟨(l.getD k Enc.dflt).act, a, b, s, hs⟩) := by
  rw [← rowCells_set (α := StC) _ h]
  have hl := rowCells_length l
  have e2 : Enc.e StC = 4 := rfl
  rw [e2] at hl ⊢
  have h2 := congrArg (·[0]?) (rowCells_cut (l := l) (k := k) (x := l.getD k Enc.dflt) (by simp [List.getD_eq_getElem?_getD, h]))
  simp only [cutL, e2, List.getElem?_take, List.getElem?_drop] at h2
  rw [if_pos (by omega)] at h2
  apply List.ext_getElem?
  intro j
  have e3 : (Enc.enc (⟨(l.getD k Enc.dflt).act, a, b, s, hs⟩ : StC)) = [I (l.getD k Enc.dflt).act, I a, I b, s] := rfl
  have e4 : (Enc.enc (l.getD k Enc.dflt) : List AV)[0]? = some (I (l.getD k Enc.dflt).act) := rfl
  rw [e4] at h2
  rw [splice_get (by simp; omega), splice_get (by rw [e3]; simp; omega), e3]
  simp only [List.length_cons, List.length_nil]
  by_cases h0 : j = k * 4
  · subst h0
    rw [if_pos (by omega), if_neg (by omega), if_pos (by omega), Nat.sub_self]
    rw [Nat.add_zero] at h2; exact h2
  · by_cases h1 : j < k * 4
    · rw [if_pos (by omega), if_pos h1]
    · by_cases h3 : j < k * 4 + 4
      · rw [if_neg (by omega), if_pos (by omega), if_neg h1, if_pos (by omega), show j - k * 4 = j - (0 + k * 4 + 1) + 1 by omega]; rfl
      · rw [if_neg (by omega), if_neg (by omega), if_neg h1, if_neg (by omega)]
theorem wc_stStT {l' : List StC} {a b : Int} {s : AV} [h1 : One s] (hx : S.ev x = some (.pt i (0 + k * 4 + 1))) (hy : S.ev y = some (.agg [I a, I b, s])) (ht : Ty E.P t true 3 bytes z) (ho : Has σ i (Row l')) (hk : k < l'.length) (hm : E.may i)
    (kk : ∀ σ', Upd σ i (Row (l'.set k ⟨(l'.getD k Enc.dflt).act, a, b, s, h1.eq⟩)) σ' → WL E ops l Q S σ') : WL E ops (⟨none, .store t x y, ty, pos, af, none⟩ :: l) Q S σ :=
  wc_store hx hy ht ho rfl rfl (by intro c hc; simp only [AV.cells, List.mem_cons, List.not_mem_nil, or_false] at hc; rcases hc with rfl | rfl | rfl; rfl; rfl; exact h1.eq) (by have := rowCells_length l'; have e2 : Enc.e StC = 4 := rfl; rw [e2] at this; omega) (splice_st h1.eq hk) hm kk
theorem pc_loStT {xs : List StC} {g : Option (Nat × Bool)} (hx : S.ev x = some (.pt i (0 + k * 4 + 1))) (ht : Ty E.P t true 3 bytes z) (h : Has σ₀ i (Row xs)) (hk : k < xs.length) (hl : LeS σ₀ σ) : PO E S σ σ₀.length ⟨d, .load t x, ty, pos, af, g⟩ (.agg [I (xs.getD k Enc.dflt).op, I (xs.getD k Enc.dflt).n, (xs.getD k Enc.dflt).s]) :=
  pc_loadnL hx ht (at_sub3 (at_own h hk)) hl
end
def Tm.askO (ds : List Tm) (t : Tm) : Option (List Stp) := if (defsOk ds && t.fits ds.length) = true then some (t.steps ds) else none
theorem fits_get {t : Tm} {m : Int} (h : t.fits m = true) : t.shape = true ∧ t.callLt m = true ∧ t.cnt ≤ 24 := by
  unfold Tm.fits Tm.ok at h
  simp only [Bool.and_eq_true, decide_eq_true_eq] at h
  exact ⟨h.1.1.2, h.2, h.1.1.1⟩
section
variable {base : Nat}
theorem c_TermSteps (t : Tm) (ds : List Tm) (σ : Store) (s d : AV) [hs : RTs σ s t.ps] [hd : RTs σ d ds] : ACall Tryz.prog base F_impl_TermSteps [.agg [I t.op, I t.n, s], d] σ (fun _ => False) (RetSO σ (t.askO ds)) := by
  have := hs.one
  have := hd.one
  refine acall2 fun_impl_TermSteps rfl tmps_impl_TermSteps rfl fun N B w₀ ρ₀ => ?_
  repeat' (first
    | (refine wc_callR rfl inferInstance rfl (c_DefsOk ds _ _) rfl ?_; intro _ _)
    | (refine wc_callR rfl inferInstance rfl (c_TermFits _ t _ _) rfl ?_; intro _ _)
    | refine wc_holdR 3 ?_
    | refine wp_seqA ?_
    | refine wp_region_seq ?_
    | refine thru_seq_next ?_
    | refine thru_seq_ret ?_
    | refine wp_skipA ?_
    | refine wp_retA ?_
    | refine wl_nil ?_
    | refine wl_pop rfl (po_move rfl) ?_
    | refine wl_pop rfl (po_assign rfl) ?_
    | refine wc_loadn rfl inferInstance (at_has (cs := [_, _, _]) (.inl rfl) rfl rfl) rfl ?_
    | refine wl_pop rfl (po_not rfl) ?_
    | (refine wc_boxA rfl inferInstance rfl ?_; intro _ _ _ _ _)
    | refine wl_pop rfl (po_pick rfl rfl) ?_
    | refine wc_guardT_false rfl rfl rfl ?_
    | refine wc_guardF_false rfl rfl rfl rfl ?_
    | refine wc_guard rfl rfl rfl rfl (fun _ => ?_) (fun _ => ?_)
    | refine wp_condT rfl ?_
    | refine wp_condA rfl (fun _ => ?_) (fun _ => ?_)
    | refine wl_pop rfl (pc_lenT rfl inferInstance inferInstance) ?_
    | refine at_ret (res2 rfl rfl rfl) ?_
    | fail)
  · exact ret_so_none (by unfold Tm.askO; rw [if_neg (by intro hh; simp_all)]) inferInstance
  · rename_i i1 σ1 g1 n1 h1 σ2 g2 e1 σ3 g3 e2
    refine hold_go ?_
    have hd1 : defsOk ds = true := by simpa using e1
    have hf1 : t.fits ds.length = true := by simpa using e2
    obtain ⟨a1, a2, a3⟩ := fits_get hf1
    have hL : t.askO ds = some (t.steps ds) := by unfold Tm.askO; rw [if_pos (by simp [hd1, hf1])]
    have hlen := Tm.steps_len hd1 a3
    have hok := Tm.steps_ok hd1 a1 a2 a3
    generalize hLL : t.steps ds = L at *
    have hsG : RTsG (fun _ => True) σ3 s t.ps := .of inferInstance
    have hdG : RTsG (fun _ => True) σ3 d ds := .of inferInstance
    have hcall := c_stepsOf (base := base) hd1 a1 a2 a3 σ3 s d (fun _ _ => trivial)
    rw [hLL] at hcall
    repeat' (first
      | (refine wc_callSt rfl inferInstance rfl hcall rfl ?_; intro _ _ _ _ _ _ _)
      | refine wl_pop rfl (pc_lenRow rfl inferInstance inferInstance) ?_
      | refine wp_seqA ?_
      | refine wp_region_seq ?_
      | refine thru_seq_next ?_
      | refine wp_blockA ?_
      | refine wl_nil ?_
      | refine wl_pop rfl (po_move rfl) ?_
      | refine wl_pop rfl (po_assign rfl) ?_
      | refine wc_loadn rfl inferInstance (at_has (cs := [_, _, _]) (.inl rfl) rfl rfl) rfl ?_
      | fail)
    rename_i u l0 σ4 o4 ow4 sr4 g4
    have hll := sr4.len'
    rcases ow4.rep with ⟨rfl, rfl⟩ | ⟨id, rfl, hid, hh⟩
    · obtain rfl : L = [] := List.length_eq_zero_iff.mp hll.symm
      refine wc_loop [(6, _), (22, _)] (fun k : Nat => [(23, I k)]) (fun k σ' => k = 0 ∧ LeS σ σ') (fun k => 0) 0 ⟨rfl, inferInstance⟩ (by repeat' (first | exact sub_nil | refine sub_cons rfl ?_ | refine sub_int rfl (by first | rfl | omega | (push_cast; omega) | simp) ?_ | refine sub_eq rfl (by assumption) ?_)) ?_
      rintro k σ' ⟨rfl, hg⟩
      have := hg.grow
      repeat' (first
        | refine wp_seqA ?_
        | refine wp_region_seq ?_
        | refine thru_seq_next ?_
        | refine thru_seq ?_
        | refine exit_here ?_
        | refine wp_retA ?_
        | refine wp_exitA ?_
        | refine wl_nil ?_
        | refine wl_pop rfl (po_move rfl) ?_
        | refine wl_pop rfl (po_assign rfl) ?_
        | refine wl_pop rfl (po_binOp rfl rfl rfl) ?_
        | refine wp_condF rfl ?_
        | refine at_ret (res2 rfl rfl rfl) ?_
        | fail)
      exact ret_so hL (OW.nilS σ _) (Nat.le_refl _) rfl (SRDk.zero σ _ _ _) (Nat.le_refl _) inferInstance
    have hidlt := hh.lt
    have l3 : LeS σ σ3 := inferInstance
    have l34 : LeS σ3 σ4 := inferInstance
    clear ow4 o4
    refine wc_loop [(6, _), (22, _)] (fun k : Nat => [(23, I k)]) (fun k σ' => k ≤ L.length ∧ LeS σ3 σ' ∧ σ4.length ≤ σ'.length ∧ KN σ4 4 σ' ∧ ∃ l, l.length = L.length ∧ Has σ' id (Row l) ∧ SRDk σ4 σ' l L k ∧ ∀ j, k ≤ j → l[j]? = l0[j]?) (fun k => L.length - k) 0 ⟨Nat.zero_le _, l34, Nat.le_refl _, ⟨fun _ _ _ h => h⟩, l0, hll, hh, SRDk.zero _ _ _ _, fun _ _ => rfl⟩ (by repeat' (first | exact sub_nil | refine sub_cons rfl ?_ | refine sub_int rfl (by first | rfl | omega | (push_cast; omega) | simp) ?_ | refine sub_eq rfl (by assumption) ?_)) ?_
    rintro k σ' ⟨hk, jle, jlen, jkn, l, jl, jh, jd, jr⟩
    have := jle.grow
    repeat' (first
      | refine wp_seqA ?_
      | refine wp_region_seq ?_
      | refine thru_seq_next ?_
      | refine thru_seq ?_
      | refine exit_here ?_
      | refine wp_skipA ?_
      | refine wp_retA ?_
      | refine wp_exitA ?_
      | refine wp_blockA ?_
      | refine wl_nil ?_
      | refine wl_pop rfl (po_move rfl) ?_
      | refine wl_pop rfl (po_assign rfl) ?_
      | refine wl_pop rfl (po_binOp rfl rfl rfl) ?_
      | refine wl_pop rfl (pc_indexAddr rfl rfl inferInstance inferInstance (by omega)) ?_
      | refine wl_pop rfl (po_fieldAddr rfl inferInstance) ?_
      | refine wp_condP rfl (fun _ => ?_) (fun _ => ?_)
      | refine at_ret (res2 rfl rfl rfl) ?_
      | fail)
    rotate_left
    · obtain rfl : k = L.length := by omega
      exact ret_so hL (ow_of_has jh (Nat.le_trans l3.len hid) (jl.trans hll.symm) (by omega)) (Nat.le_refl _) jl (jd.down (by have := l3.len; have := l34.len; omega)) (Nat.le_refl _) inferInstance
    have hk' : k < L.length := by omega
    obtain ⟨e1', e2', e3', rk⟩ := sr4.at hk'
    have e0 : l.getD k Enc.dflt = l0.getD k Enc.dflt := by simp only [List.getD_eq_getElem?_getD, jr k (Nat.le_refl _)]
    rw [← e0] at e1' e2' e3' rk
    have rk' : RTs σ' (l.getD k Enc.dflt).s (L.getD k (0, nilT)).2.ps := ⟨(rk.kn jkn inferInstance).rep⟩
    have hokk := hok (L.getD k (0, nilT)) (by simp [List.getD_eq_getElem?_getD, hk'])
    have hone : One (l.getD k Enc.dflt).s := ⟨(l.getD k Enc.dflt).one⟩
    have hlk : k < l.length := by omega
    have hcp : ACall Tryz.prog base F_impl_copyTerm [.agg [I (l.getD k Enc.dflt).op, I (l.getD k Enc.dflt).n, (l.getD k Enc.dflt).s]] σ' (fun _ => False) (RetTmD σ' (L.getD k (0, nilT)).2) := by
      rw [e2', e3']
      exact c_copyTerm _ _ _
    repeat' (first
      | refine wl_pop rfl (pc_loStT rfl inferInstance inferInstance (by omega) inferInstance) ?_
      | (refine wc_callTD rfl inferInstance rfl hcp rfl ?_; intro _ _ _ _ _)
      | (refine wc_stStT rfl rfl inferInstance inferInstance (by omega) (.inr (Nat.le_trans l3.len hid)) ?_; intro _ _)
      | refine wp_region_seq ?_
      | refine thru_seq_next ?_
      | refine thru_block_next ?_
      | refine wl_nil ?_
      | refine wl_pop rfl (po_move rfl) ?_
      | refine wl_pop rfl (pc_add rfl rfl (by omega) (by omega)) ?_
      | refine wl_pop rfl (pc_indexAddr rfl rfl inferInstance inferInstance (by omega)) ?_
      | refine wl_pop rfl (po_fieldAddr rfl inferInstance) ?_
      | fail)
    rename_i hk1 v σ5 o5 r5 g5 σ6 u6
    have hkp : ∀ (i : Nat) (o : Ob), σ4.length ≤ i → σ5[i]? = some o → σ6[i]? = some o := fun i o hi ho => by rw [u6.eq, List.getElem?_set_ne (by omega)]; exact ho
    have y5 := g5.len
    have y6 := Upd.len u6
    have h5 : Has σ5 id (Row l) := inferInstance
    have k56 := kn_upd u6 h5
    refine ⟨k + 1, by omega, ⟨by omega, ⟨fun i o ho => ?_⟩, by omega, ⟨fun i o he ho => k56.keep i o he (g5.keep i o (jkn.keep i o he ho))⟩, _, by rw [List.length_set]; exact jl, instHasUpd (g := u6), jd.step (y := L.getD k (0, nilT)) (by simp [List.getD_eq_getElem?_getD, hk']) e1' rfl rfl r5 jlen (fun i o hi ho => hkp i o hi (g5.keep i o ho)) hkp, fun j hj => ?_⟩, (by repeat' (first | exact sub_nil | refine sub_cons rfl ?_ | refine sub_int rfl (by first | rfl | omega | (push_cast; omega) | simp) ?_ | refine sub_eq rfl (by assumption) ?_))⟩
    · have : i < σ3.length := Has.lt ⟨ho⟩
      rw [u6.eq, List.getElem?_set_ne (by omega)]
      exact g5.keep i o (jle.keep i o ho)
    · rw [List.getElem?_set_ne (by omega)]; exact jr j (by omega)
  · exact ret_so_none (by unfold Tm.askO; rw [if_neg (by intro hh; simp_all)]) inferInstance
theorem c_l3Asked (t : Tm) (ds : List Tm) (σ : Store) (s d : AV) [hs : RTs σ s t.ps] [hd : RTs σ d ds] : ACall Tryz.prog base F_spec_l3Asked [.agg [I t.op, I t.n, s], d] σ (fun _ => False) (Ret σ (Bo (defsOk ds && t.fits ds.length))) := by
  have := hs.one
  have := hd.one
  refine acall2 fun_spec_l3Asked rfl tmps_spec_l3Asked rfl fun N B w₀ ρ₀ => ?_
  repeat' (first
    | (refine wc_callR rfl inferInstance rfl (c_sDefsOk ds _ _) rfl ?_; intro _ _)
    | (refine wc_callR rfl inferInstance rfl (c_sTermFits _ t _ _) rfl ?_; intro _ _)
    | refine wp_seqA ?_
    | refine wp_region_seq ?_
    | refine thru_seq_next ?_
    | refine wp_retA ?_
    | refine wl_nil ?_
    | refine wl_pop rfl (po_move rfl) ?_
    | refine wl_pop rfl (po_assign rfl) ?_
    | refine wc_loadn rfl inferInstance (at_has (cs := [_, _, _]) (.inl rfl) rfl rfl) rfl ?_
    | (refine wc_boxA rfl inferInstance rfl ?_; intro _ _ _ _ _)
    | refine wl_pop rfl (po_pick rfl rfl) ?_
    | refine wc_guardT_true rfl rfl rfl ?_
    | refine wc_guardF_true rfl rfl rfl rfl ?_
    | refine wc_guard rfl rfl rfl rfl (fun _ => ?_) (fun _ => ?_)
    | refine wl_pop rfl (pc_lenT rfl inferInstance inferInstance) ?_
    | refine at_ret (res1 rfl rfl) ?_
    | fail)
  all_goals refine ret_ inferInstance (congrArg Bo ?_)
  all_goals simp_all
end
end Go.Proofs.YthbodgnoadlbcaaGreatDoor.Asl
