/- The reader: two terms that are often alike. -/
import Derived.Test.YthbodgnoadlbcaaGreatDoorDD
import Derived.Test.YthbodgnoadlbcaaGreatDoorB9
namespace Go.Proofs.YthbodgnoadlbcaaGreatDoor.Asl
open Go.RowKit
set_option linter.unusedVariables false
set_option linter.unusedSimpArgs false
attribute [local irreducible] WP WL andThen inBlock noGoto atEnd ACall DA DL PO Hold
set_option maxHeartbeats 4000000
set_option synthInstance.maxHeartbeats 400000
set_option synthInstance.maxSize 10000
theorem rep_two {σ : Store} {F : Nat → Prop} {j : Nat} {t t' : Tm} {u u' : AV} (h : RepTs σ F u t.ps) (h' : RepTs σ F u' t'.ps) (hj : F j) (hh : Has σ j ⟨.own, 3, [I t.op, I t.n, u, I t'.op, I t'.n, u'], []⟩) : RepTs σ F (.sl j 0 2) [t, t'] :=
  RepTs.row (ps := [t, t']) [u, u'] hj hh.get (.inr rfl) rfl (by simp) rfl
    (fun k t2 s2 h1 h2 => by
      match k, h1, h2 with
      | 0, h1, h2 => simp at h1 h2; subst h1 h2; rfl
      | 1, h1, h2 => simp at h1 h2; subst h1 h2; rfl)
    (fun k t2 s2 h1 h2 => by
      match k, h1, h2 with
      | 0, h1, h2 => simp at h1 h2; subst h1 h2; exact h
      | 1, h1, h2 => simp at h1 h2; subst h1 h2; exact h')
theorem rep_one {σ : Store} {F : Nat → Prop} {j : Nat} {t : Tm} {u : AV} (h : RepTs σ F u t.ps) (hj : F j) (hh : Has σ j ⟨.own, 3, [I t.op, I t.n, u], []⟩) : RepTs σ F (.sl j 0 1) [t] :=
  RepTs.row (ps := [t]) [u] hj hh.get (.inr rfl) rfl (by simp) rfl
    (fun k t2 s2 h1 h2 => by
      match k, h1, h2 with
      | 0, h1, h2 => simp at h1 h2; subst h1 h2; rfl)
    (fun k t2 s2 h1 h2 => by
      match k, h1, h2 with
      | 0, h1, h2 => simp at h1 h2; subst h1 h2; exact h)
theorem RepTs.part {σ : Store} {F : Nat → Prop} {s : AV} {ps : List Tm} (h : RepTs σ F s ps) {k : Nat} (hk : k < ps.length) :
    ∃ id off s', s = .sl id off ps.length ∧ At σ id (off + k * 3) 3 [I ps[k].op, I ps[k].n, s'] ∧ RepTs σ F s' ps[k].ps := by
  cases h with
  | nil => simp at hk
  | @row id off o _ ss h1 h2 h3 h4 h45 h5 h6 h9 =>
    have h7 := h6 k ps[k] ss[k] (by simp [hk]) (by simp [h5, hk])
    have h8 := h9 k ps[k] ss[k] (by simp [hk]) (by simp [h5, hk])
    exact ⟨id, off, ss[k], rfl, ⟨o, h2, h3, h7, rfl⟩, h8⟩
theorem RepTs.rts {σ : Store} {F : Nat → Prop} {s : AV} {ps : List Tm} (h : RepTs σ F s ps) : RTs σ s ps := ⟨h.mono (fun _ _ _ h => h) (fun _ _ => trivial)⟩
section
variable {base : Nat}
def QPair (σ : Store) : AV → Store → Prop := fun r σ' => ∃ (t t' : Tm) (u u' v : AV) (xs : List Tm), r = .tup [.agg [I t.op, I t.n, u], .agg [I t'.op, I t'.n, u'], v] ∧ RTsN σ σ' u t.ps ∧ RTsN σ σ' u' t'.ps ∧ RTsN σ σ' v xs ∧ xs.length ≤ 3
theorem c_l91Pair (i : Nat) (s : AV) (g : List UInt8) (p : Int) (σ : Store) [hi : Has σ i (RdO s p)] [hb : Bk σ i s g] (hp : 0 ≤ p) (hp2 : p ≤ 999800000) : ACall Tryz.prog base F_spec_l91Pair [.pt i 0] σ (fun j => j = i) (RetRd σ i s p 5100 (QPair σ)) := by
  have := hb.rw.one
  have hi0 := hi.lt
  refine acall1 fun_spec_l91Pair rfl tmps_spec_l91Pair rfl fun N B w₀ ρ₀ => ?_
  repeat' (first
    | (refine wc_callC rfl inI rfl (c_l91Called i s g _ _ (hb := hb.le inI) (by omega) (by omega)) inI (.inl rfl) rfl ?_; intro _ _ _ _ _ _ _ _ _ _ _ _ _ _ _ _)
    | (refine wc_storeA rfl rfl inI inI rfl inI (Nat.le_of_ble_eq_true rfl) (.inr (may_newB i σ)) ?_; intro _ _)
    | refine wc_holdR 2 ?_
    | refine wp_seqA ?_
    | refine wp_region_seq ?_
    | refine thru_seq_next ?_
    | refine wl_nil ?_
    | refine wl_pop rfl (po_move rfl) ?_
    | refine wl_pop rfl (po_assign rfl) ?_
    | refine wl_pop rfl (po_extract rfl rfl) ?_
    | (refine wc_allocA (cs := [_, _, _]) inI rfl inI rfl ?_; intro _ _ _ _ _)
    | fail)
  rename_i i1 σ1 g1 n1 h1 i2 σ2 g2 n2 h2 t u v xs p3 σ3 σ4 ou ov ru rv hx a1 a2 g4 u4 j σ5 g5 n5 h5 σ6 u6
  have y1 := h1.lt
  have y2 := h2.lt
  have y3 := (inI : LeB i σ σ1).len
  have y4 := (inI : LeB i σ1 σ2).len
  have y5 := (inI : LeB i σ2 σ4).len
  have y6 := n5.le
  have y7 := g5.len
  have y8 := n1.le
  have y9 := n2.le
  have l46 : ∀ (x : Nat) (o : Ob), x < σ4.length → σ4[x]? = some o → σ6[x]? = some o := fun x o hx ho => by rw [u6.eq, List.getElem?_set_ne (by omega)]; exact g5.keep x o ho
  have RU : RepTs σ6 (fun x => σ2.length ≤ x ∧ x < σ4.length) u t.ps := (ru.rep.lt.mono (fun x o hx ho => l46 x o hx.2 ho) (fun x hx => hx)).rep
  have RV : RepTs σ6 (fun x => σ2.length ≤ x ∧ x < σ4.length) v xs := (rv.rep.lt.mono (fun x o hx ho => l46 x o hx.2 ho) (fun x hx => hx)).rep
  have rv6 : RTs σ6 v xs := RV.rts
  have hj6 : Has σ6 j ⟨.own, 1, [I t.op, I t.n, u], []⟩ := instHasUpd (g := u6)
  have hi6 : Has σ6 i (RdO s p3) := inI
  have h26 : Has σ6 i2 ⟨.own, 1, [I 0, I 0, nilS], []⟩ := ⟨l46 _ _ (by omega) ((inI : LeB i σ2 σ4).keep.keep _ _ (by omega) h2.get)⟩
  have h16 : Has σ6 i1 ⟨.own, 1, [I 0, I 0, nilS], []⟩ := ⟨l46 _ _ (by omega) ((inI : LeB i σ1 σ4).keep.keep _ _ (by omega) h1.get)⟩
  have hle6 : LeB i σ σ6 := inI
  have b6 : Bk σ6 i s g := hb.le hle6
  have yj : j < σ6.length := hj6.lt
  have y46 : σ4.length ≤ σ6.length := by have := Upd.len u6; omega
  clear u6 h5 u4 ru rv
  refine hold_go ?_
  repeat' (first
    | refine wl_pop rfl (pc_lenT rfl rv6 inI) ?_
    | (refine wc_callTU rfl inI rfl (c_l91Term i s g _ _ _ (hb := hb.le inI) (by omega) (by omega) (by omega) (by omega)) inI (.inl rfl) rfl ?_; intro _ _ _ _ _ _ _ _ _ _ _)
    | (refine wc_storeA rfl rfl inI inI rfl inI (Nat.le_of_ble_eq_true rfl) (.inr (may_newB i σ)) ?_; intro _ _)
    | refine wc_holdR 3 ?_
    | refine wp_seqA ?_
    | refine wp_region_seq ?_
    | refine thru_seq_next ?_
    | refine wl_nil ?_
    | refine wl_pop rfl (po_move rfl) ?_
    | (refine wc_allocA (cs := [_, _, _]) inI rfl inI rfl ?_; intro _ _ _ _ _)
    | fail)
  rename_i t' u' p7 σ7 σ8 ou' ru' a3 a4 g8 u8 j2 σ9 g9 n9 h9 σ10 u10
  have z1 := (inI : LeB i σ6 σ8).len
  have z2 := n9.le
  have z3 := g9.len
  have l8 : ∀ (x : Nat) (o : Ob), x < σ8.length → σ8[x]? = some o → σ10[x]? = some o := fun x o hx ho => by rw [u10.eq, List.getElem?_set_ne (by omega)]; exact g9.keep x o ho
  have RU' : RepTs σ10 (fun x => σ6.length ≤ x ∧ x < σ8.length) u' t'.ps := (ru'.rep.lt.mono (fun x o hx ho => l8 x o hx.2 ho) (fun x hx => hx)).rep
  have k68 : ∀ (x : Nat) (o : Ob), x ≠ i → σ6[x]? = some o → σ10[x]? = some o := fun x o hx ho => l8 x o (by have := Has.lt ⟨ho⟩; omega) ((inI : LeB i σ6 σ8).keep.keep x o hx ho)
  have hj10 : Has σ10 j ⟨.own, 1, [I t.op, I t.n, u], []⟩ := ⟨k68 _ _ (by omega) hj6.get⟩
  have h210 : Has σ10 i2 ⟨.own, 1, [I 0, I 0, nilS], []⟩ := ⟨k68 _ _ (by omega) h26.get⟩
  have h110 : Has σ10 i1 ⟨.own, 1, [I 0, I 0, nilS], []⟩ := ⟨k68 _ _ (by omega) h16.get⟩
  have hk10 : Has σ10 j2 ⟨.own, 1, [I t'.op, I t'.n, u'], []⟩ := instHasUpd (g := u10)
  have hi10 : Has σ10 i (RdO s p7) := inI
  have hle10 : LeB i σ σ10 := inI
  have b10 : Bk σ10 i s g := hb.le hle10
  have yk : j2 < σ10.length := hk10.lt
  have z4 : σ8.length ≤ σ10.length := by have := Upd.len u10; omega
  have RU10 : RepTs σ10 (fun x => σ2.length ≤ x ∧ x ≠ j ∧ x ≠ j2) u t.ps := RU.mono (fun x o hx ho => k68 x o (by omega) ho) (fun x hx => ⟨hx.1, by omega, by omega⟩)
  have RV10 : RepTs σ10 (fun x => σ2.length ≤ x ∧ x ≠ j ∧ x ≠ j2) v xs := RV.mono (fun x o hx ho => k68 x o (by omega) ho) (fun x hx => ⟨hx.1, by omega, by omega⟩)
  have RP10 : RepTs σ10 (fun x => σ2.length ≤ x ∧ x ≠ j ∧ x ≠ j2) u' t'.ps := RU'.mono (fun _ _ _ h => h) (fun x hx => ⟨by omega, by omega, by omega⟩)
  clear u10 h9 u8 ru' RU RV RU' rv6 hj6 h26 h16 hi6 hle6 b6
  refine hold_go ?_
  repeat' (first
    | (refine wc_callP rfl inI rfl (c_pick i s g _ _ _ (hb := hb.le inI) (by omega) (by omega)) inI (.inl rfl) rfl ?_; intro _ _ _ _ _ _ _ _ _ _)
    | refine wc_hold 0 ?_
    | refine wp_region_seq ?_
    | refine thru_seq_next ?_
    | refine wl_nil ?_
    | refine wl_pop rfl (po_move rfl) ?_
    | fail)
  rename_i w p11 σ11 σ12 b1 b2 b3 b4 g12 u12
  have k12 : ∀ (x : Nat) (o : Ob), x ≠ i → σ10[x]? = some o → σ12[x]? = some o := fun x o hx ho => (inI : LeB i σ10 σ12).keep.keep x o hx ho
  have hj : Has σ12 j ⟨.own, 1, [I t.op, I t.n, u], []⟩ := ⟨k12 _ _ (by omega) hj10.get⟩
  have h2' : Has σ12 i2 ⟨.own, 1, [I 0, I 0, nilS], []⟩ := ⟨k12 _ _ (by omega) h210.get⟩
  have h1' : Has σ12 i1 ⟨.own, 1, [I 0, I 0, nilS], []⟩ := ⟨k12 _ _ (by omega) h110.get⟩
  have hk : Has σ12 j2 ⟨.own, 1, [I t'.op, I t'.n, u'], []⟩ := ⟨k12 _ _ (by omega) hk10.get⟩
  have hi12 : Has σ12 i (RdO s p11) := inI
  have hle : LeB i σ σ12 := inI
  have b12 : Bk σ12 i s g := hb.le hle
  have z5 := (inI : LeB i σ10 σ12).len
  have RU12 : RepTs σ12 (fun x => σ2.length ≤ x ∧ x ≠ j ∧ x ≠ j2) u t.ps := RU10.mono (fun x o hx ho => k12 x o (by omega) ho) (fun x hx => hx)
  have RV12 : RepTs σ12 (fun x => σ2.length ≤ x ∧ x ≠ j ∧ x ≠ j2) v xs := RV10.mono (fun x o hx ho => k12 x o (by omega) ho) (fun x hx => hx)
  have RP12 : RepTs σ12 (fun x => σ2.length ≤ x ∧ x ≠ j ∧ x ≠ j2) u' t'.ps := RP10.mono (fun x o hx ho => k12 x o (by omega) ho) (fun x hx => hx)
  clear u12 RU10 RV10 RP10 hj10 h210 h110 hk10 hi10 hle10 b10 k12
  have nj : New σ j := ⟨by omega⟩
  have nj2 : New σ j2 := ⟨by omega⟩
  have dj : Dif j j2 := ⟨by omega⟩
  have dj' : Dif j2 j := ⟨by omega⟩
  have rtu : RTs σ12 u t.ps := RU12.rts
  refine wc_cut (ι := (Tm × AV) × (Tm × AV) × Int) [(0, .pt i 0), (2, .pt i1 0), (3, .pt i2 0), (5, .pt j 0), (6, v), (7, .pt j2 0)] (fun _ => []) (fun x σ' => p ≤ x.2.2 ∧ x.2.2 ≤ p + 5100 ∧ Has σ' i (RdO s x.2.2) ∧ LeB i σ σ' ∧ Has σ' j ⟨.own, 1, [I x.1.1.op, I x.1.1.n, x.1.2], []⟩ ∧ Has σ' j2 ⟨.own, 1, [I x.2.1.1.op, I x.2.1.1.n, x.2.1.2], []⟩ ∧ Has σ' i1 ⟨.own, 1, [I 0, I 0, nilS], []⟩ ∧ Has σ' i2 ⟨.own, 1, [I 0, I 0, nilS], []⟩ ∧ RepTs σ' (fun y => σ2.length ≤ y ∧ y ≠ j ∧ y ≠ j2) x.1.2 x.1.1.ps ∧ RepTs σ' (fun y => σ2.length ≤ y ∧ y ≠ j ∧ y ≠ j2) x.2.1.2 x.2.1.1.ps ∧ RepTs σ' (fun y => σ2.length ≤ y ∧ y ≠ j ∧ y ≠ j2) v xs) ?_ ?_
  · repeat' (first
      | (refine wc_callP rfl inI rfl (c_l91Do i s g _ _ (hb := hb.le inI) (by omega) (by omega)) inI (.inl rfl) rfl ?_; intro _ _ _ _ _ _ _ _ _ _)
      | (refine wc_twoTm rfl rfl inI inI rfl (by decide) rfl ?_; intro _ _ _ _ _)
      | (refine wc_oneTm rfl inI inI rfl (by decide) rfl ?_; intro _ _ _ _ _)
      | refine wl_pop rfl (pc_tm02 rfl rfl inI inI rfl) ?_
      | refine wl_pop rfl (pc_tm3 rfl rfl rfl inI inI rfl) ?_
      | refine wl_pop rfl (pc_build0 (cs := [I 0, I 0, nilS]) inI inI rfl) ?_
      | (refine wc_storeA rfl rfl inI inI rfl inI (Nat.le_of_ble_eq_true rfl) (.inr (may_newB i σ)) ?_; intro _ _)
      | refine wl_pop rfl (pc_lenT rfl rtu inI) ?_
      | refine wp_seqA ?_
      | refine wp_region_seq ?_
      | refine thru_seq_next ?_
      | refine thru_block_next ?_
      | refine wp_skipA ?_
      | refine wp_blockA ?_
      | refine wl_nil ?_
      | refine wl_pop rfl (po_move rfl) ?_
      | refine wl_pop rfl (po_assign rfl) ?_
      | refine wl_pop rfl (po_binOp rfl rfl rfl) ?_
      | refine wl_pop rfl (po_fieldAddr rfl inI) ?_
      | refine wc_load1 rfl inI (at_has (.inl rfl) rfl rfl) rfl ?_
      | refine wc_loadn rfl inI (at_has (cs := [_, _, _]) (.inl rfl) rfl rfl) rfl ?_
      | (refine wc_allocA (cs := [_, _, _]) inI rfl inI rfl ?_; intro _ _ _ _ _)
      | refine wl_pop rfl (po_pick rfl rfl) ?_
      | refine wc_guardT_true rfl rfl rfl ?_
      | refine wc_guardF_true rfl rfl rfl rfl ?_
      | refine wc_guardT_false rfl rfl rfl ?_
      | refine wc_guardF_false rfl rfl rfl rfl ?_
      | refine wc_guardP_true rfl rfl rfl rfl (fun _ => ?_) (fun _ => ?_)
      | refine wc_guardP_false rfl rfl rfl rfl (fun _ => ?_) (fun _ => ?_)
      | refine wp_condF rfl ?_
      | refine wp_condP rfl (fun _ => ?_) (fun _ => ?_)
      | fail)
    · rename_i hw k σa ga na ha σb ub
      have w1 := na.le
      have w2 := ha.lt
      have kp : ∀ (x : Nat) (o : Ob), x ≠ j2 → σ12[x]? = some o → σb[x]? = some o := fun x o hx ho => by rw [ub.eq, List.getElem?_set_ne (by omega)]; exact ga.keep x o ho
      have R1 : RepTs σb (fun y => σ2.length ≤ y ∧ y ≠ j ∧ y ≠ j2) u t.ps := RU12.mono (fun x o hx ho => kp x o hx.2.2 ho) (fun x hx => hx)
      have R2 := rep_two (t := t) (t' := t) (j := k) R1 R1 ⟨by omega, by omega, by omega⟩ ⟨by rw [ub.eq, List.getElem?_set_ne (by omega)]; exact ha.get⟩
      exact ⟨((t, u), (.node 2 0 [t, t], .sl k 0 2), p11), ⟨by dsimp only; omega, by dsimp only; omega, ⟨kp _ _ (by omega) hi12.get⟩, inI, ⟨kp _ _ (by omega) hj.get⟩, instHasUpd (g := ub), ⟨kp _ _ (by omega) h1'.get⟩, ⟨kp _ _ (by omega) h2'.get⟩, R1, R2, RV12.mono (fun x o hx ho => kp x o hx.2.2 ho) (fun x hx => hx)⟩, (by repeat' (first | exact sub_nil | refine sub_cons rfl ?_ | refine sub_int rfl (by first | rfl | omega | (push_cast; omega) | simp) ?_ | refine sub_eq rfl (by assumption) ?_))⟩
    · rename_i hw0 hw k σa ga na ha σb ub
      have w1 := na.le
      have w2 := ha.lt
      have kp : ∀ (x : Nat) (o : Ob), x ≠ j2 → σ12[x]? = some o → σb[x]? = some o := fun x o hx ho => by rw [ub.eq, List.getElem?_set_ne (by omega)]; exact ga.keep x o ho
      have R1 : RepTs σb (fun y => σ2.length ≤ y ∧ y ≠ j ∧ y ≠ j2) u t.ps := RU12.mono (fun x o hx ho => kp x o hx.2.2 ho) (fun x hx => hx)
      have R2 := rep_two (t := t) (t' := .node 0 0 []) (u' := nilS) (j := k) R1 .nil ⟨by omega, by omega, by omega⟩ ⟨by rw [ub.eq, List.getElem?_set_ne (by omega)]; exact ha.get⟩
      exact ⟨((t, u), (.node 3 0 [t, .node 0 0 []], .sl k 0 2), p11), ⟨by dsimp only; omega, by dsimp only; omega, ⟨kp _ _ (by omega) hi12.get⟩, inI, ⟨kp _ _ (by omega) hj.get⟩, instHasUpd (g := ub), ⟨kp _ _ (by omega) h1'.get⟩, ⟨kp _ _ (by omega) h2'.get⟩, R1, R2, RV12.mono (fun x o hx ho => kp x o hx.2.2 ho) (fun x hx => hx)⟩, (by repeat' (first | exact sub_nil | refine sub_cons rfl ?_ | refine sub_int rfl (by first | rfl | omega | (push_cast; omega) | simp) ?_ | refine sub_eq rfl (by assumption) ?_))⟩
    · rename_i hps
      have hps' : t.ps.length = 2 := by omega
      obtain ⟨id, off, s1, e1, hat1, hr1⟩ := RU12.part (k := 1) (by omega)
      obtain ⟨id', off', s0, e0, hat0, hr0⟩ := RU12.part (k := 0) (by omega)
      subst e1
      cases e0
      have hat1 : At σ12 id (off + Int.toNat 1 * 3) 3 [I t.ps[1].op, I t.ps[1].n, s1] := hat1
      have hat0 : At σ12 id (off + Int.toNat 0 * 3) 3 [I t.ps[0].op, I t.ps[0].n, s0] := hat0
      have := hr1.rts.one
      have := hr0.rts.one
      refine wc_drawn [12] mixed_ rfl ?_
      all_goals refine da_takeC 0 rfl rfl (by kernel_rfl) (by first | exact po_fieldAddr rfl inI | fail) ?_
      all_goals refine da_takeC 1 rfl rfl (by kernel_rfl) (by first | exact pc_load1L rfl inI (at_has (.inl rfl) rfl rfl) inI | fail) ?_
      all_goals refine da_takeC 2 rfl rfl (by kernel_rfl) (by first | exact po_fieldAddr rfl inI | fail) ?_
      all_goals refine da_takeC 3 rfl rfl (by kernel_rfl) (by first | exact pc_load1L rfl inI (at_has (.inl rfl) rfl rfl) inI | fail) ?_
      all_goals refine da_takeC 4 rfl rfl (by kernel_rfl) (by first | exact pc_indexSlZ rfl rfl inI inI (by decide) (by simp only [hps']; decide) | fail) ?_
      all_goals refine da_takeC 5 rfl rfl (by kernel_rfl) (by first | exact pc_loadnL rfl inI inI inI | fail) ?_
      all_goals refine da_takeC 6 rfl rfl (by kernel_rfl) (by first | exact po_fieldAddr rfl inI | fail) ?_
      all_goals refine da_takeC 7 rfl rfl (by kernel_rfl) (by first | exact pc_load1L rfl inI (at_has (.inl rfl) rfl rfl) inI | fail) ?_
      all_goals refine da_takeC 8 rfl rfl (by kernel_rfl) (by first | exact pc_indexSlZ rfl rfl inI inI (by decide) (by simp only [hps']; decide) | fail) ?_
      all_goals refine da_takeC 9 rfl rfl (by kernel_rfl) (by first | exact pc_loadnL rfl inI inI inI | fail) ?_
      all_goals (first | (refine da_one 10 rfl (by kernel_rfl) (fun _ _ _ _ => ?_); (repeat' (first | (refine wc_twoTm rfl rfl inI inI rfl (by decide) rfl ?_; intro _ _ _ _ _) | fail)); all_goals (first | refine wl_nil ⟨rfl, (by first | exact LeS.len inI | exact App.len (by assumption)), ?_⟩ | trace_state)))
      all_goals refine da_takeC 11 rfl rfl (by kernel_rfl) (by first | exact pc_tm02 rfl rfl inI inI rfl | fail) ?_
      all_goals (refine da_last 12 rfl (by decide) (by kernel_rfl) ?_; (repeat' (first | (refine wc_storeA rfl rfl inI inI rfl inI (Nat.le_of_ble_eq_true rfl) (.inr (may_newB i σ)) ?_; intro _ _) | fail)); all_goals (first | refine wl_nil (dl_in ?_) | trace_state))
      all_goals refine dl_done (by kernel_rfl) ?_
      repeat' (first
        | refine thru_seq_next ?_
        | refine thru_block_next ?_
        | fail)
      rename_i k σa ga na ha σb ub
      have w1 := na.le
      have w2 := ha.lt
      have kp : ∀ (x : Nat) (o : Ob), x ≠ j2 → σ12[x]? = some o → σb[x]? = some o := fun x o hx ho => by rw [ub.eq, List.getElem?_set_ne (by omega)]; exact ga.keep x o ho
      have R1 : RepTs σb (fun y => σ2.length ≤ y ∧ y ≠ j ∧ y ≠ j2) (.sl id off t.ps.length) t.ps := RU12.mono (fun x o hx ho => kp x o hx.2.2 ho) (fun x hx => hx)
      have R2 := rep_two (t := t.ps[1]) (t' := t.ps[0]) (j := k) (hr1.mono (fun x o hx ho => kp x o hx.2.2 ho) (fun x hx => hx)) (hr0.mono (fun x o hx ho => kp x o hx.2.2 ho) (fun x hx => hx)) ⟨by omega, by omega, by omega⟩ ⟨by rw [ub.eq, List.getElem?_set_ne (by omega)]; exact ha.get⟩
      exact ⟨((t, .sl id off t.ps.length), (.node t.op 0 [t.ps[1], t.ps[0]], .sl k 0 2), p11), ⟨by dsimp only; omega, by dsimp only; omega, ⟨kp _ _ (by omega) hi12.get⟩, inI, ⟨kp _ _ (by omega) hj.get⟩, instHasUpd (g := ub), ⟨kp _ _ (by omega) h1'.get⟩, ⟨kp _ _ (by omega) h2'.get⟩, R1, R2, RV12.mono (fun x o hx ho => kp x o hx.2.2 ho) (fun x hx => hx)⟩, (by repeat' (first | exact sub_nil | refine sub_cons rfl ?_ | refine sub_int rfl (by first | rfl | omega | (push_cast; omega) | simp) ?_ | refine sub_eq rfl (by assumption) ?_))⟩
    · exact ⟨((t, u), (t', u'), p11), ⟨by dsimp only; omega, by dsimp only; omega, hi12, hle, hj, hk, h1', h2', RU12, RP12, RV12⟩, (by repeat' (first | exact sub_nil | refine sub_cons rfl ?_ | refine sub_int rfl (by first | rfl | omega | (push_cast; omega) | simp) ?_ | refine sub_eq rfl (by assumption) ?_))⟩
    · exact ⟨((t, u), (t', u'), p11), ⟨by dsimp only; omega, by dsimp only; omega, hi12, hle, hj, hk, h1', h2', RU12, RP12, RV12⟩, (by repeat' (first | exact sub_nil | refine sub_cons rfl ?_ | refine sub_int rfl (by first | rfl | omega | (push_cast; omega) | simp) ?_ | refine sub_eq rfl (by assumption) ?_))⟩
    · rename_i hps
      have hps' : t.ps.length = 2 := by omega
      obtain ⟨id, off, s1, e1, hat1, hr1⟩ := RU12.part (k := 1) (by omega)
      obtain ⟨id', off', s0, e0, hat0, hr0⟩ := RU12.part (k := 0) (by omega)
      subst e1
      cases e0
      have hat1 : At σ12 id (off + Int.toNat 1 * 3) 3 [I t.ps[1].op, I t.ps[1].n, s1] := hat1
      have hat0 : At σ12 id (off + Int.toNat 0 * 3) 3 [I t.ps[0].op, I t.ps[0].n, s0] := hat0
      have := hr1.rts.one
      have := hr0.rts.one
      refine wc_drawn [12] mixed_ rfl ?_
      all_goals refine da_takeC 0 rfl rfl (by kernel_rfl) (by first | exact po_fieldAddr rfl inI | fail) ?_
      all_goals refine da_takeC 1 rfl rfl (by kernel_rfl) (by first | exact pc_load1L rfl inI (at_has (.inl rfl) rfl rfl) inI | fail) ?_
      all_goals refine da_takeC 2 rfl rfl (by kernel_rfl) (by first | exact po_fieldAddr rfl inI | fail) ?_
      all_goals refine da_takeC 3 rfl rfl (by kernel_rfl) (by first | exact pc_load1L rfl inI (at_has (.inl rfl) rfl rfl) inI | fail) ?_
      all_goals refine da_takeC 4 rfl rfl (by kernel_rfl) (by first | exact pc_indexSlZ rfl rfl inI inI (by decide) (by simp only [hps']; decide) | fail) ?_
      all_goals refine da_takeC 5 rfl rfl (by kernel_rfl) (by first | exact pc_loadnL rfl inI inI inI | fail) ?_
      all_goals refine da_takeC 6 rfl rfl (by kernel_rfl) (by first | exact po_fieldAddr rfl inI | fail) ?_
      all_goals refine da_takeC 7 rfl rfl (by kernel_rfl) (by first | exact pc_load1L rfl inI (at_has (.inl rfl) rfl rfl) inI | fail) ?_
      all_goals refine da_takeC 8 rfl rfl (by kernel_rfl) (by first | exact pc_indexSlZ rfl rfl inI inI (by decide) (by simp only [hps']; decide) | fail) ?_
      all_goals refine da_takeC 9 rfl rfl (by kernel_rfl) (by first | exact pc_loadnL rfl inI inI inI | fail) ?_
      all_goals (first | (refine da_one 10 rfl (by kernel_rfl) (fun _ _ _ _ => ?_); (repeat' (first | (refine wc_twoTm rfl rfl inI inI rfl (by decide) rfl ?_; intro _ _ _ _ _) | fail)); all_goals (first | refine wl_nil ⟨rfl, (by first | exact LeS.len inI | exact App.len (by assumption)), ?_⟩ | trace_state)))
      all_goals refine da_takeC 11 rfl rfl (by kernel_rfl) (by first | exact pc_tm02 rfl rfl inI inI rfl | fail) ?_
      all_goals (refine da_last 12 rfl (by decide) (by kernel_rfl) ?_; (repeat' (first | (refine wc_storeA rfl rfl inI inI rfl inI (Nat.le_of_ble_eq_true rfl) (.inr (may_newB i σ)) ?_; intro _ _) | fail)); all_goals (first | refine wl_nil (dl_in ?_) | trace_state))
      all_goals refine dl_done (by kernel_rfl) ?_
      repeat' (first
        | refine thru_seq_next ?_
        | refine thru_block_next ?_
        | fail)
      rename_i k σa ga na ha σb ub
      have w1 := na.le
      have w2 := ha.lt
      have kp : ∀ (x : Nat) (o : Ob), x ≠ j2 → σ12[x]? = some o → σb[x]? = some o := fun x o hx ho => by rw [ub.eq, List.getElem?_set_ne (by omega)]; exact ga.keep x o ho
      have R1 : RepTs σb (fun y => σ2.length ≤ y ∧ y ≠ j ∧ y ≠ j2) (.sl id off t.ps.length) t.ps := RU12.mono (fun x o hx ho => kp x o hx.2.2 ho) (fun x hx => hx)
      have R2 := rep_two (t := t.ps[1]) (t' := t.ps[0]) (j := k) (hr1.mono (fun x o hx ho => kp x o hx.2.2 ho) (fun x hx => hx)) (hr0.mono (fun x o hx ho => kp x o hx.2.2 ho) (fun x hx => hx)) ⟨by omega, by omega, by omega⟩ ⟨by rw [ub.eq, List.getElem?_set_ne (by omega)]; exact ha.get⟩
      exact ⟨((t, .sl id off t.ps.length), (.node t.op 0 [t.ps[1], t.ps[0]], .sl k 0 2), p11), ⟨by dsimp only; omega, by dsimp only; omega, ⟨kp _ _ (by omega) hi12.get⟩, inI, ⟨kp _ _ (by omega) hj.get⟩, instHasUpd (g := ub), ⟨kp _ _ (by omega) h1'.get⟩, ⟨kp _ _ (by omega) h2'.get⟩, R1, R2, RV12.mono (fun x o hx ho => kp x o hx.2.2 ho) (fun x hx => hx)⟩, (by repeat' (first | exact sub_nil | refine sub_cons rfl ?_ | refine sub_int rfl (by first | rfl | omega | (push_cast; omega) | simp) ?_ | refine sub_eq rfl (by assumption) ?_))⟩
    · exact ⟨((t, u), (t', u'), p11), ⟨by dsimp only; omega, by dsimp only; omega, hi12, hle, hj, hk, h1', h2', RU12, RP12, RV12⟩, (by repeat' (first | exact sub_nil | refine sub_cons rfl ?_ | refine sub_int rfl (by first | rfl | omega | (push_cast; omega) | simp) ?_ | refine sub_eq rfl (by assumption) ?_))⟩
    · rename_i hw0 hw1 hw2 hw v q σa σb k1 k2 k3 k4 ga ub' i3 σc gc nc hc i4 σd gd nd hd σe ue i5 σf gf nf hf i6 σg gg ng hg σh uh σi ui
      have w0 := (inI : LeB i σ12 σb).len
      have w1 := nc.le
      have w2 := hc.lt
      have w3 := nd.le
      have w4 := hd.lt
      have w5 := Upd.len ue
      have w6 := nf.le
      have w7 := hf.lt
      have w8 := ng.le
      have w9 := hg.lt
      have w10 := gc.len
      have w11 := gd.len
      have w12 := gf.len
      have w13 := gg.len
      have kp : ∀ (x : Nat) (o : Ob), x ≠ i → x ≠ j → x ≠ j2 → σ12[x]? = some o → σi[x]? = some o := fun x o h1 h2 h3 ho => by
        have hx := Has.lt ⟨ho⟩
        rw [ui.eq, List.getElem?_set_ne (by omega), uh.eq, List.getElem?_set_ne (by omega)]
        refine gg.keep x o (gf.keep x o ?_)
        rw [ue.eq, List.getElem?_set_ne (by omega)]
        exact gd.keep x o (gc.keep x o ((inI : LeB i σ12 σb).keep.keep x o h1 ho))
      have kc : ∀ (x : Nat) (o : Ob), x ≠ j → x ≠ j2 → x ≠ i4 → σc[x]? = some o → σi[x]? = some o := fun x o h1 h2 h3 ho => by
        rw [ui.eq, List.getElem?_set_ne (by omega), uh.eq, List.getElem?_set_ne (by omega)]
        refine gg.keep x o (gf.keep x o ?_)
        rw [ue.eq, List.getElem?_set_ne (by omega)]
        exact gd.keep x o ho
      have hq : Has σi i (RdO s q) := ⟨kc _ _ (by omega) (by omega) (by omega) (gc.keep _ _ (instHasUpd (g := ub') : Has σb i (RdO s q)).get)⟩
      have R1 : RepTs σi (fun y => σ2.length ≤ y ∧ y ≠ j ∧ y ≠ j2) u t.ps := RU12.mono (fun x o hx ho => kp x o (by omega) hx.2.1 hx.2.2 ho) (fun x hx => hx)
      have R2 := rep_one (t := t) (j := i3) R1 ⟨by omega, by omega, by omega⟩ ⟨kc _ _ (by omega) (by omega) (by omega) hc.get⟩
      have R3 := rep_one (t := t) (j := i5) R1 ⟨by omega, by omega, by omega⟩ ⟨by rw [ui.eq, List.getElem?_set_ne (by omega), uh.eq, List.getElem?_set_ne (by omega)]; exact gg.keep _ _ hf.get⟩
      have R4 := rep_one (t := .node 1 0 [t]) (j := i6) R3 ⟨by omega, by omega, by omega⟩ ⟨by rw [ui.eq, List.getElem?_set_ne (by omega), uh.eq, List.getElem?_set_ne (by omega)]; exact hg.get⟩
      have hk9 : Has σi j2 ⟨.own, 1, [I 1, I v, .sl i6 0 1], []⟩ := ⟨by rw [ui.eq, List.getElem?_set_ne (by omega)]; exact (instHasUpd (g := uh) : Has σh j2 ⟨.own, 1, [I 1, I v, .sl i6 0 1], []⟩).get⟩
      have hj9 : Has σi j ⟨.own, 1, [I 1, I v, .sl i3 0 1], []⟩ := instHasUpd (g := ui)
      refine ⟨((.node 1 v [t], .sl i3 0 1), (.node 1 v [.node 1 0 [t]], .sl i6 0 1), q), ⟨by dsimp only; omega, by dsimp only; omega, hq, ⟨⟨fun x o hx ho => ?_⟩, ?_⟩, hj9, hk9, ⟨kp _ _ (by omega) (by omega) (by omega) h1'.get⟩, ⟨kp _ _ (by omega) (by omega) (by omega) h2'.get⟩, R2, R4, RV12.mono (fun x o hx ho => kp x o (by omega) hx.2.1 hx.2.2 ho) (fun x hx => hx)⟩, (by repeat' (first | exact sub_nil | refine sub_cons rfl ?_ | refine sub_int rfl (by first | rfl | omega | (push_cast; omega) | simp) ?_ | refine sub_eq rfl (by assumption) ?_))⟩
      · have := Has.lt ⟨ho⟩
        exact kp x o hx (by omega) (by omega) (hle.keep.keep x o hx ho)
      · have := Upd.len ui; have := Upd.len uh; have := hle.len; omega
    · exact ⟨((t, u), (t', u'), p11), ⟨by dsimp only; omega, by dsimp only; omega, hi12, hle, hj, hk, h1', h2', RU12, RP12, RV12⟩, (by repeat' (first | exact sub_nil | refine sub_cons rfl ?_ | refine sub_int rfl (by first | rfl | omega | (push_cast; omega) | simp) ?_ | refine sub_eq rfl (by assumption) ?_))⟩
  rintro ⟨⟨ta, ua⟩, ⟨tb, ub⟩, q⟩ σ' ⟨c1, c2, c3, c4, c5, c6, c7, c8, c9, c10, c11⟩
  dsimp only at c1 c2 c3 c5 c6 c9 c10 ⊢
  have := c9.rts.one
  have := c10.rts.one
  have v1 := c5.lt
  have v2 := c6.lt
  repeat' (first
    | refine wc_holdR 16 ?_
    | refine wp_seqA ?_
    | fail)
  refine hold_go ?_
  refine wc_drawnXp (t := 2) i1 [4, 5] mixed_ rfl rfl ?_
  refine dx_loadnB 0 rfl rfl (by kernel_rfl) rfl inI (at_has (h := c5) (cs := [_, _, _]) (.inl rfl) rfl rfl) v1 c7 (by omega) ?_
  refine dx_loadnB 1 rfl rfl (by kernel_rfl) rfl inI (at_has (h := c6) (cs := [_, _, _]) (.inl rfl) rfl rfl) v2 c7 (by omega) ?_
  refine dx_pure 2 rfl rfl (by kernel_rfl) (po_move rfl) ?_
  refine dx_one 3 rfl (by kernel_rfl) c7 (.inr (by omega)) ?_
  intro N' B' w' r' may' hmay
  refine wc_storeA rfl rfl inI c7 rfl inI (Nat.le_of_ble_eq_true rfl) (hmay _ (.inl rfl)) ?_
  intro σa ua'
  have d12 : Has σa i2 ⟨.own, 1, [I 0, I 0, nilS], []⟩ := ⟨by rw [ua'.eq, List.getElem?_set_ne (by omega)]; exact c8.get⟩
  refine wl_nil ⟨rfl, by have := Upd.len ua'; omega, ?_⟩
  refine dx_last 4 rfl (by decide) (by kernel_rfl) ?_
  refine wc_storeA rfl rfl inI d12 rfl inI (Nat.le_of_ble_eq_true rfl) (.inr (by show σ.length ≤ i2; omega)) ?_
  intro σb ub'
  refine wl_nil (dl_in ?_)
  refine dl_last 5 rfl (by decide) (by kernel_rfl) ?_
  refine wl_pop rfl (po_assign rfl) ?_
  refine wl_nil (dl_in ?_)
  refine dl_done (by kernel_rfl) ?_
  have e1 : Has σb i1 ⟨.own, 1, [I ta.op, I ta.n, ua], []⟩ := ⟨by rw [ub'.eq, List.getElem?_set_ne (by omega)]; exact (instHasUpd (g := ua') : Has σa i1 ⟨.own, 1, [I ta.op, I ta.n, ua], []⟩).get⟩
  have e2 : Has σb i2 ⟨.own, 1, [I tb.op, I tb.n, ub], []⟩ := instHasUpd (g := ub')
  have kk : ∀ (x : Nat) (o : Ob), x ≠ i1 → x ≠ i2 → σ'[x]? = some o → σb[x]? = some o := fun x o h1 h2 ho => by rw [ub'.eq, List.getElem?_set_ne (by omega), ua'.eq, List.getElem?_set_ne (by omega)]; exact ho
  have lb : σb.length = σ'.length := by have := Upd.len ub'; have := Upd.len ua'; omega
  repeat' (first
    | refine at_ret (res_cct rfl rfl inI (at_has (h := e1) (cs := [_, _, _]) (.inl rfl) rfl rfl) rfl inI (at_has (h := e2) (cs := [_, _, _]) (.inl rfl) rfl rfl) rfl) ?_
    | refine thru_seq_next ?_
    | refine wp_retA ?_
    | fail)
  refine ⟨⟨q, c1, by omega, ⟨kk _ _ (by omega) (by omega) c3.get⟩⟩, ⟨⟨fun x o hx ho => kk x o (by have := Has.lt ⟨ho⟩; omega) (by have := Has.lt ⟨ho⟩; omega) (c4.keep.keep x o hx ho)⟩, by have := c4.len; omega⟩, ta, tb, ua, ub, v, xs, rfl, ⟨c9.mono (fun x o hx ho => kk x o (by omega) (by omega) ho) (fun x hx => by omega)⟩, ⟨c10.mono (fun x o hx ho => kk x o (by omega) (by omega) ho) (fun x hx => by omega)⟩, ⟨c11.mono (fun x o hx ho => kk x o (by omega) (by omega) ho) (fun x hx => by omega)⟩, hx⟩
end
end Go.Proofs.YthbodgnoadlbcaaGreatDoor.Asl
