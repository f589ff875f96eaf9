/- The reader: a term that may not fit. -/
import Derived.Test.YtcmkkmlgdkhmiaaD4
namespace Go.Proofs.Ytcmkkmlgdkhmiaa.Asl
open Go.RowKit
set_option linter.unusedVariables false
set_option linter.unusedSimpArgs false
attribute [local irreducible] WP WL andThen inBlock noGoto atEnd ACall DA DL PO Hold
set_option maxHeartbeats 4000000
theorem appends_nil' {P : Program} {σ : Store} {size : Nat} {a : Option Addr} {c : Nat} : Appends P σ size 0 (.lit (.slice a 0 c)) [] :=
  ⟨by simp, by simp, fun base ρ w v hs hr => by
    cases hr
    refine ⟨rfl, [], .nil, ?_⟩
    cases a <;> simp [Builtin.firstCells, Sem.run_pure, loadCells, loadCellsFrom]⟩
theorem RepD.cons {σ σ' : Store} {G : Nat → Prop} {j id : Nat} {l : List AV} {ps : List Tm} {op n : Int} (h : RepD σ G (.sl id 0 ps.length) ps) (hl : Has σ id ⟨.own, 3, l, []⟩) (hk : ∀ (x : Nat) (o : Ob), G x → σ[x]? = some o → σ'[x]? = some o) (hid : ∀ x, G x → x ≠ j) (hj : Has σ' j ⟨.own, 3, [I op, I n, nilS] ++ l, []⟩) (hb : ps.length < 4294967296) :
    RepD σ' (fun x => G x ∨ x = j) (.sl j 0 (Tm.node op n [] :: ps).length) (.node op n [] :: ps) := by
  generalize hv : AV.sl id 0 ps.length = v at h
  cases h with
  | nil => cases hv
  | @row _ id0 l0 _ ss Fs h1 h2 h3 h4 h5 h6 h7 h8 h9 =>
    cases hv
    have el : l0 = l := by
      have := h2.get.symm.trans hl.get
      simpa using this
    subst el
    refine RepD.row (nilS :: ss) (fun k x => if k = 0 then False else Fs (k - 1) x) (.inr rfl) hj (by simp; omega) (by simp; omega) (by simp [h5]) ?_ ?_ ?_ ?_
    · intro k hk' x hx
      cases k with
      | zero => simp at hx
      | succ k => have := h6 k (by simpa using hk') x (by simpa using hx); exact ⟨.inl this.1, hid x this.1⟩
    · intro k k' x hk' hk2 hx hx'
      cases k with
      | zero => simp at hx
      | succ k =>
        cases k' with
        | zero => simp at hx'
        | succ k' => have := h7 k k' x (by simpa using hk') (by simpa using hk2) (by simpa using hx) (by simpa using hx'); omega
    · intro k t' s' ht hs
      cases k with
      | zero => simp at ht hs; subst ht hs; simp [cutL, Tm.op, Tm.n]
      | succ k =>
        have := h8 k t' s' (by simpa using ht) (by simpa using hs)
        rw [← this]
        simp only [cutL, Nat.add_mul, Nat.one_mul]
        rw [show k * 3 + 3 = [I op, I n, nilS].length + k * 3 by simp; omega, List.drop_append, List.drop_eq_nil_of_le (by omega)]
        simp
    · intro k t' s' ht hs
      cases k with
      | zero => simp at ht hs; subst ht hs; exact .nil
      | succ k =>
        have ht' : ps[k]? = some t' := by simpa using ht
        have := h9 k t' s' ht' (by simpa using hs)
        exact this.mono (fun x o hx ho => hk x o (h6 k (get_lt ht') x (by simpa using hx)).1 ho) (fun x hx => by simpa using hx)
section
variable {E : Env} {ops : Array Oper} {l : List Oper} {Q : Exit → Slots → Store → Prop} {S : Slots} {σ σ₀ : Store} {d : Option Tmp} {ty : TypeId} {pos : String} {af : Array Edge} {x y : Operand}
theorem wc_consTm {t e : TypeId} {bytes : Nat} {z : Value} {G : Nat → Prop} {j : Nat} {u : AV} {ps : List Tm} {op n : Int} (hx : S.ev x = some (.sl j 0 1)) (hy : S.ev y = some u) (ht : Un E.P t (.slice e)) (he : Ty E.P e true 3 bytes z) (hz : z.cells.size = 3) (hb0 : 0 < bytes) (hb : bytes ≤ 4096)
    (hj : Has σ j ⟨.own, 3, [I op, I n, nilS], []⟩) (hu : RepD σ G u ps) (hne : ∀ x, G x → x ≠ j) (hps : ps.length ≤ 100) (hm : E.may j) (hd : okd E d = true)
    (k : ∀ i σ₁ σ', Upd σ j ⟨.dead, 3, [I op, I n, nilS], []⟩ σ₁ → Grow σ₁ σ' → New σ i → RepD σ' (fun x => G x ∨ x = i) (.sl i 0 (Tm.node op n [] :: ps).length) (.node op n [] :: ps) → WL E ops l Q (S.put d (.sl i 0 (1 + ps.length))) σ') :
    WL E ops (⟨d, .call ⟨.builtin .append, #[x, y], #[t, t]⟩, ty, pos, af, none⟩ :: l) Q S σ := by
  have hlim : (1 + ps.length) * bytes ≤ 140737488355328 := by
    have := Nat.mul_le_mul (show 1 + ps.length ≤ 101 by omega) hb
    omega
  have hul := hu.lt
  generalize hs : u = u0 at hu
  cases hu with
  | nil =>
    subst hs
    refine wc_append hx hy ht.eq he hz hb0 hj rfl rfl appends_nil' hm hlim hd fun i σ₁ σ' u1 g1 n1 h1 => ?_
    refine k i σ₁ σ' u1 g1 n1 ?_
    exact (RepD.single (σ := σ') (G := fun _ => False) (t := .node op n []) (u := nilS) .nil (fun x o hx _ => hx.elim) (fun x hx => hx.elim) (by simpa [Tm.op, Tm.n] using h1)).mono (fun _ _ _ h => h) (fun x hx => .inr (by rcases hx with hx | hx; exact hx.elim; exact hx))
  | @row _ id l0 _ ss Fs h1 h2 h3 h4 h5 h6 h7 h8 h9 =>
    subst hs
    have hrow : RepD σ G (.sl id 0 ps.length) ps := .row ss Fs h1 h2 h3 h4 h5 h6 h7 h8 h9
    have hone : ∀ c ∈ l0, c.one = true := by
      intro c hc
      obtain ⟨q, hq, rfl⟩ := List.getElem_of_mem hc
      have hk : q / 3 < ps.length := by omega
      have := h8 (q / 3) ps[q / 3] (ss[q / 3]'(by omega)) (List.getElem?_eq_getElem hk) (List.getElem?_eq_getElem (by omega))
      have hcell : l0[q]? = [I ps[q / 3].op, I ps[q / 3].n, ss[q / 3]'(by omega)][q % 3]? := by
        rw [← this]
        unfold cutL
        rw [List.getElem?_take, if_pos (by omega), List.getElem?_drop]
        congr 1; omega
      rw [List.getElem?_eq_getElem hq] at hcell
      have hso : (ss[q / 3]'(by omega)).one = true := (h9 (q / 3) _ _ (List.getElem?_eq_getElem hk) (List.getElem?_eq_getElem (by omega))).one.eq
      have h3' : q % 3 = 0 ∨ q % 3 = 1 ∨ q % 3 = 2 := by omega
      rcases h3' with e | e | e <;> rw [e] at hcell <;> simp at hcell <;> rw [hcell]
      · rfl
      · rfl
      · exact hso
    have hap : Appends E.P σ 3 ps.length (.sl id 0 ps.length) l0 := Appends.row h2.get (.inr rfl) (by rw [cut_cutL]; unfold cutL; simp [← h3]) h3 hone
    refine wc_append hx hy ht.eq he hz hb0 hj rfl rfl hap hm hlim hd fun i σ₁ σ' u1 g1 n1 h1' => ?_
    have hlen : ∀ x, G x ∧ x < σ.length → x ≠ i := fun x hx e => by have := n1.le; omega
    have R := RepD.cons (σ' := σ') (j := i) (op := op) (n := n) hrow.lt h2 (fun x o hx ho => g1.keep x o (by rw [u1.eq, List.getElem?_set_ne (Ne.symm (hne x hx.1))]; exact ho)) hlen h1' (by omega)
    exact k i σ₁ σ' u1 g1 n1 (R.mono (fun _ _ _ h => h) (fun x hx => hx.imp (fun h => h.1) (fun h => h)))
end
section
variable {base : Nat}
theorem ne_new {σ : Store} {x j : Nat} [n : New σ j] (h : x < σ.length) : x ≠ j := fun e => by have := n.le; omega
def QU (σ : Store) : AV → Store → Prop := fun r σ' => ∃ (t : Tm) (u : AV), r = .agg [I t.op, I t.n, u] ∧ RTsD σ σ' u t.ps
theorem c_l91Term (i : Nat) (s : AV) (g : List UInt8) (p m : Int) (σ : Store) [hi : Has σ i (RdO s p)] [hb : Bk σ i s g] (hm0 : 0 ≤ m) (hm : m ≤ 100) (hp : 0 ≤ p) (hp2 : p ≤ 999990000) : ACall Try.prog base F_spec_l91Term [.pt i 0, I m] σ (fun j => j = i) (RetRd σ i s p 1000 (QU σ)) := by
  have := hb.rw.one
  have hi0 := hi.lt
  refine acall2 fun_spec_l91Term rfl tmps_spec_l91Term rfl fun N B w₀ ρ₀ => ?_
  repeat' (first
    | (refine wc_callP rfl inferInstance rfl (c_pick i s g _ _ _ (hb := hb.le inferInstance) (by omega) (by omega)) inferInstance (.inl rfl) rfl ?_; intro _ _ _ _ _ _ _ _ _ _)
    | (refine wc_callRT rfl inferInstance rfl (@c_good _ i s g _ _ _ _ _ inferInstance (hb.le inferInstance) (by omega) (by omega) (by omega) (by omega) (by omega) (by omega)) inferInstance (.inl rfl) rfl ?_; intro _ _ _ _ _ _ _ _ _ _ _ _)
    | (refine wc_storeA rfl rfl inferInstance inferInstance rfl inferInstance (Nat.le_of_ble_eq_true rfl) (.inr (may_newB i σ)) ?_; intro _ _)
    | refine wc_hold 0 ?_
    | refine wp_seqA ?_
    | refine wp_region_seq ?_
    | refine thru_seq_next ?_
    | refine wl_nil ?_
    | refine wl_pop rfl (po_move rfl) ?_
    | refine wl_pop rfl (pc_add rfl rfl (by omega) (by omega)) ?_
    | (refine wc_allocA (cs := [_, _, _]) inferInstance rfl inferInstance rfl ?_; intro _ _ _ _ _)
    | fail)
  rename_i i1 σ1 g1 n1 h1 v1 p1 σ2 σ3 a1 a2 a3 a4 g3 u3 t u p2 σ4 σ5 ho hr hg a5 a6 g5 u5 j σ6 g6 n6 h6 σ7 u7 v2 p3 σ8 σ9 a7 a8 a9 a10 g9 u9
  obtain ⟨hg1, hg2, hg3⟩ := hg
  have y1 := (inferInstance : LeB i σ σ3).len
  have y2 := (inferInstance : LeB i σ σ5).len
  have y3 := n6.le
  have hj1 : σ.length ≤ j := by omega
  have y4 := h1.lt
  have y5 := (inferInstance : LeB i σ1 σ3).len
  have y6 := (inferInstance : LeB i σ3 σ5).len
  have y7 := (inferInstance : LeB i σ5 σ9).len
  have RP : RepD σ9 (fun x => σ3.length ≤ x ∧ x < σ5.length) u t.ps := hr.rep.lt.mono (fun x o hx ho => (inferInstance : LeB i σ5 σ9).keep.keep x o (by omega) ho) (fun x hx => hx)
  have d1 : Dif i1 j := ⟨by omega⟩
  have d2 : Dif i j := ⟨by omega⟩
  have h9 : Has σ9 j ⟨.own, 3 - 2, [I t.op, I t.n, u], []⟩ := (inferInstance : Has σ9 j ⟨.own, 1, splice [I 0, I 0, nilS] 0 [I t.op, I t.n, u], []⟩)
  have hi9 : Has σ9 i (RdO s p3) := inferInstance
  have hi1 : Has σ9 i1 ⟨.own, 1, [I 0, I 0, nilS], []⟩ := (inferInstance : Has σ9 i1 _)
  have hle9 : LeB i σ σ9 := inferInstance
  refine wc_cut (ι := Tm × AV × Int) [(0, .pt i 0), (4, .pt i1 0), (5, .pt j 0)] (fun _ => []) (fun x σ' => p ≤ x.2.2 ∧ x.2.2 ≤ p + 900 ∧ Has σ' i (RdO s x.2.2) ∧ LeB i σ σ' ∧ Has σ' j ⟨.own, 1, [I x.1.op, I x.1.n, x.2.1], []⟩ ∧ One x.2.1 ∧ RTsD σ1 σ' x.2.1 x.1.ps ∧ Has σ' i1 ⟨.own, 1, [I 0, I 0, nilS], []⟩) ?_ ?_
  · have h9' : Has σ9 j ⟨.own, 1, [I t.op, I t.n, u], []⟩ := h9
    have hnj : New σ j := ⟨hj1⟩
    clear h9 u7 h6 h1
    repeat' (first
      | (refine wc_callP rfl inferInstance rfl (c_pick i s g _ _ _ (hb := hb.le inferInstance) (by omega) (by omega)) inferInstance (.inl rfl) rfl ?_; intro _ _ _ _ _ _ _ _ _ _)
      | refine wl_pop rfl (pc_build0 (cs := [I 0, I 0, nilS]) inferInstance inferInstance rfl) ?_
      | (refine wc_oneTm rfl inferInstance inferInstance rfl (by decide) rfl ?_; intro _ _ _ _ _)
      | (refine wc_consTm (G := fun x => σ3.length ≤ x ∧ x < σ5.length) rfl rfl inferInstance inferInstance rfl (by decide) (by decide) inferInstance (RP.mono (fun x o hx ho => (inferInstance : LeB i σ9 _).keep.keep x o (by omega) ho) (fun _ h => h)) (fun x hx => ne_new (σ := σ9) (by omega)) (by omega) (.inr (may_newB i σ)) rfl ?_; intro _ _ _ _ _ _ _)
      | (refine wc_store1 rfl rfl inferInstance inferInstance inferInstance (Nat.le_of_ble_eq_true rfl) (.inr hj1) ?_; intro _ _)
      | refine wp_seqA ?_
      | refine wp_region_seq ?_
      | refine thru_seq_next ?_
      | refine thru_block_next ?_
      | refine wp_skipA ?_
      | refine wp_blockA ?_
      | refine wl_nil ?_
      | refine wl_pop rfl (po_move rfl) ?_
      | refine wl_pop rfl (po_assign rfl) ?_
      | refine wl_pop rfl (pc_add rfl rfl (by omega) (by omega)) ?_
      | refine wl_pop rfl (po_binOp rfl rfl rfl) ?_
      | refine wl_pop rfl (po_fieldAddr rfl inferInstance) ?_
      | refine wc_load1 rfl inferInstance (at_has (.inl rfl) rfl rfl) rfl ?_
      | refine wp_condP rfl (fun _ => ?_) (fun _ => ?_)
      | fail)
    · rename_i hv σ10 u10
      exact ⟨(.node t.op (t.n + 7) t.ps, u, p3), ⟨by dsimp only; omega, by dsimp only; omega, inferInstance, inferInstance, instHasUpd (g := u10), ho, ⟨RP.mono (fun x o hx ho => by rw [u10.eq, List.getElem?_set_ne (by omega)]; exact ho) (fun x hx => by omega)⟩, inferInstance⟩, (by repeat' (first | exact sub_nil | refine sub_cons rfl ?_ | refine sub_int rfl (by first | rfl | omega | (push_cast; omega) | simp) ?_ | refine sub_eq rfl (by assumption) ?_))⟩
    · rename_i hv hv1 v3 p4 σ10 σ11 c1 c2 c3 c4 g11 u11 σ12 u12
      exact ⟨(.node v3 t.n t.ps, u, p4), ⟨by dsimp only; omega, by dsimp only; omega, inferInstance, inferInstance, instHasUpd (g := u12), ho, ⟨RP.mono (fun x o hx ho => by rw [u12.eq, List.getElem?_set_ne (by omega)]; exact (inferInstance : LeB i σ9 σ11).keep.keep x o (by omega) ho) (fun x hx => by omega)⟩, inferInstance⟩, (by repeat' (first | exact sub_nil | refine sub_cons rfl ?_ | refine sub_int rfl (by first | rfl | omega | (push_cast; omega) | simp) ?_ | refine sub_eq rfl (by assumption) ?_))⟩
    · rename_i hv hv1 hv2 jr σ10 g10 n10 h10 k σ11 σ12 u11 g12 n12 R12 σ13 u13
      have el : (Tm.node 0 0 [] :: t.ps).length = 1 + t.ps.length := by rw [List.length_cons, Nat.add_comm]
      rw [el] at R12
      have z1 := n12.le
      have z2 := g10.len
      have z3 := h9'.lt
      exact ⟨(.node t.op t.n (.node 0 0 [] :: t.ps), .sl k 0 (1 + t.ps.length), p3), ⟨by dsimp only; omega, by dsimp only; omega, inferInstance, inferInstance, instHasUpd (g := u13), inferInstance, ⟨R12.mono (fun x o hx ho => by rw [u13.eq, List.getElem?_set_ne (by omega)]; exact ho) (fun x hx => by omega)⟩, inferInstance⟩, (by repeat' (first | exact sub_nil | refine sub_cons rfl ?_ | refine sub_int rfl (by first | rfl | omega | (push_cast; omega) | simp) ?_ | refine sub_eq rfl (by assumption) ?_))⟩
    · exact ⟨(t, u, p3), ⟨by dsimp only; omega, by dsimp only; omega, hi9, hle9, h9', ho, ⟨RP.mono (fun _ _ _ h => h) (fun x hx => by omega)⟩, hi1⟩, (by repeat' (first | exact sub_nil | refine sub_cons rfl ?_ | refine sub_int rfl (by first | rfl | omega | (push_cast; omega) | simp) ?_ | refine sub_eq rfl (by assumption) ?_))⟩
  rintro ⟨t', u', q⟩ σ' ⟨b1, b2, b3, b4, b5, b6, b7, b8⟩
  dsimp only at b1 b2 b3 b5 b6 b7 ⊢
  repeat' (first
    | refine wp_seqA ?_
    | refine wp_region_seq ?_
    | refine thru_seq_next ?_
    | refine wp_retA ?_
    | refine wl_nil ?_
    | refine wc_loadn rfl inferInstance (at_has (cs := [_, _, _]) (.inl rfl) rfl rfl) rfl ?_
    | (refine wc_storeA rfl rfl inferInstance inferInstance rfl inferInstance (Nat.le_of_ble_eq_true rfl) (.inr (may_new _)) ?_; intro _ _)
    | refine at_ret (res_cell rfl rfl inferInstance (at_has (cs := [_, _, _]) (.inl rfl) rfl rfl)) ?_
    | fail)
  rename_i σ11 u11
  exact ⟨⟨q, b1, by omega, inferInstance⟩, inferInstance, t', u', rfl, (inferInstance : RTsD σ1 σ11 u' t'.ps).down g1.len⟩
end
end Go.Proofs.Ytcmkkmlgdkhmiaa.Asl
