/- The steps of a term: the judge's whole, and the program's. -/
import Derived.Test.YthbodgnoadlbcaaT26
namespace Go.Proofs.Ythbodgnoadlbcaa.Asl
open Go.RowKit Go.Proofs.YthbodgnoadlbcaaW.PrintLast
set_option linter.unusedVariables false
set_option linter.unusedSimpArgs false
attribute [local irreducible] WP WL andThen inBlock noGoto atEnd ACall DA DL PO Hold nodeOk
set_option maxHeartbeats 4000000
set_option synthInstance.maxHeartbeats 400000
set_option synthInstance.maxSize 10000
/-- A term is handed back, that shares. -/
def RetTG (G : Nat → Prop) (σ : Store) (t : Tm) : AV → Store → Prop := fun r σ' => ∃ u, r = .agg [I t.op, I t.n, u] ∧ RTsG G σ' u t.ps ∧ Grow σ σ'
section
variable {base : Nat} {G : Nat → Prop} {ds : List Tm}
theorem c_l3S_call {n : Int} {L : List Stp} (hn : 0 ≤ n ∧ n < ds.length) (hk : CSt base F_spec_l3Steps G ds (ds.getD n.toNat nilT) L) (σ : Store) (s d : AV) (hG : ∀ i, σ.length ≤ i → G i) [hs : RTsG G σ s []] [hd : RTsG G σ d ds] : ACall Try.prog base F_spec_l3Steps [.agg [I 5, I n, s], d] σ (fun _ => False) (RetSt G σ L) := by
  have := hs.one
  have := hd.one
  have hk' : n.toNat < ds.length := by omega
  obtain ⟨id, off, a, rfl, hat, ra⟩ := hd.part hk'
  have e : ds.getD n.toNat nilT = ds[n.toNat] := by simp [List.getD_eq_getElem?_getD, hk']
  rw [e] at hk
  have := ra.one
  refine acall2 fun_spec_l3Steps rfl tmps_spec_l3Steps rfl fun N B w₀ ρ₀ => ?_
  repeat' (first
    | (refine wc_row0 (α := StC) inferInstance inferInstance rfl rfl (by decide) rfl ?_; intro _ _ _ _ _)
    | refine wl_pop rfl (pc_indexSlZ rfl rfl inferInstance inferInstance (by omega) (by omega)) ?_
    | (refine wc_callSt rfl inferInstance rfl (hk _ _ _ (gup hG inferInstance) inferInstance inferInstance) rfl ?_; intro _ _ _ _ _ _ _)
    | refine wp_seqA ?_
    | refine wp_region_seq ?_
    | refine thru_seq_next ?_
    | refine thru_block_next ?_
    | refine wp_retA ?_
    | refine wp_blockA ?_
    | refine wl_nil ?_
    | refine wl_pop rfl (po_move rfl) ?_
    | refine wl_pop rfl (po_assign rfl) ?_
    | refine wl_pop rfl (po_binOp rfl rfl rfl) ?_
    | refine wl_pop rfl (po_fieldAddr rfl inferInstance) ?_
    | refine wc_load1 rfl inferInstance (at_has (.inl rfl) rfl rfl) rfl ?_
    | refine wc_loadn rfl inferInstance inferInstance rfl ?_
    | (refine wc_boxA rfl inferInstance rfl ?_; intro _ _ _ _ _)
    | refine wp_condT rfl ?_
    | refine wp_condF rfl ?_
    | refine at_ret (res1 rfl rfl) ?_
    | fail)
  rename_i i1 σ1 g1 n1 h1 i2 σ2 g2 n2 h2 u xa σ3 o3 ow3 sr3 g3
  exact ret_st (σ₁ := σ2) ow3 sr3 inferInstance inferInstance rfl
theorem bares_part {op n : Int} {ps : List Tm} {p : Tm} (hp : p ∈ ps) (h1 : op ≠ 1) (hb : p.bare = true) : (Tm.node op n ps).bare = true := by
  simp only [Tm.bare, Tm.bares_eq, Bool.or_eq_true, Bool.and_eq_true, decide_eq_true_eq, List.any_eq_true]
  exact .inr ⟨h1, p, hp, hb⟩
/-- The contract of a walk over the six kinds of terms. -/
structure Kinds (base : Nat) (f : FuncId) (G : Nat → Prop) (ds : List Tm) : Prop where
  nil : CSt base f G ds nilT []
  act : ∀ (n : Int) (p : Tm), CSt base f G ds (.node 1 n [p]) [(n, p)]
  sum : ∀ {p q : Tm} {LA LB : List Stp}, CSt base f G ds p LA → CSt base f G ds q LB → (LA ++ LB).length ≤ 4000000 → CSt base f G ds (.node 2 0 [p, q]) (LA ++ LB)
  par : ∀ {p q : Tm} {LA LB : List Stp}, CSt base f G ds p LA → CSt base f G ds q LB → (∀ x ∈ LA, -4 ≤ x.1 ∧ x.1 ≤ 4) → (∀ x ∈ LB, -4 ≤ x.1 ∧ x.1 ≤ 4) → (parL p q LA LB).length ≤ 4000000 → CSt base f G ds (.node 3 0 [p, q]) (parL p q LA LB)
  hide : ∀ {n : Int} {p : Tm} {LA : List Stp}, (0 ≤ n ∧ n ≤ 3) → CSt base f G ds p LA → (∀ x ∈ LA, -4 ≤ x.1 ∧ x.1 ≤ 4) → LA.length ≤ 4000000 → CSt base f G ds (.node 4 n [p]) (hideL n LA)
  call : ∀ {n : Int} {L : List Stp}, (0 ≤ n ∧ n < ds.length) → CSt base f G ds (ds.getD n.toNat nilT) L → CSt base f G ds (.node 5 n []) L
theorem kinds_all {f : FuncId} (K : Kinds base f G ds) (D : List (List Stp)) (hD : ∀ k, vis (D.getD k []) ≤ 24 ∧ (D.getD k []).length ≤ 576) (hDo : ∀ k x, x ∈ D.getD k [] → okS ds.length 24 x) (t : Tm) : t.shape = true → t.callLt ds.length = true → t.wt ≤ 2000 →
    (t.bare = true → ∀ k, k < ds.length → CSt base f G ds (ds.getD k nilT) (D.getD k [])) → CSt base f G ds t (t.st D) := by
  induction t using Tm.ind with
  | _ op n ps ih =>
    intro hs hc hw hC
    have hs' := hs
    obtain ⟨hno, hps⟩ := Tm.shape_node hs'
    have hc' := hc
    simp only [Tm.callLt, Bool.and_eq_true] at hc'
    have hcp := Tm.callLts_mem hc'.2
    have hok := Tm.st_ok (m := ds.length) D 24 (by decide) hDo
    have hlen : ∀ t : Tm, t.wt ≤ 2000 → (t.st D).length ≤ 4000000 := fun t ht => by
      have := (Tm.st_bound D hD t).2
      have := Nat.mul_le_mul ht ht
      omega
    have hlt := hlen _ hw
    rw [nodeOk_iff] at hno
    rcases hno with ⟨rfl, rfl, hl⟩ | ⟨rfl, hn, hl⟩ | ⟨h23, rfl, hl⟩ | ⟨rfl, hn, hl⟩ | ⟨rfl, hn, hl⟩
    · obtain rfl : ps = [] := List.length_eq_zero_iff.mp hl
      simpa [Tm.st, stF, nilT] using K.nil
    · obtain ⟨p, rfl⟩ := List.length_eq_one_iff.mp hl
      have := K.act n p
      simpa [Tm.st, stF] using this
    · obtain ⟨p, q, rfl⟩ : ∃ p q, ps = [p, q] := by
        rcases ps with _ | ⟨p, _ | ⟨q, _ | _⟩⟩ <;> simp at hl
        exact ⟨p, q, rfl⟩
      have h51 : op ≠ 1 ∧ op ≠ 5 := by omega
      simp only [Tm.wt, Tm.wts, if_neg h51.1, if_neg h51.2] at hw
      have i1 := ih p (by simp) (hps p (by simp)) (hcp p (by simp)) (by omega) (fun hb => hC (bares_part (by simp) h51.1 hb))
      have i2 := ih q (by simp) (hps q (by simp)) (hcp q (by simp)) (by omega) (fun hb => hC (bares_part (by simp) h51.1 hb))
      rcases h23 with rfl | rfl
      · have e : (Tm.node 2 0 [p, q]).st D = p.st D ++ q.st D := by simp [Tm.st, stF, Tm.sts]
        rw [e] at hlt ⊢
        exact K.sum i1 i2 hlt
      · have e : (Tm.node 3 0 [p, q]).st D = parL p q (p.st D) (q.st D) := by simp [Tm.st, stF, Tm.sts]
        rw [e] at hlt ⊢
        exact K.par i1 i2 (fun x hx => (hok p (hps p (by simp)) (hcp p (by simp)) x hx).1) (fun x hx => (hok q (hps q (by simp)) (hcp q (by simp)) x hx).1) hlt
    · obtain ⟨p, rfl⟩ := List.length_eq_one_iff.mp hl
      simp only [Tm.wt, Tm.wts] at hw
      have i1 := ih p (by simp) (hps p (by simp)) (hcp p (by simp)) (by simp at hw; omega) (fun hb => hC (bares_part (by simp) (by decide) hb))
      have e : (Tm.node 4 n [p]).st D = hideL n (p.st D) := by simp [Tm.st, stF, Tm.sts]
      rw [e]
      exact K.hide hn i1 (fun x hx => (hok p (hps p (by simp)) (hcp p (by simp)) x hx).1) (hlen p (by simp at hw; omega))
    · obtain rfl : ps = [] := List.length_eq_zero_iff.mp hl
      have hnl : n < ds.length := by simpa using hc'.1
      have e : (Tm.node 5 n []).st D = D.getD n.toNat [] := by simp [Tm.st, stF]
      rw [e]
      exact K.call ⟨hn.1, hnl⟩ (hC (by simp [Tm.bare]) n.toNat (by omega))
theorem kinds_steps {f : FuncId} (K : Kinds base f G ds) (h : defsOk ds = true) {t : Tm} (h1 : t.shape = true) (h2 : t.callLt ds.length = true) (h3 : t.cnt ≤ 24) : CSt base f G ds t (t.steps ds) := by
  have hw : ∀ t : Tm, t.cnt ≤ 24 → t.wt ≤ 2000 := fun t ht => by have := Tm.wt_le t; omega
  have hdef : ∀ k, k < ds.length → CSt base f G ds (ds.getD k nilT) ((defL ds).getD k []) := by
    intro k hk
    have e : ds.getD k nilT = ds[k] := by simp [List.getD_eq_getElem?_getD, hk]
    rw [e, defL_getD, dif_pos hk]
    obtain ⟨a1, a2, a3, a4⟩ := (defsOk_get h).2 _ (List.getElem_mem hk)
    exact kinds_all K [] (fun k => by simp [vis]) (fun k x hx => by simp at hx) ds[k] a1 a3 (hw _ a2) (fun hb => by rw [a4] at hb; cases hb)
  exact kinds_all K (defL ds) (defL_bound h) (defL_ok h) t h1 h2 (hw t h3) (fun _ => hdef)
theorem kinds_l3 : Kinds base F_spec_l3Steps G ds where
  nil := fun σ s d hG hs hd => c_l3S_nil σ s d hG (hs := hs) (hd := hd)
  act := fun n p σ s d hG hs hd => c_l3S_act σ s d hG (hs := hs) (hd := hd)
  sum := fun hp hq hl σ s d hG hs hd => c_l3S_sum hp hq hl σ s d hG (hs := hs) (hd := hd)
  par := fun hp hq ha hb hl σ s d hG hs hd => c_l3S_par hp hq ha hb hl σ s d hG (hs := hs) (hd := hd)
  hide := fun hn hp ha hl σ s d hG hs hd => c_l3S_hide hn hp ha hl σ s d hG (hs := hs) (hd := hd)
  call := fun hn hk σ s d hG hs hd => c_l3S_call hn hk σ s d hG (hs := hs) (hd := hd)
theorem c_l3Steps (h : defsOk ds = true) {t : Tm} (h1 : t.shape = true) (h2 : t.callLt ds.length = true) (h3 : t.cnt ≤ 24) (σ : Store) (s d : AV) (hG : ∀ i, σ.length ≤ i → G i) [hs : RTsG G σ s t.ps] [hd : RTsG G σ d ds] : ACall Try.prog base F_spec_l3Steps [.agg [I t.op, I t.n, s], d] σ (fun _ => False) (RetSt G σ (t.steps ds)) :=
  kinds_steps kinds_l3 h h1 h2 h3 σ s d hG hs hd
/-! The program's. -/
end
end Go.Proofs.Ythbodgnoadlbcaa.Asl
