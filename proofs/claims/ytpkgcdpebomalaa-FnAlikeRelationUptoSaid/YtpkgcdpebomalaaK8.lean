/- Several texts in one. -/
import Derived.Test.YtpkgcdpebomalaaGG
import Derived.Test.YtpkgcdpebomalaaK6
import Derived.Test.YtpkgcdpebomalaaG26
/- Rows pushed into a list of rows that lie apart from it. -/
namespace Go.Proofs.Ytpkgcdpebomalaa.Asl
open Go.RowKit
set_option linter.unusedVariables false
set_option linter.unusedSimpArgs false
set_option maxHeartbeats 1000000
/-- A list of rows, and its rows, in objects new since σb; the rows lie apart from the list. -/
structure PR {α : Type} [Enc α] (σb σ : Store) (u : AV) (us : List AV) (g : List (List α)) : Prop where
  ow : OW σb σ u us
  ors : ORs σb σ us g
  ap : ∀ j n m, u = .sl j 0 n → AV.sl j 0 m ∉ us
theorem PR.keep {α : Type} [Enc α] {σb σ σ' : Store} {u : AV} {us : List AV} {g : List (List α)} (h : PR σb σ u us g) (k : LeS σ σ') : PR σb σ' u us g :=
  ⟨h.ow.keep fun j o _ _ ho => k.keep j o ho, h.ors.keep fun j o _ _ ho => k.keep j o ho, h.ap⟩
theorem ors_lt {α : Type} [Enc α] {σb σ : Store} {us : List AV} {g : List (List α)} (h : ORs σb σ us g) {j m : Nat} (hm : AV.sl j 0 m ∈ us) : j < σ.length := by
  obtain ⟨k, hk, ek⟩ := List.getElem_of_mem hm
  have hr := h.row k
  rw [getD_lt hk, ek] at hr
  rcases hr.rep with ⟨_, e⟩ | ⟨i, e, _, h1⟩
  · cases e
  · cases e; exact h1.lt
theorem ow_lt {α : Type} [Enc α] {σb σ : Store} {u : AV} {l : List α} (h : OW σb σ u l) {j n : Nat} (e : u = .sl j 0 n) : j < σ.length ∧ σb.length ≤ j := by
  rcases h.rep with ⟨_, q⟩ | ⟨i, q, h0, h1⟩
  · rw [e] at q; cases q
  · rw [e] at q; cases q; exact ⟨h1.lt, h0⟩
end Go.Proofs.Ytpkgcdpebomalaa.Asl

/- The reader: what AlikeRelation is asked. -/
namespace Go.Proofs.Ytpkgcdpebomalaa.Asl
open Go.RowKit Go.Proofs.YtpkgcdpebomalaaW.PrintLast
set_option linter.unusedVariables false
set_option linter.unusedSimpArgs false
attribute [local irreducible] WP WL andThen inBlock noGoto atEnd ACall DA DL DX PO Hold nodeOk Tm.shape Tm.ok Tm.txt graphO
set_option maxHeartbeats 4000000
set_option synthInstance.maxHeartbeats 400000
set_option synthInstance.maxSize 10000
theorem PR.keepB {α : Type} [Enc α] {i : Nat} {σb σ σ' : Store} {u : AV} {us : List AV} {g : List (List α)} (h : PR σb σ u us g) (k : LeB i σ σ') (hi : i < σb.length) : PR σb σ' u us g :=
  ⟨ow_leB h.ow k hi, ors_leB h.ors k hi, h.ap⟩
theorem PR.push1 {α : Type} [Enc α] {σb σ5 σ1 σ2 : Store} {u u' v : AV} {us : List AV} {gs : List (List α)} {l : List α} (h : PR σb σ5 u us gs) (hl : σb.length ≤ σ5.length) (hv : OW σ5 σ1 v l) (h1 : PR σb σ1 u us gs) (happ : App σb σ1 u u' σ2) (how : OW σb σ2 u' (us ++ [v])) : PR σb σ2 u' (us ++ [v]) (gs ++ [l]) := by
  have h3 := happ.ors h1.ors h.ap
  have h4 := happ.ow hv (fun j n m e q => by have := (ow_lt h.ow e).1; have := (ow_lt hv q).2; omega)
  refine ⟨how, h.ors.snoc h3 hl h4, fun j n m e hm => ?_⟩
  rcases happ.fresh with q | ⟨i, k, q, hi⟩
  · rw [q] at e
    rcases List.mem_append.mp hm with hm | hm
    · exact h.ap j n m e hm
    · simp only [List.mem_singleton] at hm
      have := (ow_lt h.ow e).1
      have := (ow_lt hv hm.symm).2
      omega
  · rw [q] at e; cases e
    rcases List.mem_append.mp hm with hm | hm
    · have := ors_lt h1.ors hm; omega
    · simp only [List.mem_singleton] at hm
      have := (ow_lt hv hm.symm).1; omega
/-- One row written over. -/
theorem PR.setRow {α : Type} [Enc α] {σb σ σ' : Store} {u : AV} {us : List AV} {gs : List (List α)} {k j m : Nat} {l' : List α} {o' : Ob} (h : PR σb σ u us gs) (hk : us[k]? = some (.sl j 0 m)) (hl : l'.length = (gs.getD k []).length) (u1 : Upd σ j o' σ') (ho : o' = Row l') : PR σb σ' u us (gs.set k l') := by
  subst ho
  have hku : k < us.length := get_lt hk
  have hlen := h.ors.len
  have hkg : k < gs.length := by omega
  refine ⟨h.ow.keep fun i o _ ⟨n, e⟩ ho => ?_, ⟨by simp [hlen], fun q => ?_, h.ors.apart⟩, h.ap⟩
  · have : j ≠ i := fun e2 => by
      subst e2
      exact h.ap _ _ _ e (List.mem_of_getElem? hk)
    rw [u1.eq, List.getElem?_set_ne this]; exact ho
  · have hr := h.ors.row q
    by_cases e : q = k
    · subst e
      have e1 : us.getD q nilS = .sl j 0 m := by simp [List.getD_eq_getElem?_getD, hk]
      have e2 : (gs.set q l').getD q [] = l' := getD_set_eq hkg
      rw [e1] at hr ⊢
      rw [e2]
      refine ⟨by rw [hl]; exact hr.bound, ?_⟩
      rcases hr.rep with ⟨_, e3⟩ | ⟨i, e3, hi, hh⟩
      · cases e3
      · cases e3
        exact .inr ⟨j, by rw [hl], hi, instHasUpd (g := u1)⟩
    · have e2 : (gs.set k l').getD q [] = gs.getD q [] := getD_set_ne (Ne.symm e)
      rw [e2]
      refine hr.keep fun i o _ ⟨n, en⟩ ho => ?_
      have : j ≠ i := fun e3 => by
        subst e3
        have hq : q < us.length := by
          rcases Nat.lt_or_ge q us.length with hq | hq
          · exact hq
          · rw [List.getD_eq_getElem?_getD, List.getElem?_eq_none hq] at en; cases en
        have : us[q]? = some (.sl j 0 n) := by rw [List.getD_eq_getElem?_getD, List.getElem?_eq_getElem hq] at en; rw [List.getElem?_eq_getElem hq]; simpa using en
        exact e (h.ors.apart q k j n m this hk)
      rw [u1.eq, List.getElem?_set_ne this]; exact ho
def RetG3 (σ : Store) : AV → Store → Prop := fun r σ' => ∃ (u : AV) (us : List AV) (g : Gr) (v : AV) (vs : List AV) (rel : List (List Bool)), r = .tup [.agg [u], v] ∧ NG σ σ' u us g ∧ (∀ l ∈ g, l.length ≤ 331776) ∧ RW σ' v vs ∧ RRs σ' vs rel ∧ Grow σ σ'
section
variable {base : Nat}
theorem c_DrawAlikeRelation (b0 : AV) (gb : List UInt8) (σ : Store) [hs : RW σ b0 gb] (hg : gb.length ≤ 1048576) : ACall Try.prog base F_spec_DrawAlikeRelation [b0] σ (fun _ => False) (RetG3 σ) := by
  have := hs.one
  refine acall1 fun_spec_DrawAlikeRelation rfl tmps_spec_DrawAlikeRelation rfl fun N B w₀ ρ₀ => ?_
  repeat' (first
    | (refine wc_callOpen rfl inferInstance rfl (c_l6Open b0 gb _ hg) rfl ?_; intro _ _ _ _ _ _ _ _)
    | refine wc_holdR 2 ?_
    | refine wp_seqA ?_
    | refine wp_region_seq ?_
    | refine thru_seq_next ?_
    | refine wl_nil ?_
    | refine wl_pop rfl (po_move rfl) ?_
    | refine wl_pop rfl (po_assign rfl) ?_
    | (refine wc_allocA (cs := [_]) inferInstance rfl inferInstance rfl ?_; intro _ _ _ _ _)
    | fail)
  rename_i i1 σ1 g1 n1 h1 i s b σ2 g2 n2 h2 hb
  have hni : σ.length ≤ i := Nat.le_trans g1.len n2.le
  have y0 := h1.lt
  have y1 := n2.le
  have y2 := h2.lt
  have y3 := g2.len
  refine hold_go ?_
  repeat' (first
    | (refine wc_callQG rfl inferInstance rfl (c_l91Graph i s b _ _ (by omega) (by omega)) inferInstance (.inr hni) rfl ?_; intro _ _ _ _ _ _ _ _ _ _ _ _ _)
    | (refine wc_storeA rfl rfl inferInstance inferInstance rfl inferInstance (Nat.le_of_ble_eq_true rfl) (.inr (may_newB i σ)) ?_; intro _ _)
    | refine wc_holdR 3 ?_
    | refine wp_seqA ?_
    | refine wp_region_seq ?_
    | refine thru_seq_next ?_
    | refine wl_nil ?_
    | refine wl_pop rfl (po_move rfl) ?_
    | (refine wc_allocA (cs := [_]) inferInstance rfl inferInstance rfl ?_; intro _ _ _ _ _)
    | fail)
  rename_i u us gr p' σ3 σ4 ou ng hgb a1 a2 g4 u4 i5 σ5 g5 n5 h5 σ6 u6
  have y4 := n5.le
  have y5 := n1.le
  have hl : LeB i σ σ6 := inferInstance
  have hl2 := (inferInstance : LeB i σ2 σ4).len
  have ng6 : NG σ2 σ6 u us gr := ng.keep fun x o hx ho => by
    have := Has.lt ⟨ho⟩
    rw [u6.eq, List.getElem?_set_ne (by omega)]; exact g5.keep x o ho
  have h56 : Has σ6 i5 ⟨.own, 1, [u], []⟩ := instHasUpd (g := u6)
  have hi6 : Has σ6 i (RdO s p') := inferInstance
  have h16 : Has σ6 i1 ⟨.own, 1, [nilS], []⟩ := (inferInstance : Has σ6 i1 _)
  have b6 : Bk σ6 i s b := hb.le inferInstance
  have hle6 := (inferInstance : LeB i σ2 σ6).len
  have rw6 : RW σ6 u us := instNGRW
  have rr6 : RRs σ6 us gr := ng6.rrs
  have hone5 : i5 < σ6.length := h56.lt
  clear u6 u4 h5 ng
  refine hold_go ?_
  repeat' (first
    | (refine wc_callOW rfl inferInstance rfl (c_sAlikeClasses _ _) rfl ?_; intro _ _ _ _ _)
    | (refine wc_row0 (α := AV) inferInstance inferInstance rfl rfl (by decide) rfl ?_; intro _ _ _ _ _)
    | refine wc_loadn rfl inferInstance (at_has (cs := [_]) (.inl rfl) rfl rfl) rfl ?_
    | refine wp_seqA ?_
    | refine wp_region_seq ?_
    | refine thru_seq_next ?_
    | refine wp_blockA ?_
    | refine wl_nil ?_
    | refine wl_pop rfl (po_assign rfl) ?_
    | fail)
  rename_i v σ7 ov owv g7 i8 σ8 g8 n8 h8
  have hcl : ((optB (GOk gr) (lastC gr)).getD []).length ≤ 60 := by
    by_cases hok : GOk gr
    · rw [optB_yes hok]
      show (lastC gr).length ≤ 60
      rw [lastC_len]; exact hok.most
    · rw [optB_no hok]; simp
  generalize hC : (optB (GOk gr) (lastC gr)).getD [] = C at *
  have b7 : Bk σ7 i s b := b6.le inferInstance
  have hi8 : Has σ8 i (RdO s p') := inferInstance
  have y7 : σ6.length ≤ σ7.length := g7.len
  have y8 : σ7.length ≤ σ8.length := g8.len
  refine wc_loop [(2, _), (4, _), (5, _), (6, _)] (fun x : Nat × AV × Int => [(7, x.2.1), (8, I x.1)]) (fun x σ' => x.1 ≤ C.length ∧ One x.2.1 ∧ p' ≤ x.2.2 ∧ x.2.2 ≤ p' + 60 * x.1 ∧ Has σ' i (RdO s x.2.2) ∧ LeB i σ7 σ' ∧ ∃ us' gs, us'.length = x.1 ∧ PR σ7 σ' x.2.1 us' gs ∧ (∀ l : List Bool, l ∈ gs → l.length = C.length)) (fun x => C.length - x.1) (0, .sl i8 0 0, p') ⟨Nat.zero_le _, ⟨rfl⟩, Int.le_refl _, by simp, hi8, inferInstance, [], [], rfl, ⟨ow_of_has h8 n8.le rfl (by decide), ORs.nil _ _, by simp⟩, by simp⟩ (by repeat' (first | exact sub_nil | refine sub_cons rfl ?_ | refine sub_int rfl (by first | rfl | omega | (push_cast; omega) | simp) ?_ | refine sub_eq rfl (by assumption) ?_)) ?_
  rintro ⟨k, rel, p1⟩ σ' ⟨hk, hone, hp1, hp2, hir, hle, rus, gs, hrus, hpr, hgs⟩
  dsimp only at hk hone hp1 hp2 hir hrus hpr hgs ⊢
  have y9 := hle.len
  have hprw := hpr.ow
  have rwC : RW σ' v C := (ow_leB owv hle (by omega)).rw
  have bk' : Bk σ' i s b := b7.le hle
  repeat' (first
    | (refine wc_row0 (α := Bool) inferInstance inferInstance rfl rfl (by decide) rfl ?_; intro _ _ _ _ _)
    | refine wc_holdR 14 ?_
    | refine wl_pop rfl (pc_lenRow rfl inferInstance inferInstance) ?_
    | refine wp_seqA ?_
    | refine wp_region_seq ?_
    | refine thru_seq_next ?_
    | refine thru_seq ?_
    | refine exit_here ?_
    | refine wp_skipA ?_
    | refine wp_exitA ?_
    | refine wp_blockA ?_
    | refine wl_nil ?_
    | refine wl_pop rfl (po_move rfl) ?_
    | refine wl_pop rfl (po_assign rfl) ?_
    | refine wl_pop rfl (po_binOp rfl rfl rfl) ?_
    | refine wp_condP rfl (fun _ => ?_) (fun _ => ?_)
    | fail)
  rotate_left
  · rename_i hk1
    obtain rfl : k = C.length := by omega
    clear rwC
    refine wc_cut (ι := Bool × Int) [(2, .pt i1 0), (4, .pt i 0), (5, .pt i5 0), (7, rel)] (fun x => [(61, Bo x.1)]) (fun x σa => p1 ≤ x.2 ∧ x.2 ≤ p1 + 1 ∧ Has σa i (RdO s x.2) ∧ LeB i σ' σa) ?_ ?_
    · repeat' (first
        | (refine wc_callP rfl inferInstance rfl (c_pick i s b _ _ _ (by omega) (by omega)) inferInstance (.inr hni) rfl ?_; intro _ _ _ _ _ _ _ _ _ _)
        | refine wl_pop rfl (pc_lenRow rfl inferInstance inferInstance) ?_
        | refine wp_region_seq ?_
        | refine thru_seq_next ?_
        | refine wl_nil ?_
        | refine wl_pop rfl (po_move rfl) ?_
        | refine wl_pop rfl (po_binOp rfl rfl rfl) ?_
        | refine wl_pop rfl (po_pick rfl rfl) ?_
        | refine wc_guardT_true rfl rfl rfl ?_
        | refine wc_guardF_true rfl rfl rfl rfl ?_
        | refine wc_guardP_true rfl rfl rfl rfl (fun _ => ?_) (fun _ => ?_)
        | fail)
      · rename_i hc v3 p3 σa σb c1 c2 c3 c4 ga ua
        exact ⟨(_, p3), ⟨by dsimp only; omega, by dsimp only; omega, instHasUpd (g := ua), inferInstance⟩, (by repeat' (first | exact sub_nil | refine sub_cons rfl ?_ | refine sub_int rfl (by first | rfl | omega | (push_cast; omega) | simp) ?_ | refine sub_eq rfl (by assumption) ?_))⟩
      · exact ⟨(false, p1), ⟨Int.le_refl _, by dsimp only; omega, hir, inferInstance⟩, (by repeat' (first | exact sub_nil | refine sub_cons rfl ?_ | refine sub_int rfl (by first | rfl | omega | (push_cast; omega) | simp) ?_ | refine sub_eq rfl (by assumption) ?_))⟩
    rintro ⟨bt, p3⟩ σa ⟨ha1, ha2, hia, hla⟩
    dsimp only at ha1 ha2 hia ⊢
    have hpra : PR σ7 σa rel rus gs := hpr.keepB hla (by omega)
    have bka : Bk σa i s b := bk'.le hla
    have y14 := hla.len
    repeat' (first
      | refine wc_holdIf ?_
      | fail)
    refine wc_cut (ι := List (List Bool)) [(2, .pt i1 0), (4, .pt i 0), (5, .pt i5 0), (7, rel)] (fun _ => []) (fun gs' σc => PR σ7 σc rel rus gs' ∧ (∀ (j : Nat) (o : Ob), j < σ7.length → σa[j]? = some o → σc[j]? = some o) ∧ σa.length ≤ σc.length) ?_ ?_
    · cases bt
      · repeat' (first
          | refine thru_seq_next ?_
          | refine wp_skipA ?_
          | refine wp_condF rfl ?_
          | fail)
        exact ⟨gs, ⟨hpra, fun _ _ _ h => h, Nat.le_refl _⟩, (by repeat' (first | exact sub_nil | refine sub_cons rfl ?_ | refine sub_int rfl (by first | rfl | omega | (push_cast; omega) | simp) ?_ | refine sub_eq rfl (by assumption) ?_))⟩
      · have hpo := hpra.ow
        have := hpo.one
        repeat' (first
          | refine wl_pop rfl (pc_lenRow rfl inferInstance inferInstance) ?_
          | refine wp_seqA ?_
          | refine wp_region_seq ?_
          | refine thru_seq_next ?_
          | refine wp_blockA ?_
          | refine wl_nil ?_
          | refine wl_pop rfl (po_move rfl) ?_
          | refine wp_condT rfl ?_
          | fail)
        refine wc_loop [(2, _), (4, _), (5, _), (7, _), (63, _)] (fun k : Nat => [(64, I k)]) (fun k σc => k ≤ C.length ∧ ∃ gs', PR σ7 σc rel rus gs' ∧ (∀ l ∈ gs', l.length = C.length) ∧ (∀ (j : Nat) (o : Ob), j < σ7.length → σa[j]? = some o → σc[j]? = some o) ∧ σa.length ≤ σc.length) (fun k => C.length - k) 0 ⟨Nat.zero_le _, gs, hpra, hgs, fun _ _ _ h => h, Nat.le_refl _⟩ (by repeat' (first | exact sub_nil | refine sub_cons rfl ?_ | refine sub_int rfl (by first | rfl | omega | (push_cast; omega) | simp) ?_ | refine sub_eq rfl (by assumption) ?_)) ?_
        rintro k σc ⟨hk, gs', hprc, hgs', hkc, hlc⟩
        have hpc := hprc.ow
        repeat' (first
          | refine wl_pop rfl (pc_lenRow rfl inferInstance inferInstance) ?_
          | refine wp_seqA ?_
          | refine wp_region_seq ?_
          | refine thru_seq_next ?_
          | refine thru_seq ?_
          | refine exit_here ?_
          | refine wp_skipA ?_
          | refine wp_exitA ?_
          | refine wp_blockA ?_
          | refine wl_nil ?_
          | refine wl_pop rfl (po_move rfl) ?_
          | refine wl_pop rfl (po_assign rfl) ?_
          | refine wl_pop rfl (po_binOp rfl rfl rfl) ?_
          | refine wp_condP rfl (fun _ => ?_) (fun _ => ?_)
          | fail)
        rotate_left
        · exact ⟨gs', ⟨hprc, hkc, hlc⟩, (by repeat' (first | exact sub_nil | refine sub_cons rfl ?_ | refine sub_int rfl (by first | rfl | omega | (push_cast; omega) | simp) ?_ | refine sub_eq rfl (by assumption) ?_))⟩
        rename_i hk1
        have hkC : k < C.length := by omega
        refine wc_loop [(2, _), (4, _), (5, _), (7, _), (11, _), (63, _), (64, _), (68, _)] (fun t : Nat => [(69, I t)]) (fun t σc => t ≤ C.length ∧ ∃ gs', PR σ7 σc rel rus gs' ∧ (∀ l ∈ gs', l.length = C.length) ∧ (∀ (j : Nat) (o : Ob), j < σ7.length → σa[j]? = some o → σc[j]? = some o) ∧ σa.length ≤ σc.length) (fun t => C.length - t) 0 ⟨Nat.zero_le _, gs', hprc, hgs', hkc, hlc⟩ (by repeat' (first | exact sub_nil | refine sub_cons rfl ?_ | refine sub_int rfl (by first | rfl | omega | (push_cast; omega) | simp) ?_ | refine sub_eq rfl (by assumption) ?_)) ?_
        clear hprc hgs' hkc hlc hpc
        rintro t σd ⟨ht, gs2, hprd, hgs2, hkd, hld⟩
        have hpd := hprd.ow
        have hgl := hprd.ors.len
        obtain ⟨jr, ej, hjr, hhr⟩ : ∃ jr, rus[k]? = some (.sl jr 0 C.length) ∧ σ7.length ≤ jr ∧ Has σd jr (Row (gs2.getD k [])) := by
          have hr := hprd.ors.row k
          have hll : (gs2.getD k []).length = C.length := hgs2 _ (by simp [List.getD_eq_getElem?_getD, show k < gs2.length by omega])
          rcases hr.rep with ⟨q, _⟩ | ⟨jr, q1, q2, q3⟩
          · rw [q] at hll; simp at hll; omega
          · refine ⟨jr, ?_, q2, q3⟩
            rw [hll] at q1
            rw [← q1, List.getD_eq_getElem?_getD, List.getElem?_eq_getElem (by omega)]; rfl
        have hll : (gs2.getD k []).length = C.length := hgs2 _ (by simp [List.getD_eq_getElem?_getD, show k < gs2.length by omega])
        have at75 : At σd rel.id (rel.off + k * 1) 1 [.sl jr 0 C.length] := by
          have h := at_row hpd.rw (k := k) (by omega)
          have e : (rus.getD k (Enc.dflt : AV)) = .sl jr 0 C.length := by rw [List.getD_eq_getElem?_getD, ej]; rfl
          rw [e] at h; exact h
        repeat' (first
          | refine wl_pop rfl (pc_load1L rfl inferInstance at75 inferInstance) ?_
          | (refine wc_stBool (k := t) rfl rfl inferInstance hhr (by omega) (.inr (by omega)) ?_; intro _ _)
          | refine wl_pop rfl (pc_indexRow rfl rfl inferInstance inferInstance inferInstance (by omega)) ?_
          | refine wp_seqA ?_
          | refine wp_region_seq ?_
          | refine thru_seq_next ?_
          | refine thru_seq ?_
          | refine thru_block_next ?_
          | refine exit_here ?_
          | refine wp_skipA ?_
          | refine wp_exitA ?_
          | refine wp_blockA ?_
          | refine wl_nil ?_
          | refine wl_pop rfl (po_move rfl) ?_
          | refine wl_pop rfl (po_assign rfl) ?_
          | refine wl_pop rfl (pc_add rfl rfl (by omega) (by omega)) ?_
          | refine wl_pop rfl (po_binOp rfl rfl rfl) ?_
          | refine wl_pop rfl (pc_indexAddr rfl rfl inferInstance inferInstance (by omega)) ?_
          | refine wp_condP rfl (fun _ => ?_) (fun _ => ?_)
          | fail)
        · rename_i hk2 σe ue
          have hte : t < C.length := by omega
          have hp := hprd.setRow (l' := (gs2.getD k []).set t ((k : Int) == (t : Int))) ej (by simp) ue rfl
          refine ⟨t + 1, by omega, ⟨hte, _, hp, fun l hl => ?_, fun j o hj ho => ?_, by have := Upd.len ue; omega⟩, (by repeat' (first | exact sub_nil | refine sub_cons rfl ?_ | refine sub_int rfl (by first | rfl | omega | (push_cast; omega) | simp) ?_ | refine sub_eq rfl (by assumption) ?_))⟩
          · rcases List.mem_or_eq_of_mem_set hl with h | h
            · exact hgs2 l h
            · rw [h, List.length_set]; exact hll
          · rw [ue.eq, List.getElem?_set_ne (by omega)]; exact hkd j o hj ho
        · exact ⟨k + 1, by omega, ⟨hkC, gs2, hprd, hgs2, hkd, hld⟩, (by repeat' (first | exact sub_nil | refine sub_cons rfl ?_ | refine sub_int rfl (by first | rfl | omega | (push_cast; omega) | simp) ?_ | refine sub_eq rfl (by assumption) ?_))⟩
    rintro gs' σc ⟨hprc, hkc, hlc⟩
    have hprco := hprc.ow
    have hic : Has σc i (RdO s p3) := ⟨hkc _ _ (by omega) hia.get⟩
    have hl7c : LeB i σ7 σc := ⟨⟨fun j o hj ho => hkc j o (Has.lt ⟨ho⟩) (hla.keep.keep j o hj (hle.keep.keep j o hj ho))⟩, by omega⟩
    have bkc : Bk σc i s b := b7.le hl7c
    have h1c : Has σc i1 ⟨.own, 1, [nilS], []⟩ := ⟨hl7c.keep.keep _ _ (by omega) ((inferInstance : LeS σ6 σ7).keep _ _ h16.get)⟩
    have h5c : Has σc i5 ⟨.own, 1, [u], []⟩ := ⟨hl7c.keep.keep _ _ (by omega) ((inferInstance : LeS σ6 σ7).keep _ _ h56.get)⟩
    have hl0c : LeB i σ σc := ⟨⟨fun j o hj ho => hl7c.keep.keep j o hj ((inferInstance : LeS σ6 σ7).keep _ _ (hl.keep.keep j o hj ho))⟩, by have := hl.len; omega⟩
    have ng7 : NG σ2 σ7 u us gr := inferInstance
    have fin : ∀ (rel2 : AV) (vs : List AV) (rels : List (List Bool)) (σf : Store), PR σ7 σf rel2 vs rels → (∀ (j : Nat) (o : Ob), j < σ7.length → j ≠ i → j ≠ i1 → σc[j]? = some o → σf[j]? = some o) → RetG3 σ (.tup [.agg [u], rel2]) σf := fun rel2 vs rels σf hp hk => by
      refine ⟨u, us, gr, rel2, vs, rels, rfl, (ng7.keep fun x o hx ho => ?_).down (by omega), hgb, hp.ow.rw, hp.ors.rrs, ⟨fun x o ho => ?_⟩⟩
      · have := Has.lt (σ := σ7) (i := x) ⟨ho⟩
        exact hk x o this (by omega) (by omega) (hl7c.keep.keep x o (by omega) ho)
      · have := Has.lt (σ := σ) (i := x) ⟨ho⟩
        exact hk x o (by omega) (by omega) (by omega) (hl0c.keep.keep x o (by omega) ho)
    have d1 : Dif i1 i := ⟨by omega⟩
    have d2 : Dif i5 i := ⟨by omega⟩
    have hone := hprco.one
    have y19 := hl7c.len
    clear hla bka hia hpra hlc hkc hir hle hpr hprw bk' b7 owv h56 h16 hi6 hi8 h8 ng6
    repeat' (first
      | (refine wc_callP rfl inferInstance rfl (c_pick i s b _ _ _ (by omega) (by omega)) inferInstance (.inr hni) rfl ?_; intro _ _ _ _ _ _ _ _ _ _)
      | refine wc_holdR 26 ?_
      | refine wp_seqA ?_
      | refine wp_region_seq ?_
      | refine thru_seq_next ?_
      | refine wp_skipA ?_
      | refine wl_nil ?_
      | refine wl_pop rfl (po_move rfl) ?_
      | refine wl_pop rfl (po_binOp rfl rfl rfl) ?_
      | refine wp_condP rfl (fun _ => ?_) (fun _ => ?_)
      | fail)
    · rename_i v4 p4 σd σe c1 c2 c3 c4 gd ue he0
      have hlce : LeB i σc σe := inferInstance
      have hpre : PR σ7 σe rel rus gs' := hprc.keepB hlce (by omega)
      have y20 := hlce.len
      repeat' (first
        | (refine wc_row0 (α := Bool) inferInstance inferInstance rfl rfl (by decide) rfl ?_; intro _ _ _ _ _)
        | (refine wc_oneAV rfl inferInstance inferInstance rfl (by decide) rfl ?_; intro _ _ _ _ _)
        | fail)
      rename_i i10 σ10 g10 n10 h10 i11 σ11 g11 n11 h11
      have hle11 : LeS σe σ11 := inferInstance
      have hpr11 : PR σ7 σ11 rel rus gs' := hpre.keep hle11
      have y21 := hle11.len
      have h10' : Has σ11 i10 (Row ([] : List Bool)) := inferInstance
      have h511 : Has σ11 i5 ⟨.own, 1, [u], []⟩ := inferInstance
      have h111 : Has σ11 i1 ⟨.own, 1, [nilS], []⟩ := inferInstance
      refine wc_append1 (α := AV) (σ₀ := σ7) rfl rfl inferInstance inferInstance rfl (by decide) (by decide) hpr11.ow h11 (one_av inferInstance) (by omega) (fun j hj => .inr (by omega)) (by omega) rfl ?_
      intro rel' σ12 app12 mk12 how12 one12
      have hp12 := hpre.push1 (l := ([] : List Bool)) (by omega) (ow_of_has h10' n10.le rfl (by decide)) hpr11 app12 how12
      have h512 : Has σ12 i5 ⟨.own, 1, [u], []⟩ := ⟨app12.keep _ _ (.inl (by omega)) h511.get⟩
      have h112 : Has σ12 i1 ⟨.own, 1, [nilS], []⟩ := ⟨app12.keep _ _ (.inl (by omega)) h111.get⟩
      repeat' (first
        | refine wc_loadn rfl inferInstance (at_has (cs := [_]) (.inl rfl) rfl rfl) rfl ?_
        | refine at_ret (res_cell2 rfl rfl inferInstance (at_has (cs := [_]) (.inl rfl) rfl rfl) rfl) ?_
        | refine wp_seqA ?_
        | refine wp_region_seq ?_
        | refine thru_seq_next ?_
        | refine wp_retA ?_
        | refine wl_nil ?_
        | refine wl_pop rfl (po_move rfl) ?_
        | refine wl_pop rfl (po_assign rfl) ?_
        | (refine wc_storeA rfl rfl inferInstance inferInstance rfl inferInstance (Nat.le_of_ble_eq_true rfl) (.inr (may_new _)) ?_; intro _ _)
        | fail)
      rename_i σ13 u13
      refine fin rel' _ _ _ ⟨hp12.ow.keep fun j o hj _ ho => ?_, hp12.ors.keep fun j o hj _ ho => ?_, hp12.ap⟩ fun j o hj h1 h2 ho => ?_
      · rw [u13.eq, List.getElem?_set_ne (by omega)]; exact ho
      · rw [u13.eq, List.getElem?_set_ne (by omega)]; exact ho
      · rw [u13.eq, List.getElem?_set_ne (by omega)]
        exact app12.keep j o (.inl hj) (hle11.keep j o (hlce.keep.keep j o h1 ho))
    · rename_i v4 p4 σd σe c1 c2 c3 c4 gd ue he0
      have hlce : LeB i σc σe := inferInstance
      have hpre : PR σ7 σe rel rus gs' := hprc.keepB hlce (by omega)
      refine hold_go ?_
      repeat' (first
        | refine wc_loadn rfl inferInstance (at_has (cs := [_]) (.inl rfl) rfl rfl) rfl ?_
        | refine at_ret (res_cell2 rfl rfl inferInstance (at_has (cs := [_]) (.inl rfl) rfl rfl) rfl) ?_
        | refine wp_region_seq ?_
        | refine thru_seq_next ?_
        | refine wp_retA ?_
        | refine wl_nil ?_
        | refine wl_pop rfl (po_move rfl) ?_
        | refine wl_pop rfl (po_assign rfl) ?_
        | (refine wc_storeA rfl rfl inferInstance inferInstance rfl inferInstance (Nat.le_of_ble_eq_true rfl) (.inr (may_new _)) ?_; intro _ _)
        | fail)
      rename_i σ13 u13
      refine fin rel _ _ _ ⟨hpre.ow.keep fun j o hj _ ho => ?_, hpre.ors.keep fun j o hj _ ho => ?_, hpre.ap⟩ fun j o hj h1 h2 ho => ?_
      · rw [u13.eq, List.getElem?_set_ne (by omega)]; exact ho
      · rw [u13.eq, List.getElem?_set_ne (by omega)]; exact ho
      · rw [u13.eq, List.getElem?_set_ne (by omega)]
        exact hlce.keep.keep j o h1 ho
  rename_i hk1 i9 σ9 g9 n9 h9
  have y10 := g9.len
  have y11 := n9.le
  refine wc_loop [(2, _), (4, _), (5, _), (6, _), (7, _), (8, _)] (fun x : Nat × AV × Int => [(9, x.2.1), (10, I x.1)]) (fun x σ'' => x.1 ≤ C.length ∧ One x.2.1 ∧ p1 ≤ x.2.2 ∧ x.2.2 ≤ p1 + x.1 ∧ Has σ'' i (RdO s x.2.2) ∧ LeB i σ' σ'' ∧ ∃ l : List Bool, l.length = x.1 ∧ OW σ' σ'' x.2.1 l) (fun x => C.length - x.1) (0, .sl i9 0 0, p1) ⟨Nat.zero_le _, ⟨rfl⟩, Int.le_refl _, by simp, inferInstance, inferInstance, [], rfl, ow_of_has h9 n9.le rfl (by decide)⟩ (by repeat' (first | exact sub_nil | refine sub_cons rfl ?_ | refine sub_int rfl (by first | rfl | omega | (push_cast; omega) | simp) ?_ | refine sub_eq rfl (by assumption) ?_)) ?_
  rintro ⟨t, row, p2⟩ σ'' ⟨ht, hro, hq1, hq2, hir2, hle2, l, hll, how⟩
  dsimp only at ht hro hq1 hq2 hir2 hll how ⊢
  have y12 := hle2.len
  have rwC2 : RW σ'' v C := (ow_leB (ow_leB owv hle (by omega)) hle2 (by omega)).rw
  have bk'' : Bk σ'' i s b := bk'.le hle2
  repeat' (first
    | refine wl_pop rfl (pc_lenRow rfl inferInstance inferInstance) ?_
    | refine wp_seqA ?_
    | refine wp_region_seq ?_
    | refine thru_seq_next ?_
    | refine thru_seq ?_
    | refine exit_here ?_
    | refine wp_skipA ?_
    | refine wp_exitA ?_
    | refine wp_blockA ?_
    | refine wl_nil ?_
    | refine wl_pop rfl (po_move rfl) ?_
    | refine wl_pop rfl (po_binOp rfl rfl rfl) ?_
    | refine wp_condP rfl (fun _ => ?_) (fun _ => ?_)
    | fail)
  · have hkC : k < C.length := by omega
    have htC : t < C.length := by omega
    have hCb : C.length ≤ 4294967296 := by omega
    obtain ⟨jv, rfl, hjv, hasv⟩ : ∃ jv, v = .sl jv 0 C.length ∧ σ6.length ≤ jv ∧ Has σ'' jv (Row C) := by
      rcases (ow_leB (ow_leB owv hle (by omega)) hle2 (by omega)).rep with ⟨q, _⟩ | ⟨jv, q1, q2, q3⟩
      · rw [q] at hkC; simp at hkC
      · exact ⟨jv, q1, q2, q3⟩
    have atk : At σ'' jv (0 + k * 1) 1 [I ((C.getD k 0 : Nat) : Int)] := at_own hasv hkC
    have att : At σ'' jv (0 + t * 1) 1 [I ((C.getD t 0 : Nat) : Int)] := at_own hasv htC
    have hvi : jv ≠ i := by omega
    by_cases hc : C.getD k 0 = C.getD t 0
    · have hz : binLit .eql (.int .i64 ((C.getD k 0 : Nat) : Int)) (.int .i64 ((C.getD t 0 : Nat) : Int)) = some (.bool true) := congrArg (fun b => some (Value.bool b)) (by rw [hc]; exact beq_self_eq_true _)
      refine wc_drawnXp (t := 4) i [16, 17] mixed_ rfl rfl ?_
      refine dx_pure 0 rfl rfl (by kernel_rfl) (po_move rfl) ?_
      refine dx_pure 1 rfl rfl (by kernel_rfl) (po_move rfl) ?_
      refine dx_pure 2 rfl rfl (by kernel_rfl) (po_move rfl) ?_
      refine dx_pure 3 rfl rfl (by kernel_rfl) (pc_indexAddr rfl rfl inferInstance inferInstance (by omega)) ?_
      refine dx_load1 4 rfl rfl (by kernel_rfl) rfl inferInstance atk atk.lt hir2 hvi ?_
      refine dx_pure 5 rfl rfl (by kernel_rfl) (po_move rfl) ?_
      refine dx_pure 6 rfl rfl (by kernel_rfl) (po_move rfl) ?_
      refine dx_pure 7 rfl rfl (by kernel_rfl) (pc_indexAddr rfl rfl inferInstance inferInstance (by omega)) ?_
      refine dx_load1 8 rfl rfl (by kernel_rfl) rfl inferInstance att att.lt hir2 hvi ?_
      refine dx_pure 9 rfl rfl (by kernel_rfl) (po_binOp rfl rfl hz) ?_
      refine dx_pure 10 rfl rfl (by kernel_rfl) (po_move rfl) ?_
      refine dx_new 11 rfl (by kernel_rfl) ?_
      intro N7 B7 w7 r7 may7 hmay7
      refine wc_guardF_false rfl rfl rfl rfl ?_
      refine wl_nil ⟨rfl, Nat.le_refl _, ?_⟩
      clear hmay7
      refine dx_new 12 rfl (by kernel_rfl) ?_
      intro N7 B7 w7 r7 may7 hmay7
      refine wc_guardF_false rfl rfl rfl rfl ?_
      refine wl_nil ⟨rfl, Nat.le_refl _, ?_⟩
      clear hmay7
      refine dx_new 13 rfl (by kernel_rfl) ?_
      intro N7 B7 w7 r7 may7 hmay7
      refine wc_guardF_false rfl rfl rfl rfl ?_
      refine wl_nil ⟨rfl, Nat.le_refl _, ?_⟩
      clear hmay7
      refine dx_new 14 rfl (by kernel_rfl) ?_
      intro N7 B7 w7 r7 may7 hmay7
      refine wl_pop rfl (po_pick rfl rfl) ?_
      refine wl_nil ⟨rfl, Nat.le_refl _, ?_⟩
      clear hmay7
      refine dx_new 15 rfl (by kernel_rfl) ?_
      intro N7 B7 w7 r7 may7 hmay7
      refine wc_oneBool rfl inferInstance inferInstance rfl (by decide) rfl ?_
      intro i13 σ13 g13 n13 h13
      refine wl_nil ⟨rfl, g13.len, ?_⟩
      clear hmay7
      have how13 : OW σ' σ13 row l := how.keep fun j o _ _ ho => g13.keep j o ho
      refine dx_last 16 rfl (by decide) (by kernel_rfl) ?_
      refine wc_append1 (α := Bool) (σ₀ := σ') rfl rfl inferInstance inferInstance rfl (by decide) (by decide) how13 h13 (one_bool _) (by omega) (fun j hj => .inr (by omega)) (by have := g13.len; omega) rfl ?_
      intro row' σ14 app14 mk14 how14 one14
      refine wl_nil (dl_in ?_)
      refine dl_last 17 rfl (by decide) (by kernel_rfl) ?_
      refine wl_pop rfl (po_assign rfl) ?_
      refine wl_nil (dl_in ?_)
      refine dl_done (by kernel_rfl) ?_
      have hl14 : LeB i σ' σ14 := app14.leB' (⟨⟨fun j o hj ho => g13.keep j o (hle2.keep.keep j o hj ho)⟩, by have := g13.len; omega⟩ : LeB i σ' σ13) (Nat.le_refl _)
      have hi14 : Has σ14 i (RdO s p2) := ⟨app14.keep i _ (.inl (by omega)) (g13.keep _ _ hir2.get)⟩
      repeat' (first
        | refine wp_region_seq ?_
        | refine thru_seq_next ?_
        | refine thru_block_next ?_
        | refine wl_nil ?_
        | refine wl_pop rfl (po_move rfl) ?_
        | refine wl_pop rfl (po_assign rfl) ?_
        | refine wl_pop rfl (pc_add rfl rfl (by omega) (by omega)) ?_
        | fail)
      exact ⟨(t + 1, row', p2), by dsimp only; omega, ⟨by dsimp only; omega, one14, by dsimp only; omega, by dsimp only; push_cast; omega, hi14, hl14, _, by simp [hll], how14⟩, (by repeat' (first | exact sub_nil | refine sub_cons rfl ?_ | refine sub_int rfl (by first | rfl | omega | (push_cast; omega) | simp) ?_ | refine sub_eq rfl (by assumption) ?_))⟩
    · have hz : binLit .eql (.int .i64 ((C.getD k 0 : Nat) : Int)) (.int .i64 ((C.getD t 0 : Nat) : Int)) = some (.bool false) := congrArg (fun b => some (Value.bool b)) (by rw [beq_eq_false_iff_ne]; omega)
      refine wc_drawnXp (t := 4) i [16, 17] mixed_ rfl rfl ?_
      refine dx_pure 0 rfl rfl (by kernel_rfl) (po_move rfl) ?_
      refine dx_pure 1 rfl rfl (by kernel_rfl) (po_move rfl) ?_
      refine dx_pure 2 rfl rfl (by kernel_rfl) (po_move rfl) ?_
      refine dx_pure 3 rfl rfl (by kernel_rfl) (pc_indexAddr rfl rfl inferInstance inferInstance (by omega)) ?_
      refine dx_load1 4 rfl rfl (by kernel_rfl) rfl inferInstance atk atk.lt hir2 hvi ?_
      refine dx_pure 5 rfl rfl (by kernel_rfl) (po_move rfl) ?_
      refine dx_pure 6 rfl rfl (by kernel_rfl) (po_move rfl) ?_
      refine dx_pure 7 rfl rfl (by kernel_rfl) (pc_indexAddr rfl rfl inferInstance inferInstance (by omega)) ?_
      refine dx_load1 8 rfl rfl (by kernel_rfl) rfl inferInstance att att.lt hir2 hvi ?_
      refine dx_pure 9 rfl rfl (by kernel_rfl) (po_binOp rfl rfl hz) ?_
      refine dx_pure 10 rfl rfl (by kernel_rfl) (po_move rfl) ?_
      refine dx_new 11 rfl (by kernel_rfl) ?_
      intro N7 B7 w7 r7 may7 hmay7
      refine wc_guardT_false rfl rfl rfl ?_
      refine wl_pop rfl (po_move rfl) ?_
      refine wl_nil ⟨rfl, Nat.le_refl _, ?_⟩
      clear hmay7
      refine dx_one 12 rfl (by kernel_rfl) hir2 (.inr hni) ?_
      intro N' B' w' r' may' hmay'
      refine wc_guardT_false rfl rfl rfl ?_
      refine wc_callP rfl inferInstance rfl (c_pick i s b _ _ _ (by omega) (by omega)) hir2 (hmay' _ (.inl rfl)) rfl ?_
      intro v3 p3 σa σb c1 c2 c3 c4 ga ua
      have hib : Has σb i (RdO s p3) := instHasUpd (g := ua)
      have lb : LeB i σ'' σb := inferInstance
      have lbl := lb.len
      refine wl_nil ⟨rfl, lbl, ?_⟩
      clear hmay'
      refine dx_new 13 rfl (by kernel_rfl) ?_
      intro N7 B7 w7 r7 may7 hmay7
      refine wc_guardT_false rfl rfl rfl ?_
      refine wl_pop rfl (po_binOp rfl rfl rfl) ?_
      refine wl_nil ⟨rfl, Nat.le_refl _, ?_⟩
      clear hmay7
      refine dx_new 14 rfl (by kernel_rfl) ?_
      intro N7 B7 w7 r7 may7 hmay7
      refine wl_pop rfl (po_pick rfl rfl) ?_
      refine wl_nil ⟨rfl, Nat.le_refl _, ?_⟩
      clear hmay7
      refine dx_new 15 rfl (by kernel_rfl) ?_
      intro N7 B7 w7 r7 may7 hmay7
      refine wc_oneBool rfl inferInstance inferInstance rfl (by decide) rfl ?_
      intro i13 σ13 g13 n13 h13
      refine wl_nil ⟨rfl, g13.len, ?_⟩
      clear hmay7
      have how13 : OW σ' σ13 row l := (ow_leB how lb (by omega)).keep fun j o _ _ ho => g13.keep j o ho
      refine dx_last 16 rfl (by decide) (by kernel_rfl) ?_
      refine wc_append1 (α := Bool) (σ₀ := σ') rfl rfl inferInstance inferInstance rfl (by decide) (by decide) how13 h13 (one_bool _) (by omega) (fun j hj => .inr (by omega)) (by have := g13.len; omega) rfl ?_
      intro row' σ14 app14 mk14 how14 one14
      refine wl_nil (dl_in ?_)
      refine dl_last 17 rfl (by decide) (by kernel_rfl) ?_
      refine wl_pop rfl (po_assign rfl) ?_
      refine wl_nil (dl_in ?_)
      refine dl_done (by kernel_rfl) ?_
      have hl14 : LeB i σ' σ14 := app14.leB' (⟨⟨fun j o hj ho => g13.keep j o (lb.keep.keep j o hj (hle2.keep.keep j o hj ho))⟩, by have := g13.len; omega⟩ : LeB i σ' σ13) (Nat.le_refl _)
      have hi14 : Has σ14 i (RdO s p3) := ⟨app14.keep i _ (.inl (by omega)) (g13.keep _ _ hib.get)⟩
      repeat' (first
        | refine wp_region_seq ?_
        | refine thru_seq_next ?_
        | refine thru_block_next ?_
        | refine wl_nil ?_
        | refine wl_pop rfl (po_move rfl) ?_
        | refine wl_pop rfl (po_assign rfl) ?_
        | refine wl_pop rfl (pc_add rfl rfl (by omega) (by omega)) ?_
        | fail)
      exact ⟨(t + 1, row', p3), by dsimp only; omega, ⟨by dsimp only; omega, one14, by dsimp only; omega, by dsimp only; push_cast; omega, hi14, hl14, _, by simp [hll], how14⟩, (by repeat' (first | exact sub_nil | refine sub_cons rfl ?_ | refine sub_int rfl (by first | rfl | omega | (push_cast; omega) | simp) ?_ | refine sub_eq rfl (by assumption) ?_))⟩
  · obtain rfl : t = C.length := by omega
    repeat' (first
      | (refine wc_oneAV rfl inferInstance inferInstance rfl (by decide) rfl ?_; intro _ _ _ _ _)
      | fail)
    rename_i i10 σ10 g10 n10 h10
    have y13 := g10.len
    have hb10 : LeB i σ' σ10 := ⟨⟨fun j o hj ho => g10.keep j o (hle2.keep.keep j o hj ho)⟩, by omega⟩
    have hpr2 : PR σ7 σ10 rel rus gs := hpr.keepB hb10 (by omega)
    have how10 : OW σ' σ10 row l := how.keep fun j o _ _ ho => g10.keep j o ho
    refine wc_append1 (α := AV) (σ₀ := σ7) rfl rfl inferInstance inferInstance rfl (by decide) (by decide) hpr2.ow h10 (one_av inferInstance) (by omega) (fun j hj => .inr (by omega)) (by omega) rfl ?_
    intro rel' σ11 app11 mk11 how11 one11
    have hp := hpr.push1 (by omega) how10 hpr2 app11 how11
    have hl11 : LeB i σ7 σ11 := app11.leB' (⟨⟨fun j o hj ho => hb10.keep.keep j o hj (hle.keep.keep j o hj ho)⟩, by omega⟩ : LeB i σ7 σ10) (Nat.le_refl _)
    have hi11 : Has σ11 i (RdO s p2) := ⟨app11.keep i _ (.inl (by omega)) (g10.keep _ _ hir2.get)⟩
    repeat' (first
      | refine wp_region_seq ?_
      | refine thru_seq_next ?_
      | refine thru_block_next ?_
      | refine wl_nil ?_
      | refine wl_pop rfl (po_move rfl) ?_
      | refine wl_pop rfl (po_assign rfl) ?_
      | refine wl_pop rfl (pc_add rfl rfl (by omega) (by omega)) ?_
      | fail)
    refine ⟨(k + 1, rel', p2), by dsimp only; omega, ⟨by dsimp only; omega, one11, by dsimp only; omega, by dsimp only; push_cast; omega, hi11, hl11, rus ++ [row], gs ++ [l], by simp [hrus], hp, fun l' hl' => ?_⟩, (by repeat' (first | exact sub_nil | refine sub_cons rfl ?_ | refine sub_int rfl (by first | rfl | omega | (push_cast; omega) | simp) ?_ | refine sub_eq rfl (by assumption) ?_))⟩
    rcases List.mem_append.mp hl' with h | h
    · exact hgs l' h
    · simp only [List.mem_singleton] at h; subst h; exact hll
end
end Go.Proofs.Ytpkgcdpebomalaa.Asl
