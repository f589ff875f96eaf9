/- The program's scan: a term. -/
import Derived.Test.YthbodgnoadlbcaaDoorK15
namespace Go.Proofs.YthbodgnoadlbcaaDoor.Asl
open Go.RowKit Go.Proofs.YthbodgnoadlbcaaDoorW.PrintLast
set_option linter.unusedVariables false
set_option linter.unusedSimpArgs false
attribute [local irreducible] WP WL andThen inBlock noGoto atEnd ACall DA DL DX PO Hold nodeOk termS partS
set_option maxHeartbeats 4000000
set_option synthInstance.maxHeartbeats 400000
set_option synthInstance.maxSize 10000
section
variable {base : Nat}
theorem c_takeY (i : Nat) {w : List UInt8} {r r' : Sc} (e : r.take w = some r') (σ : Store) [hi : Has σ i (ScO r)] : ACall Tryd.prog base F_impl_scan_take [.pt i 0, Str (ofL w)] σ (fun j => j = i) (RetSc σ i r' (Bo true)) := by
  have := c_take (base := base) i w r σ
  rwa [e] at this
theorem c_takeN (i : Nat) {w : List UInt8} {r : Sc} (e : r.take w = none) (σ : Store) [hi : Has σ i (ScO r)] : ACall Tryd.prog base F_impl_scan_take [.pt i 0, Str (ofL w)] σ (fun j => j = i) (RetSc σ i r (Bo false)) := by
  have := c_take (base := base) i w r σ
  rwa [e] at this
theorem wc_callPart {E : Env} {ops : Array Oper} {l : List Oper} {Q : Exit → Slots → Store → Prop} {S : Slots} {σ : Store} {d : Option Tmp} {ty : TypeId} {pos : String} {af : Array Edge} {x : Operand} {args : Array Operand} {ats : Array TypeId} {f : FuncId} {rs caps : List AV} {σ₀ : Store} {i it : Nat} {op n : Int} {s : AV} {xs : List Tm} {z : List Tm × Sc} {r : Sc} (hf : S.ev x = some (.fn f caps)) (hc : Callable E.P f) (hargs : evs S args.toList = some rs)
    (h : ACall E.P E.base f (rs ++ caps) σ (fun q => q = i ∨ q = it ∨ ∃ z, s = .sl q 0 z) (RetPart σ₀ σ i it op n s z)) (hi : Has σ i (ScO r)) (ht : Has σ it ⟨.own, 1, [I op, I n, s], []⟩) (hr : RepD σ (fun q => σ₀.length ≤ q) s xs) (hmi : E.may i) (hmt : E.may it) (hmr : ∀ q, σ₀.length ≤ q → E.may q) (hd : okd E d = true)
    (k : ∀ s' σ', Has σ' i (ScO z.2) → Has σ' it ⟨.own, 1, [I op, I n, s'], []⟩ → RepD σ' (fun q => σ₀.length ≤ q) s' z.1 → One s' → (z.1 = [] → s' = nilS) → σ.length ≤ σ'.length → (∀ (q : Nat) (o : Ob), q ≠ i → q ≠ it → q < σ₀.length → σ[q]? = some o → σ'[q]? = some o) → WL E ops l Q (S.put d (.tup [])) σ') :
    WL E ops (⟨d, .call ⟨.value x, args, ats⟩, ty, pos, af, none⟩ :: l) Q S σ :=
  wl_call hf hc hargs h (fun j hj => by
    rcases hj with rfl | rfl | ⟨z, e⟩
    · exact ⟨hmi, _, hi.get, .inl rfl⟩
    · exact ⟨hmt, _, ht.get, .inl rfl⟩
    · subst e
      obtain ⟨l, h1, _, h3⟩ := hr.cells
      exact ⟨hmr _ h3, _, h1.get, .inl rfl⟩) hd fun r' σ' hK => by
    obtain ⟨e, h1, s', h2, h3, h4, h5, h6, h7⟩ := hK
    subst e
    refine k s' σ' h1 h2 h3 h4 h5 h6 fun q o a b c ho => h7 q o a b (fun z e => ?_) ho
    subst e
    obtain ⟨l, _, _, h8⟩ := hr.cells
    omega
theorem partS_len {rd : Sc → Tm × Sc} (x : List Tm × Sc) : (partS rd x).1.length ≤ x.1.length + 1 := by
  unfold partS
  split <;> simp
theorem c_term_of {nb f : Nat} (hT : CTS base nb f) (hnb : nb < 4294967281) (hf : f ≤ 100) (i : Nat) (r : Sc) (L : Int) (σ : Store) [hi : Has σ i (ScO r)] (hbad : r.bad = false) (hok : r.ok nb L) (hL : L < ((f + 1 : Nat) : Int)) :
    ACall Tryd.prog base F_impl_scan_term [.pt i 0] σ (fun j => j = i) (RetScan σ i (termS (f + 1) r)) := by
  have hi0 := hi.lt
  have hok1 := hok.node (hok.pos hbad)
  refine acall1 fun_impl_scan_term rfl tmps_impl_scan_term rfl fun N B w₀ ρ₀ => ?_
  repeat' (first
    | refine wl_pop rfl (pc_build0 (cs := [I 0, I 0, nilS]) inferInstance inferInstance rfl) ?_
    | (refine wc_storeA rfl rfl inferInstance inferInstance rfl inferInstance (Nat.le_of_ble_eq_true rfl) (.inr (may_newB i σ)) ?_; intro _ _)
    | refine wc_holdR 2 ?_
    | refine wp_seqA ?_
    | refine wp_region_seq ?_
    | refine thru_seq_next ?_
    | refine wl_nil ?_
    | (refine wc_box1 rfl inferInstance rfl ?_; intro _ _ _ _ _)
    | (refine wc_allocA (cs := [_, _, _]) inferInstance rfl inferInstance rfl ?_; intro _ _ _ _ _)
    | fail)
  rename_i j0 σ1 g1 n1 h1 ir σ2 g2 n2 h2 it σ3 g3 n3 h3 σ4 u4
  have y1 := n1.le
  have y2 := h1.lt
  have y3 := n2.le
  have y4 := h2.lt
  have y5 := n3.le
  have y6 := h3.lt
  have y7 := Upd.len u4
  have hj4 : Has σ4 j0 ⟨.own, 1, [.pt i 0], []⟩ := inferInstance
  have hr4 : Has σ4 ir ⟨.own, 1, [I 0, I 0, nilS], []⟩ := inferInstance
  have ht4 : Has σ4 it ⟨.own, 1, [I 0, I 0, nilS], []⟩ := instHasUpd (g := u4)
  have hi4 : Has σ4 i (ScO r) := inferInstance
  have hle4 : LeB i σ σ4 := inferInstance
  have ni : New σ it := ⟨by omega⟩
  have nr : New σ ir := ⟨by omega⟩
  have nj : New σ j0 := ⟨by omega⟩
  clear u4 h1 h2 h3
  refine hold_go ?_
  repeat' (first
    | (refine wc_callSc rfl inferInstance rfl (c_node i r hok.low (by have := hok.left; omega) _) inferInstance (.inl rfl) rfl ?_; intro _ _ _ _)
    | (refine wc_storeA rfl rfl inferInstance inferInstance rfl inferInstance (Nat.le_of_ble_eq_true rfl) (.inr (may_newB i σ)) ?_; intro _ _)
    | refine wc_hold 0 ?_
    | refine wp_seqA ?_
    | refine wp_region_seq ?_
    | refine thru_seq_next ?_
    | refine thru_seq_ret ?_
    | refine wp_skipA ?_
    | refine wp_retA ?_
    | refine wl_nil ?_
    | refine wl_pop rfl (po_assign rfl) ?_
    | refine wc_load1 rfl inferInstance (at_has (.inl rfl) rfl rfl) rfl ?_
    | refine wc_loadn rfl inferInstance (at_has (cs := [_, _, _]) (.inl rfl) rfl rfl) rfl ?_
    | refine wl_pop rfl (po_not rfl) ?_
    | refine wl_pop rfl (po_makeFunc rfl rfl) ?_
    | refine wp_condA rfl (fun _ => ?_) (fun _ => ?_)
    | refine at_ret (res_cell rfl rfl inferInstance (at_has (cs := [_, _, _]) (.inl rfl) rfl rfl)) ?_
    | fail)
  · rename_i σ5 σ6 g5 u6 hb σ7 u7
    have hb' : r.node.bad = true := by simpa using hb
    have e : termS (f + 1) r = (.node 0 0 [], r.node) := by unfold termS; rw [if_pos hb']
    rw [e]
    exact ⟨nilS, rfl, ⟨.nil⟩, fun _ => rfl, inferInstance, inferInstance⟩
  rename_i σ5 σ6 g5 u6 hb
  have hb' : r.node.bad = false := by simpa using hb
  have e : termS (f + 1) r = bodyS (termS f) r.node := by unfold termS; rw [if_neg (by rw [hb']; decide)]
  rw [e]
  have k46 : ∀ (q : Nat) (o : Ob), q ≠ i → σ4[q]? = some o → σ6[q]? = some o := fun q o hq ho => by rw [u6.eq, List.getElem?_set_ne (Ne.symm hq)]; exact g5.keep q o ho
  have hi6 : Has σ6 i (ScO r.node) := instHasUpd (g := u6)
  have hj6 : Has σ6 j0 ⟨.own, 1, [.pt i 0], []⟩ := ⟨k46 _ _ (by omega) hj4.get⟩
  have hr6 : Has σ6 ir ⟨.own, 1, [I 0, I 0, nilS], []⟩ := ⟨k46 _ _ (by omega) hr4.get⟩
  have ht6 : Has σ6 it ⟨.own, 1, [I 0, I 0, nilS], []⟩ := ⟨k46 _ _ (by omega) ht4.get⟩
  have hle6 : LeB i σ σ6 := inferInstance
  have y8 : σ4.length ≤ σ6.length := by have := Upd.len u6; have := g5.len; omega
  clear u6 hi4 hj4 hr4 ht4
  have hT' : ∀ rr : Sc, rr.bad = false → rr.ok nb (L - 1) → (termS f rr).2.ok nb (L - 1) := fun rr a b => Sc.ok.term f (L - 1) rr a b
  have hLf : L - 1 < (f : Int) := by omega
  refine wc_cut (ι := AV) [(2, .pt ir 0), (3, .pt it 0)] (fun _ => []) (fun u σ' => Has σ' i (ScO (bodyS (termS f) r.node).2) ∧ Has σ' it ⟨.own, 1, [I (bodyS (termS f) r.node).1.op, I (bodyS (termS f) r.node).1.n, u], []⟩ ∧ RepD σ' (fun q => σ4.length ≤ q) u (bodyS (termS f) r.node).1.ps ∧ One u ∧ ((bodyS (termS f) r.node).1.ps = [] → u = nilS) ∧ Has σ' ir ⟨.own, 1, [I 0, I 0, nilS], []⟩ ∧ LeB i σ σ') ?_ ?_
  rotate_left
  · rintro u σ' ⟨c1, c2, c3, c4, c5, c6, c7⟩
    have d1 : Dif ir it := ⟨by omega⟩
    have := c7.len
    repeat' (first
      | (refine wc_storeA rfl rfl inferInstance inferInstance rfl inferInstance (Nat.le_of_ble_eq_true rfl) (.inr (may_newB i σ)) ?_; intro _ _)
      | refine wp_seqA ?_
      | refine wp_region_seq ?_
      | refine thru_seq_next ?_
      | refine wp_retA ?_
      | refine wl_nil ?_
      | refine wc_loadn rfl inferInstance (at_has (cs := [_, _, _]) (.inl rfl) rfl rfl) rfl ?_
      | refine at_ret (res_cell rfl rfl inferInstance (at_has (cs := [_, _, _]) (.inl rfl) rfl rfl)) ?_
      | fail)
    rename_i σ7 u7
    refine ⟨u, rfl, ⟨c3.mono (fun q o hq ho => by rw [u7.eq, List.getElem?_set_ne (by omega)]; exact ho) (fun q hq => by omega)⟩, c5, ⟨by rw [u7.eq, List.getElem?_set_ne (by omega)]; exact c1.get⟩, inferInstance⟩
  cases e1 : r.node.take [40, 97, 99, 116, 32] with
  | some r2 =>
    have k2 := hok1.take e1
    repeat' (first
      | (refine wc_callSc rfl inferInstance rfl (c_takeY i e1 _) inferInstance (.inl rfl) rfl ?_; intro _ _ _ _)
      | (refine wc_callSc rfl inferInstance rfl (c_act i r2 (by have := k2.len; omega) _) inferInstance (.inl rfl) rfl ?_; intro _ _ _ _)
      | (refine wc_store1 rfl rfl inferInstance inferInstance inferInstance (Nat.le_of_ble_eq_true rfl) (.inr (may_newB i σ)) ?_; intro _ _)
      | refine wc_holdR 15 ?_
      | refine wp_seqA ?_
      | refine wp_region_seq ?_
      | refine thru_seq_next ?_
      | refine wp_blockA ?_
      | refine wl_nil ?_
      | refine wl_pop rfl (po_assign rfl) ?_
      | refine wl_pop rfl (po_fieldAddr rfl inferInstance) ?_
      | refine wc_load1 rfl inferInstance (at_has (.inl rfl) rfl rfl) rfl ?_
      | refine wp_condT rfl ?_
      | fail)
    rename_i σa σb ga ub σc σd gc ud σe ue σq uq
    have l0 : σ6.length ≤ σq.length := by have := ga.len; have := gc.len; have := Upd.len ub; have := Upd.len ud; have := Upd.len ue; have := Upd.len uq; omega
    have q1' : Has σq i (ScO r2.act.2) := inferInstance
    have q2' : Has σq it ⟨.own, 1, [I 1, I r2.act.1, nilS], []⟩ := instHasUpd (g := uq)
    have q3 : Has σq j0 ⟨.own, 1, [.pt i 0], []⟩ := ⟨by rw [uq.eq, List.getElem?_set_ne (by omega), ue.eq, List.getElem?_set_ne (by omega), ud.eq, List.getElem?_set_ne (by omega)]; refine gc.keep _ _ ?_; rw [ub.eq, List.getElem?_set_ne (by omega)]; exact ga.keep _ _ hj6.get⟩
    have q4 : Has σq ir ⟨.own, 1, [I 0, I 0, nilS], []⟩ := ⟨by rw [uq.eq, List.getElem?_set_ne (by omega), ue.eq, List.getElem?_set_ne (by omega), ud.eq, List.getElem?_set_ne (by omega)]; refine gc.keep _ _ ?_; rw [ub.eq, List.getElem?_set_ne (by omega)]; exact ga.keep _ _ hr6.get⟩
    have q5 : LeB i σ σq := inferInstance
    have q6 : σ4.length ≤ σq.length := by omega
    have k3' : (r2.act.2).ok nb (L - 1) := k2.act
    have eB : bodyS (termS f) r.node = (.node 1 (r2.act.1) (partS (termS f) ([], r2.act.2)).1, (partS (termS f) ([], r2.act.2)).2.must [41]) := by unfold bodyS; simp only [e1]
    rw [eB]
    obtain ⟨r3, hr3⟩ : ∃ r3, r2.act.2 = r3 := ⟨_, rfl⟩
    obtain ⟨n, hn⟩ : ∃ n : Int, r2.act.1 = n := ⟨_, rfl⟩
    obtain ⟨op, hop⟩ : ∃ op : Int, 1 = op := ⟨_, rfl⟩
    have q1 : Has σq i (ScO r3) := hr3 ▸ q1'
    have q2 : Has σq it ⟨.own, 1, [I op, I n, nilS], []⟩ := by rw [← hop, ← hn]; exact q2'
    have k3 : r3.ok nb (L - 1) := hr3 ▸ k3'
    rw [hr3, hn]
    clear q1' q2' ub ud ue uq ga gc l0
    refine hold_go ?_
    repeat' (first
      | (refine wc_callPart rfl inferInstance rfl (c_part hT hnb σ4 i it j0 r3 (L - 1) op n nilS [] _ .nil (fun _ => rfl) (by simp) (by omega) (by omega) (by omega) (by omega) (by omega) (by omega) (by omega) k3 hLf) q1 q2 .nil (.inl rfl) (.inr (by omega)) (fun q hq => .inr (by omega)) rfl ?_; intro _ _ _ _ _ _ _ _ _)
      | refine wp_region_seq ?_
      | refine thru_seq_next ?_
      | refine wl_nil ?_
      | refine wl_pop rfl (po_move rfl) ?_
      | fail)
    rename_i s1 σ11 p1 p2 p3 p4 p5 p6 p7
    have a3 : Has σ11 j0 ⟨.own, 1, [.pt i 0], []⟩ := ⟨p7 _ _ (by omega) (by omega) (by omega) q3.get⟩
    have a4 : Has σ11 ir ⟨.own, 1, [I 0, I 0, nilS], []⟩ := ⟨p7 _ _ (by omega) (by omega) (by omega) q4.get⟩
    have a5 : LeB i σ σ11 := ⟨⟨fun q o hq ho => by have := Has.lt ⟨ho⟩; exact p7 q o hq (by omega) (by omega) (q5.keep.keep q o hq ho)⟩, by have := q5.len; omega⟩
    have kz1 := Sc.ok.part hT' (x := ([], r3)) k3
    have hz1l := partS_len (rd := termS f) ([], r3)
    generalize partS (termS f) ([], r3) = z at *
    clear p7 q1 q2 q3 q4 hr6 ht6 hj6 hi6
    repeat' (first
      | (refine wc_callSc rfl inferInstance rfl (c_must i [41] z.2 _) inferInstance (.inl rfl) rfl ?_; intro _ _ _ _)
      | refine thru_seq_next ?_
      | refine thru_block_next ?_
      | refine wl_nil ?_
      | refine wc_load1 rfl inferInstance (at_has (.inl rfl) rfl rfl) rfl ?_
      | fail)
    rename_i σ13 σ14 g14 u14
    have kf : ∀ (q : Nat) (o : Ob), q ≠ i → σ11[q]? = some o → σ14[q]? = some o := fun q o hq ho => by rw [u14.eq, List.getElem?_set_ne (Ne.symm hq)]; exact g14.keep q o ho
    have l5 := a5.len
    subst hop
    exact ⟨s1, ⟨instHasUpd (g := u14), ⟨kf _ _ (by omega) p2.get⟩, p3.mono (fun q o hq ho => kf q o (by omega) ho) (fun _ h => h), p4, p5, ⟨kf _ _ (by omega) a4.get⟩, inferInstance⟩, (by repeat' (first | exact sub_nil | refine sub_cons rfl ?_ | refine sub_int rfl (by first | rfl | omega | (push_cast; omega) | simp) ?_ | refine sub_eq rfl (by assumption) ?_))⟩
  | none =>
    cases e2 : r.node.take [40, 115, 117, 109] with
    | some r2 =>
      have k2 := hok1.take e2
      repeat' (first
        | (refine wc_callSc rfl inferInstance rfl (c_takeN i e1 _) inferInstance (.inl rfl) rfl ?_; intro _ _ _ _)
        | (refine wc_callSc rfl inferInstance rfl (c_takeY i e2 _) inferInstance (.inl rfl) rfl ?_; intro _ _ _ _)
        | (refine wc_store1 rfl rfl inferInstance inferInstance inferInstance (Nat.le_of_ble_eq_true rfl) (.inr (may_newB i σ)) ?_; intro _ _)
        | refine wc_holdR 19 ?_
        | refine wp_seqA ?_
        | refine wp_region_seq ?_
        | refine thru_seq_next ?_
        | refine wp_blockA ?_
        | refine wl_nil ?_
        | refine wl_pop rfl (po_assign rfl) ?_
        | refine wl_pop rfl (po_fieldAddr rfl inferInstance) ?_
        | refine wc_load1 rfl inferInstance (at_has (.inl rfl) rfl rfl) rfl ?_
        | refine wp_condT rfl ?_
        | refine wp_condF rfl ?_
        | fail)
      rename_i σ1a σ1b g1a u1b σa σb ga ub σq uq
      have l0 : σ6.length ≤ σq.length := by have := g1a.len; have := ga.len; have := Upd.len u1b; have := Upd.len ub; have := Upd.len uq; omega
      have q1' : Has σq i (ScO r2) := inferInstance
      have q2' : Has σq it ⟨.own, 1, [I 2, I 0, nilS], []⟩ := instHasUpd (g := uq)
      have q3 : Has σq j0 ⟨.own, 1, [.pt i 0], []⟩ := ⟨by rw [uq.eq, List.getElem?_set_ne (by omega), ub.eq, List.getElem?_set_ne (by omega)]; refine ga.keep _ _ ?_; rw [u1b.eq, List.getElem?_set_ne (by omega)]; exact g1a.keep _ _ hj6.get⟩
      have q4 : Has σq ir ⟨.own, 1, [I 0, I 0, nilS], []⟩ := ⟨by rw [uq.eq, List.getElem?_set_ne (by omega), ub.eq, List.getElem?_set_ne (by omega)]; refine ga.keep _ _ ?_; rw [u1b.eq, List.getElem?_set_ne (by omega)]; exact g1a.keep _ _ hr6.get⟩
      have q5 : LeB i σ σq := inferInstance
      have q6 : σ4.length ≤ σq.length := by omega
      have k3' : (r2).ok nb (L - 1) := k2
      have eB : bodyS (termS f) r.node = (.node 2 (0) (partS (termS f) (partS (termS f) ([], r2))).1, (partS (termS f) (partS (termS f) ([], r2))).2.must [41]) := by unfold bodyS; simp only [e1, e2]
      rw [eB]
      obtain ⟨r3, hr3⟩ : ∃ r3, r2 = r3 := ⟨_, rfl⟩
      obtain ⟨n, hn⟩ : ∃ n : Int, 0 = n := ⟨_, rfl⟩
      obtain ⟨op, hop⟩ : ∃ op : Int, 2 = op := ⟨_, rfl⟩
      have q1 : Has σq i (ScO r3) := hr3 ▸ q1'
      have q2 : Has σq it ⟨.own, 1, [I op, I n, nilS], []⟩ := by rw [← hop, ← hn]; exact q2'
      have k3 : r3.ok nb (L - 1) := hr3 ▸ k3'
      rw [hr3]
      clear q1' q2' u1b g1a ub uq ga l0
      refine hold_go ?_
      repeat' (first
        | (refine wc_callPart rfl inferInstance rfl (c_part hT hnb σ4 i it j0 r3 (L - 1) op n nilS [] _ .nil (fun _ => rfl) (by simp) (by omega) (by omega) (by omega) (by omega) (by omega) (by omega) (by omega) k3 hLf) q1 q2 .nil (.inl rfl) (.inr (by omega)) (fun q hq => .inr (by omega)) rfl ?_; intro _ _ _ _ _ _ _ _ _)
        | refine wc_holdR 20 ?_
        | refine wp_seqA ?_
        | refine wp_region_seq ?_
        | refine thru_seq_next ?_
        | refine wl_nil ?_
        | refine wl_pop rfl (po_move rfl) ?_
        | fail)
      rename_i s1 σ11 p1 p2 p3 p4 p5 p6 p7
      have a3 : Has σ11 j0 ⟨.own, 1, [.pt i 0], []⟩ := ⟨p7 _ _ (by omega) (by omega) (by omega) q3.get⟩
      have a4 : Has σ11 ir ⟨.own, 1, [I 0, I 0, nilS], []⟩ := ⟨p7 _ _ (by omega) (by omega) (by omega) q4.get⟩
      have a5 : LeB i σ σ11 := ⟨⟨fun q o hq ho => by have := Has.lt ⟨ho⟩; exact p7 q o hq (by omega) (by omega) (q5.keep.keep q o hq ho)⟩, by have := q5.len; omega⟩
      have kz1 := Sc.ok.part hT' (x := ([], r3)) k3
      have hz1l := partS_len (rd := termS f) ([], r3)
      generalize partS (termS f) ([], r3) = z1 at *
      have hz1l : z1.1.length ≤ 2 := by simp only [List.length_nil] at hz1l; omega
      refine hold_go ?_
      repeat' (first
        | (refine wc_callPart rfl inferInstance rfl (c_part hT hnb σ4 i it j0 z1.2 (L - 1) op n s1 z1.1 _ p3 p5 hz1l (by omega) (by omega) (by omega) (by omega) (by omega) (by omega) (by omega) kz1 hLf) p1 p2 p3 (.inl rfl) (.inr (by omega)) (fun q hq => .inr (by omega)) rfl ?_; intro _ _ _ _ _ _ _ _ _)
        | refine wp_region_seq ?_
        | refine thru_seq_next ?_
        | refine wl_nil ?_
        | refine wl_pop rfl (po_move rfl) ?_
        | fail)
      rename_i s2 σ12 b1 b2 b3 b4 b5 b6 b7
      have d3 : Has σ12 j0 ⟨.own, 1, [.pt i 0], []⟩ := ⟨b7 _ _ (by omega) (by omega) (by omega) a3.get⟩
      have d4 : Has σ12 ir ⟨.own, 1, [I 0, I 0, nilS], []⟩ := ⟨b7 _ _ (by omega) (by omega) (by omega) a4.get⟩
      have d5 : LeB i σ σ12 := ⟨⟨fun q o hq ho => by have := Has.lt ⟨ho⟩; exact b7 q o hq (by omega) (by omega) (a5.keep.keep q o hq ho)⟩, by have := a5.len; omega⟩
      generalize partS (termS f) z1 = z at *
      clear p1 p2 p3 p7 b7 a3 a4 q1 q2 q3 q4 hr6 ht6 hj6 hi6
      repeat' (first
        | (refine wc_callSc rfl inferInstance rfl (c_must i [41] z.2 _) inferInstance (.inl rfl) rfl ?_; intro _ _ _ _)
        | refine thru_seq_next ?_
        | refine thru_block_next ?_
        | refine wl_nil ?_
        | refine wc_load1 rfl inferInstance (at_has (.inl rfl) rfl rfl) rfl ?_
        | fail)
      rename_i σ13 σ14 g14 u14
      have kf : ∀ (q : Nat) (o : Ob), q ≠ i → σ12[q]? = some o → σ14[q]? = some o := fun q o hq ho => by rw [u14.eq, List.getElem?_set_ne (Ne.symm hq)]; exact g14.keep q o ho
      have l5 := d5.len
      subst hop
      subst hn
      exact ⟨s2, ⟨instHasUpd (g := u14), ⟨kf _ _ (by omega) b2.get⟩, b3.mono (fun q o hq ho => kf q o (by omega) ho) (fun _ h => h), b4, b5, ⟨kf _ _ (by omega) d4.get⟩, inferInstance⟩, (by repeat' (first | exact sub_nil | refine sub_cons rfl ?_ | refine sub_int rfl (by first | rfl | omega | (push_cast; omega) | simp) ?_ | refine sub_eq rfl (by assumption) ?_))⟩
    | none =>
      cases e3 : r.node.take [40, 112, 97, 114] with
      | some r2 =>
        have k2 := hok1.take e3
        repeat' (first
          | (refine wc_callSc rfl inferInstance rfl (c_takeN i e1 _) inferInstance (.inl rfl) rfl ?_; intro _ _ _ _)
          | (refine wc_callSc rfl inferInstance rfl (c_takeN i e2 _) inferInstance (.inl rfl) rfl ?_; intro _ _ _ _)
          | (refine wc_callSc rfl inferInstance rfl (c_takeY i e3 _) inferInstance (.inl rfl) rfl ?_; intro _ _ _ _)
          | (refine wc_store1 rfl rfl inferInstance inferInstance inferInstance (Nat.le_of_ble_eq_true rfl) (.inr (may_newB i σ)) ?_; intro _ _)
          | refine wc_holdR 24 ?_
          | refine wp_seqA ?_
          | refine wp_region_seq ?_
          | refine thru_seq_next ?_
          | refine wp_blockA ?_
          | refine wl_nil ?_
          | refine wl_pop rfl (po_assign rfl) ?_
          | refine wl_pop rfl (po_fieldAddr rfl inferInstance) ?_
          | refine wc_load1 rfl inferInstance (at_has (.inl rfl) rfl rfl) rfl ?_
          | refine wp_condT rfl ?_
          | refine wp_condF rfl ?_
          | fail)
        rename_i σ1a σ1b g1a u1b σ2a σ2b g2a u2b σa σb ga ub σq uq
        have l0 : σ6.length ≤ σq.length := by have := g1a.len; have := g2a.len; have := ga.len; have := Upd.len u1b; have := Upd.len u2b; have := Upd.len ub; have := Upd.len uq; omega
        have q1' : Has σq i (ScO r2) := inferInstance
        have q2' : Has σq it ⟨.own, 1, [I 3, I 0, nilS], []⟩ := instHasUpd (g := uq)
        have q3 : Has σq j0 ⟨.own, 1, [.pt i 0], []⟩ := ⟨by rw [uq.eq, List.getElem?_set_ne (by omega), ub.eq, List.getElem?_set_ne (by omega)]; refine ga.keep _ _ ?_; rw [u2b.eq, List.getElem?_set_ne (by omega)]; refine g2a.keep _ _ ?_; rw [u1b.eq, List.getElem?_set_ne (by omega)]; exact g1a.keep _ _ hj6.get⟩
        have q4 : Has σq ir ⟨.own, 1, [I 0, I 0, nilS], []⟩ := ⟨by rw [uq.eq, List.getElem?_set_ne (by omega), ub.eq, List.getElem?_set_ne (by omega)]; refine ga.keep _ _ ?_; rw [u2b.eq, List.getElem?_set_ne (by omega)]; refine g2a.keep _ _ ?_; rw [u1b.eq, List.getElem?_set_ne (by omega)]; exact g1a.keep _ _ hr6.get⟩
        have q5 : LeB i σ σq := inferInstance
        have q6 : σ4.length ≤ σq.length := by omega
        have k3' : (r2).ok nb (L - 1) := k2
        have eB : bodyS (termS f) r.node = (.node 3 (0) (partS (termS f) (partS (termS f) ([], r2))).1, (partS (termS f) (partS (termS f) ([], r2))).2.must [41]) := by unfold bodyS; simp only [e1, e2, e3]
        rw [eB]
        obtain ⟨r3, hr3⟩ : ∃ r3, r2 = r3 := ⟨_, rfl⟩
        obtain ⟨n, hn⟩ : ∃ n : Int, 0 = n := ⟨_, rfl⟩
        obtain ⟨op, hop⟩ : ∃ op : Int, 3 = op := ⟨_, rfl⟩
        have q1 : Has σq i (ScO r3) := hr3 ▸ q1'
        have q2 : Has σq it ⟨.own, 1, [I op, I n, nilS], []⟩ := by rw [← hop, ← hn]; exact q2'
        have k3 : r3.ok nb (L - 1) := hr3 ▸ k3'
        rw [hr3]
        clear q1' q2' u1b u2b g1a g2a ub uq ga l0
        refine hold_go ?_
        repeat' (first
          | (refine wc_callPart rfl inferInstance rfl (c_part hT hnb σ4 i it j0 r3 (L - 1) op n nilS [] _ .nil (fun _ => rfl) (by simp) (by omega) (by omega) (by omega) (by omega) (by omega) (by omega) (by omega) k3 hLf) q1 q2 .nil (.inl rfl) (.inr (by omega)) (fun q hq => .inr (by omega)) rfl ?_; intro _ _ _ _ _ _ _ _ _)
          | refine wc_holdR 25 ?_
          | refine wp_seqA ?_
          | refine wp_region_seq ?_
          | refine thru_seq_next ?_
          | refine wl_nil ?_
          | refine wl_pop rfl (po_move rfl) ?_
          | fail)
        rename_i s1 σ11 p1 p2 p3 p4 p5 p6 p7
        have a3 : Has σ11 j0 ⟨.own, 1, [.pt i 0], []⟩ := ⟨p7 _ _ (by omega) (by omega) (by omega) q3.get⟩
        have a4 : Has σ11 ir ⟨.own, 1, [I 0, I 0, nilS], []⟩ := ⟨p7 _ _ (by omega) (by omega) (by omega) q4.get⟩
        have a5 : LeB i σ σ11 := ⟨⟨fun q o hq ho => by have := Has.lt ⟨ho⟩; exact p7 q o hq (by omega) (by omega) (q5.keep.keep q o hq ho)⟩, by have := q5.len; omega⟩
        have kz1 := Sc.ok.part hT' (x := ([], r3)) k3
        have hz1l := partS_len (rd := termS f) ([], r3)
        generalize partS (termS f) ([], r3) = z1 at *
        have hz1l : z1.1.length ≤ 2 := by simp only [List.length_nil] at hz1l; omega
        refine hold_go ?_
        repeat' (first
          | (refine wc_callPart rfl inferInstance rfl (c_part hT hnb σ4 i it j0 z1.2 (L - 1) op n s1 z1.1 _ p3 p5 hz1l (by omega) (by omega) (by omega) (by omega) (by omega) (by omega) (by omega) kz1 hLf) p1 p2 p3 (.inl rfl) (.inr (by omega)) (fun q hq => .inr (by omega)) rfl ?_; intro _ _ _ _ _ _ _ _ _)
          | refine wp_region_seq ?_
          | refine thru_seq_next ?_
          | refine wl_nil ?_
          | refine wl_pop rfl (po_move rfl) ?_
          | fail)
        rename_i s2 σ12 b1 b2 b3 b4 b5 b6 b7
        have d3 : Has σ12 j0 ⟨.own, 1, [.pt i 0], []⟩ := ⟨b7 _ _ (by omega) (by omega) (by omega) a3.get⟩
        have d4 : Has σ12 ir ⟨.own, 1, [I 0, I 0, nilS], []⟩ := ⟨b7 _ _ (by omega) (by omega) (by omega) a4.get⟩
        have d5 : LeB i σ σ12 := ⟨⟨fun q o hq ho => by have := Has.lt ⟨ho⟩; exact b7 q o hq (by omega) (by omega) (a5.keep.keep q o hq ho)⟩, by have := a5.len; omega⟩
        generalize partS (termS f) z1 = z at *
        clear p1 p2 p3 p7 b7 a3 a4 q1 q2 q3 q4 hr6 ht6 hj6 hi6
        repeat' (first
          | (refine wc_callSc rfl inferInstance rfl (c_must i [41] z.2 _) inferInstance (.inl rfl) rfl ?_; intro _ _ _ _)
          | refine thru_seq_next ?_
          | refine thru_block_next ?_
          | refine wl_nil ?_
          | refine wc_load1 rfl inferInstance (at_has (.inl rfl) rfl rfl) rfl ?_
          | fail)
        rename_i σ13 σ14 g14 u14
        have kf : ∀ (q : Nat) (o : Ob), q ≠ i → σ12[q]? = some o → σ14[q]? = some o := fun q o hq ho => by rw [u14.eq, List.getElem?_set_ne (Ne.symm hq)]; exact g14.keep q o ho
        have l5 := d5.len
        subst hop
        subst hn
        exact ⟨s2, ⟨instHasUpd (g := u14), ⟨kf _ _ (by omega) b2.get⟩, b3.mono (fun q o hq ho => kf q o (by omega) ho) (fun _ h => h), b4, b5, ⟨kf _ _ (by omega) d4.get⟩, inferInstance⟩, (by repeat' (first | exact sub_nil | refine sub_cons rfl ?_ | refine sub_int rfl (by first | rfl | omega | (push_cast; omega) | simp) ?_ | refine sub_eq rfl (by assumption) ?_))⟩
      | none =>
        cases e4 : r.node.take [40, 104, 105, 100, 101, 32] with
        | some r2 =>
          have k2 := hok1.take e4
          repeat' (first
            | (refine wc_callSc rfl inferInstance rfl (c_takeN i e1 _) inferInstance (.inl rfl) rfl ?_; intro _ _ _ _)
            | (refine wc_callSc rfl inferInstance rfl (c_takeN i e2 _) inferInstance (.inl rfl) rfl ?_; intro _ _ _ _)
            | (refine wc_callSc rfl inferInstance rfl (c_takeN i e3 _) inferInstance (.inl rfl) rfl ?_; intro _ _ _ _)
            | (refine wc_callSc rfl inferInstance rfl (c_takeY i e4 _) inferInstance (.inl rfl) rfl ?_; intro _ _ _ _)
            | (refine wc_callSc rfl inferInstance rfl (c_name i r2 (by have := k2.len; omega) _) inferInstance (.inl rfl) rfl ?_; intro _ _ _ _)
            | (refine wc_store1 rfl rfl inferInstance inferInstance inferInstance (Nat.le_of_ble_eq_true rfl) (.inr (may_newB i σ)) ?_; intro _ _)
            | refine wc_holdR 29 ?_
            | refine wp_seqA ?_
            | refine wp_region_seq ?_
            | refine thru_seq_next ?_
            | refine wp_blockA ?_
            | refine wl_nil ?_
            | refine wl_pop rfl (po_assign rfl) ?_
            | refine wl_pop rfl (po_fieldAddr rfl inferInstance) ?_
            | refine wc_load1 rfl inferInstance (at_has (.inl rfl) rfl rfl) rfl ?_
            | refine wp_condT rfl ?_
            | refine wp_condF rfl ?_
            | fail)
          rename_i σ1a σ1b g1a u1b σ2a σ2b g2a u2b σ3a σ3b g3a u3b σa σb ga ub σc σd gc ud σe ue σq uq
          have l0 : σ6.length ≤ σq.length := by have := g1a.len; have := g2a.len; have := g3a.len; have := ga.len; have := gc.len; have := Upd.len u1b; have := Upd.len u2b; have := Upd.len u3b; have := Upd.len ub; have := Upd.len ud; have := Upd.len ue; have := Upd.len uq; omega
          have q1' : Has σq i (ScO r2.name.2) := inferInstance
          have q2' : Has σq it ⟨.own, 1, [I 4, I r2.name.1, nilS], []⟩ := instHasUpd (g := uq)
          have q3 : Has σq j0 ⟨.own, 1, [.pt i 0], []⟩ := ⟨by rw [uq.eq, List.getElem?_set_ne (by omega), ue.eq, List.getElem?_set_ne (by omega), ud.eq, List.getElem?_set_ne (by omega)]; refine gc.keep _ _ ?_; rw [ub.eq, List.getElem?_set_ne (by omega)]; refine ga.keep _ _ ?_; rw [u3b.eq, List.getElem?_set_ne (by omega)]; refine g3a.keep _ _ ?_; rw [u2b.eq, List.getElem?_set_ne (by omega)]; refine g2a.keep _ _ ?_; rw [u1b.eq, List.getElem?_set_ne (by omega)]; exact g1a.keep _ _ hj6.get⟩
          have q4 : Has σq ir ⟨.own, 1, [I 0, I 0, nilS], []⟩ := ⟨by rw [uq.eq, List.getElem?_set_ne (by omega), ue.eq, List.getElem?_set_ne (by omega), ud.eq, List.getElem?_set_ne (by omega)]; refine gc.keep _ _ ?_; rw [ub.eq, List.getElem?_set_ne (by omega)]; refine ga.keep _ _ ?_; rw [u3b.eq, List.getElem?_set_ne (by omega)]; refine g3a.keep _ _ ?_; rw [u2b.eq, List.getElem?_set_ne (by omega)]; refine g2a.keep _ _ ?_; rw [u1b.eq, List.getElem?_set_ne (by omega)]; exact g1a.keep _ _ hr6.get⟩
          have q5 : LeB i σ σq := inferInstance
          have q6 : σ4.length ≤ σq.length := by omega
          have k3' : (r2.name.2).ok nb (L - 1) := k2.name
          have eB : bodyS (termS f) r.node = (.node 4 (r2.name.1) (partS (termS f) ([], r2.name.2)).1, (partS (termS f) ([], r2.name.2)).2.must [41]) := by unfold bodyS; simp only [e1, e2, e3, e4]
          rw [eB]
          obtain ⟨r3, hr3⟩ : ∃ r3, r2.name.2 = r3 := ⟨_, rfl⟩
          obtain ⟨n, hn⟩ : ∃ n : Int, r2.name.1 = n := ⟨_, rfl⟩
          obtain ⟨op, hop⟩ : ∃ op : Int, 4 = op := ⟨_, rfl⟩
          have q1 : Has σq i (ScO r3) := hr3 ▸ q1'
          have q2 : Has σq it ⟨.own, 1, [I op, I n, nilS], []⟩ := by rw [← hop, ← hn]; exact q2'
          have k3 : r3.ok nb (L - 1) := hr3 ▸ k3'
          rw [hr3, hn]
          clear q1' q2' u1b u2b u3b g1a g2a g3a ub ud ue uq ga gc l0
          refine hold_go ?_
          repeat' (first
            | (refine wc_callPart rfl inferInstance rfl (c_part hT hnb σ4 i it j0 r3 (L - 1) op n nilS [] _ .nil (fun _ => rfl) (by simp) (by omega) (by omega) (by omega) (by omega) (by omega) (by omega) (by omega) k3 hLf) q1 q2 .nil (.inl rfl) (.inr (by omega)) (fun q hq => .inr (by omega)) rfl ?_; intro _ _ _ _ _ _ _ _ _)
            | refine wp_region_seq ?_
            | refine thru_seq_next ?_
            | refine wl_nil ?_
            | refine wl_pop rfl (po_move rfl) ?_
            | fail)
          rename_i s1 σ11 p1 p2 p3 p4 p5 p6 p7
          have a3 : Has σ11 j0 ⟨.own, 1, [.pt i 0], []⟩ := ⟨p7 _ _ (by omega) (by omega) (by omega) q3.get⟩
          have a4 : Has σ11 ir ⟨.own, 1, [I 0, I 0, nilS], []⟩ := ⟨p7 _ _ (by omega) (by omega) (by omega) q4.get⟩
          have a5 : LeB i σ σ11 := ⟨⟨fun q o hq ho => by have := Has.lt ⟨ho⟩; exact p7 q o hq (by omega) (by omega) (q5.keep.keep q o hq ho)⟩, by have := q5.len; omega⟩
          have kz1 := Sc.ok.part hT' (x := ([], r3)) k3
          have hz1l := partS_len (rd := termS f) ([], r3)
          generalize partS (termS f) ([], r3) = z at *
          clear p7 q1 q2 q3 q4 hr6 ht6 hj6 hi6
          repeat' (first
            | (refine wc_callSc rfl inferInstance rfl (c_must i [41] z.2 _) inferInstance (.inl rfl) rfl ?_; intro _ _ _ _)
            | refine thru_seq_next ?_
            | refine thru_block_next ?_
            | refine wl_nil ?_
            | refine wc_load1 rfl inferInstance (at_has (.inl rfl) rfl rfl) rfl ?_
            | fail)
          rename_i σ13 σ14 g14 u14
          have kf : ∀ (q : Nat) (o : Ob), q ≠ i → σ11[q]? = some o → σ14[q]? = some o := fun q o hq ho => by rw [u14.eq, List.getElem?_set_ne (Ne.symm hq)]; exact g14.keep q o ho
          have l5 := a5.len
          subst hop
          exact ⟨s1, ⟨instHasUpd (g := u14), ⟨kf _ _ (by omega) p2.get⟩, p3.mono (fun q o hq ho => kf q o (by omega) ho) (fun _ h => h), p4, p5, ⟨kf _ _ (by omega) a4.get⟩, inferInstance⟩, (by repeat' (first | exact sub_nil | refine sub_cons rfl ?_ | refine sub_int rfl (by first | rfl | omega | (push_cast; omega) | simp) ?_ | refine sub_eq rfl (by assumption) ?_))⟩
        | none =>
          have eB : bodyS (termS f) r.node = leafS r.node := by unfold bodyS; simp only [e1, e2, e3, e4]
          rw [eB]
          repeat' (first
            | (refine wc_callSc rfl inferInstance rfl (c_takeN i e1 _) inferInstance (.inl rfl) rfl ?_; intro _ _ _ _)
            | (refine wc_callSc rfl inferInstance rfl (c_takeN i e2 _) inferInstance (.inl rfl) rfl ?_; intro _ _ _ _)
            | (refine wc_callSc rfl inferInstance rfl (c_takeN i e3 _) inferInstance (.inl rfl) rfl ?_; intro _ _ _ _)
            | (refine wc_callSc rfl inferInstance rfl (c_takeN i e4 _) inferInstance (.inl rfl) rfl ?_; intro _ _ _ _)
            | (refine wc_callSc rfl inferInstance rfl (c_word i r.node (by have := hok1.len; omega) _) inferInstance (.inl rfl) rfl ?_; intro _ _ _ _)
            | refine wc_holdR 6 ?_
            | refine wp_seqA ?_
            | refine wp_region_seq ?_
            | refine thru_seq_next ?_
            | refine wp_blockA ?_
            | refine wl_nil ?_
            | refine wl_pop rfl (po_assign rfl) ?_
            | refine wc_load1 rfl inferInstance (at_has (.inl rfl) rfl rfl) rfl ?_
            | refine wp_condF rfl ?_
            | fail)
          rename_i σ1a σ1b g1a u1b σ2a σ2b g2a u2b σ3a σ3b g3a u3b σ4a σ4b g4a u4b σa σb ga ub
          have kb : ∀ (q : Nat) (o : Ob), q ≠ i → σ6[q]? = some o → σb[q]? = some o := fun q o hq ho => by
            rw [ub.eq, List.getElem?_set_ne (Ne.symm hq)]; refine ga.keep _ _ ?_
            rw [u4b.eq, List.getElem?_set_ne (Ne.symm hq)]; refine g4a.keep _ _ ?_
            rw [u3b.eq, List.getElem?_set_ne (Ne.symm hq)]; refine g3a.keep _ _ ?_
            rw [u2b.eq, List.getElem?_set_ne (Ne.symm hq)]; refine g2a.keep _ _ ?_
            rw [u1b.eq, List.getElem?_set_ne (Ne.symm hq)]; exact g1a.keep _ _ ho
          have qi : Has σb i (ScO ⟨restL r.node.s, r.node.left, r.node.bad⟩) := instHasUpd (g := ub)
          have qt : Has σb it ⟨.own, 1, [I 0, I 0, nilS], []⟩ := ⟨kb _ _ (by omega) ht6.get⟩
          have qj : Has σb j0 ⟨.own, 1, [.pt i 0], []⟩ := ⟨kb _ _ (by omega) hj6.get⟩
          have qr : Has σb ir ⟨.own, 1, [I 0, I 0, nilS], []⟩ := ⟨kb _ _ (by omega) hr6.get⟩
          have ql : LeB i σ σb := inferInstance
          have eL : leafS r.node = ((leafL (wordL r.node.s)).getD (.node 0 0 []), ⟨restL r.node.s, r.node.left, r.node.bad || !(leafL (wordL r.node.s)).isSome⟩) := rfl
          rw [eL]
          clear ub u4b u3b u2b u1b hi6 hj6 hr6 ht6 kb
          generalize wordL r.node.s = w at *
          refine hold_go ?_
          repeat' (first
            | (refine wc_store1 rfl rfl inferInstance inferInstance inferInstance (Nat.le_of_ble_eq_true rfl) (.inl rfl) ?_; intro _ _)
            | refine wl_pop rfl (pc_lEq rfl rfl) ?_
            | refine wp_seqA ?_
            | refine wp_region_seq ?_
            | refine thru_seq_next ?_
            | refine thru_block_next ?_
            | refine wp_skipA ?_
            | refine wp_blockA ?_
            | refine wl_nil ?_
            | refine wl_pop rfl (po_move rfl) ?_
            | refine wl_pop rfl (po_assign rfl) ?_
            | refine wl_pop rfl (po_fieldAddr rfl inferInstance) ?_
            | refine wc_load1 rfl inferInstance (at_has (.inl rfl) rfl rfl) rfl ?_
            | refine wl_pop rfl (po_nilCheck rfl) ?_
            | refine wp_condP rfl (fun _ => ?_) (fun _ => ?_)
            | fail)
          · rename_i h1
            subst h1
            have eW : leafL [48] = some (.node 0 0 []) := by simp [leafL]
            rw [eW]
            simp only [Option.getD_some, Option.isSome_some, Bool.not_true, Bool.or_false]
            exact ⟨nilS, ⟨qi, qt, .nil, ⟨rfl⟩, fun _ => rfl, qr, ql⟩, (by repeat' (first | exact sub_nil | refine sub_cons rfl ?_ | refine sub_int rfl (by first | rfl | omega | (push_cast; omega) | simp) ?_ | refine sub_eq rfl (by assumption) ?_))⟩
          · rename_i h0 h1 _
            subst h1
            have eW : leafL [88, 48] = some (.node 5 0 []) := by simp [leafL]
            rw [eW]
            simp only [Option.getD_some, Option.isSome_some, Bool.not_true, Bool.or_false]
            refine wc_drawn [5, 6, 7] mixed_ rfl ?_
            refine da_pureW 0 rfl rfl (by kernel_rfl) (po_move rfl) ?_
            refine da_pureW 1 rfl rfl (by kernel_rfl) (pc_lAt rfl rfl inferInstance (by decide) (by decide)) ?_
            refine da_pureW 2 rfl rfl (by kernel_rfl) (po_binOp rfl rfl rfl) ?_
            refine da_pureW 3 rfl rfl (by kernel_rfl) (pc_convC rfl inferInstance inferInstance) ?_
            refine da_pureW 4 rfl rfl (by kernel_rfl) (po_fieldAddr rfl inferInstance) ?_
            refine da_last 5 rfl (by decide) (by kernel_rfl) ?_
            (refine wc_store1 rfl rfl inferInstance inferInstance inferInstance (Nat.le_of_ble_eq_true rfl) (.inr (may_newB i σ)) ?_; intro _ _)
            rename_i σc uc
            refine wl_nil (dl_in ?_)
            refine dl_last 6 rfl (by decide) (by kernel_rfl) ?_
            refine wl_pop rfl (po_fieldAddr rfl inferInstance) ?_
            refine wl_nil (dl_in ?_)
            refine dl_last 7 rfl (by decide) (by kernel_rfl) ?_
            (refine wc_store1 rfl rfl inferInstance inferInstance inferInstance (Nat.le_of_ble_eq_true rfl) (.inr (may_newB i σ)) ?_; intro _ _)
            rename_i σd ud
            refine wl_nil (dl_in ?_)
            refine dl_done (by kernel_rfl) ?_
            repeat' (first
              | refine thru_seq_next ?_
              | refine thru_block_next ?_
              | fail)
            have kd : ∀ (q : Nat) (o : Ob), q ≠ it → σb[q]? = some o → σd[q]? = some o := fun q o hq ho => by rw [ud.eq, List.getElem?_set_ne (Ne.symm hq), uc.eq, List.getElem?_set_ne (Ne.symm hq)]; exact ho
            have hd : Has σd it ⟨.own, 1, [I 5, I 0, nilS], []⟩ := instHasUpd (g := ud)
            exact ⟨nilS, ⟨⟨kd _ _ (by omega) qi.get⟩, hd, .nil, ⟨rfl⟩, fun _ => rfl, ⟨kd _ _ (by omega) qr.get⟩, inferInstance⟩, (by repeat' (first | exact sub_nil | refine sub_cons rfl ?_ | refine sub_int rfl (by first | rfl | omega | (push_cast; omega) | simp) ?_ | refine sub_eq rfl (by assumption) ?_))⟩
          · rename_i h1 h2 _ _
            exact absurd h1 h2
          · rename_i h0 h00 h1 _
            subst h1
            have eW : leafL [88, 49] = some (.node 5 1 []) := by simp [leafL]
            rw [eW]
            simp only [Option.getD_some, Option.isSome_some, Bool.not_true, Bool.or_false]
            refine wc_drawn [5, 6, 7] mixed_ rfl ?_
            refine da_pureW 0 rfl rfl (by kernel_rfl) (po_move rfl) ?_
            refine da_pureW 1 rfl rfl (by kernel_rfl) (pc_lAt rfl rfl inferInstance (by decide) (by decide)) ?_
            refine da_pureW 2 rfl rfl (by kernel_rfl) (po_binOp rfl rfl rfl) ?_
            refine da_pureW 3 rfl rfl (by kernel_rfl) (pc_convC rfl inferInstance inferInstance) ?_
            refine da_pureW 4 rfl rfl (by kernel_rfl) (po_fieldAddr rfl inferInstance) ?_
            refine da_last 5 rfl (by decide) (by kernel_rfl) ?_
            (refine wc_store1 rfl rfl inferInstance inferInstance inferInstance (Nat.le_of_ble_eq_true rfl) (.inr (may_newB i σ)) ?_; intro _ _)
            rename_i σc uc
            refine wl_nil (dl_in ?_)
            refine dl_last 6 rfl (by decide) (by kernel_rfl) ?_
            refine wl_pop rfl (po_fieldAddr rfl inferInstance) ?_
            refine wl_nil (dl_in ?_)
            refine dl_last 7 rfl (by decide) (by kernel_rfl) ?_
            (refine wc_store1 rfl rfl inferInstance inferInstance inferInstance (Nat.le_of_ble_eq_true rfl) (.inr (may_newB i σ)) ?_; intro _ _)
            rename_i σd ud
            refine wl_nil (dl_in ?_)
            refine dl_done (by kernel_rfl) ?_
            repeat' (first
              | refine thru_seq_next ?_
              | refine thru_block_next ?_
              | fail)
            have kd : ∀ (q : Nat) (o : Ob), q ≠ it → σb[q]? = some o → σd[q]? = some o := fun q o hq ho => by rw [ud.eq, List.getElem?_set_ne (Ne.symm hq), uc.eq, List.getElem?_set_ne (Ne.symm hq)]; exact ho
            have hd : Has σd it ⟨.own, 1, [I 5, I 1, nilS], []⟩ := instHasUpd (g := ud)
            exact ⟨nilS, ⟨⟨kd _ _ (by omega) qi.get⟩, hd, .nil, ⟨rfl⟩, fun _ => rfl, ⟨kd _ _ (by omega) qr.get⟩, inferInstance⟩, (by repeat' (first | exact sub_nil | refine sub_cons rfl ?_ | refine sub_int rfl (by first | rfl | omega | (push_cast; omega) | simp) ?_ | refine sub_eq rfl (by assumption) ?_))⟩
          · rename_i h1 h2 _ _
            exact absurd h1 h2
          · rename_i h0 h00 h01 h1
            subst h1
            have eW : leafL [88, 50] = some (.node 5 2 []) := by simp [leafL]
            rw [eW]
            simp only [Option.getD_some, Option.isSome_some, Bool.not_true, Bool.or_false]
            refine wc_drawn [5, 6, 7] mixed_ rfl ?_
            refine da_pureW 0 rfl rfl (by kernel_rfl) (po_move rfl) ?_
            refine da_pureW 1 rfl rfl (by kernel_rfl) (pc_lAt rfl rfl inferInstance (by decide) (by decide)) ?_
            refine da_pureW 2 rfl rfl (by kernel_rfl) (po_binOp rfl rfl rfl) ?_
            refine da_pureW 3 rfl rfl (by kernel_rfl) (pc_convC rfl inferInstance inferInstance) ?_
            refine da_pureW 4 rfl rfl (by kernel_rfl) (po_fieldAddr rfl inferInstance) ?_
            refine da_last 5 rfl (by decide) (by kernel_rfl) ?_
            (refine wc_store1 rfl rfl inferInstance inferInstance inferInstance (Nat.le_of_ble_eq_true rfl) (.inr (may_newB i σ)) ?_; intro _ _)
            rename_i σc uc
            refine wl_nil (dl_in ?_)
            refine dl_last 6 rfl (by decide) (by kernel_rfl) ?_
            refine wl_pop rfl (po_fieldAddr rfl inferInstance) ?_
            refine wl_nil (dl_in ?_)
            refine dl_last 7 rfl (by decide) (by kernel_rfl) ?_
            (refine wc_store1 rfl rfl inferInstance inferInstance inferInstance (Nat.le_of_ble_eq_true rfl) (.inr (may_newB i σ)) ?_; intro _ _)
            rename_i σd ud
            refine wl_nil (dl_in ?_)
            refine dl_done (by kernel_rfl) ?_
            repeat' (first
              | refine thru_seq_next ?_
              | refine thru_block_next ?_
              | fail)
            have kd : ∀ (q : Nat) (o : Ob), q ≠ it → σb[q]? = some o → σd[q]? = some o := fun q o hq ho => by rw [ud.eq, List.getElem?_set_ne (Ne.symm hq), uc.eq, List.getElem?_set_ne (Ne.symm hq)]; exact ho
            have hd : Has σd it ⟨.own, 1, [I 5, I 2, nilS], []⟩ := instHasUpd (g := ud)
            exact ⟨nilS, ⟨⟨kd _ _ (by omega) qi.get⟩, hd, .nil, ⟨rfl⟩, fun _ => rfl, ⟨kd _ _ (by omega) qr.get⟩, inferInstance⟩, (by repeat' (first | exact sub_nil | refine sub_cons rfl ?_ | refine sub_int rfl (by first | rfl | omega | (push_cast; omega) | simp) ?_ | refine sub_eq rfl (by assumption) ?_))⟩
          · rename_i h0 h1 h2 h3 σc uc
            have eW : leafL w = none := by simp [leafL, h0, h1, h2, h3]
            rw [eW]
            simp only [Option.getD_none, Option.isSome_none, Bool.not_false, Bool.or_true]
            have kd : ∀ (q : Nat) (o : Ob), q ≠ i → σb[q]? = some o → σc[q]? = some o := fun q o hq ho => by rw [uc.eq, List.getElem?_set_ne (Ne.symm hq)]; exact ho
            have hd : Has σc i (ScO ⟨restL r.node.s, r.node.left, true⟩) := instHasUpd (g := uc)
            exact ⟨nilS, ⟨hd, ⟨kd _ _ (by omega) qt.get⟩, .nil, ⟨rfl⟩, fun _ => rfl, ⟨kd _ _ (by omega) qr.get⟩, inferInstance⟩, (by repeat' (first | exact sub_nil | refine sub_cons rfl ?_ | refine sub_int rfl (by first | rfl | omega | (push_cast; omega) | simp) ?_ | refine sub_eq rfl (by assumption) ?_))⟩
theorem c_term {nb : Nat} (hnb : nb < 4294967281) : ∀ (f : Nat), f ≤ 100 → CTS base nb f := by
  intro f
  induction f with
  | zero =>
    intro _ i r L σ hi hbad hok hL
    have := hok.pos hbad
    have := hok.left
    omega
  | succ f ih =>
    intro hf i r L σ hi hbad hok hL
    exact c_term_of (ih (by omega)) hnb (by omega) i r L σ hbad hok hL
end
end Go.Proofs.YthbodgnoadlbcaaDoor.Asl
