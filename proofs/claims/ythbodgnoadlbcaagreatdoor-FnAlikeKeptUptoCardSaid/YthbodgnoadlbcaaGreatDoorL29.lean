/- Several texts in one. -/
import Derived.Test.YthbodgnoadlbcaaGreatDoorT32
import Derived.Test.YthbodgnoadlbcaaGreatDoorB9
import Derived.Test.YthbodgnoadlbcaaGreatDoorK13
/- What FnTermsAlike draws. -/
namespace Go.Proofs.YthbodgnoadlbcaaGreatDoor.Asl
open Go.RowKit
set_option linter.unusedVariables false
set_option linter.unusedSimpArgs false
attribute [local irreducible] WP WL andThen inBlock noGoto atEnd ACall DA DL PO Hold
set_option maxHeartbeats 4000000
set_option synthInstance.maxHeartbeats 400000
set_option synthInstance.maxSize 10000
section
variable {E : Env} {ops : Array Oper} {l : List Oper} {Q : Exit → Slots → Store → Prop} {S : Slots} {σ : Store} {d : Option Tmp} {ty : TypeId} {pos : String} {af : Array Edge} {x y : Operand}
theorem wc_callPr {args : Array Operand} {ats : Array TypeId} {f : FuncId} {rs caps : List AV} {i : Nat} {s : AV} {p K : Int} (hf : S.ev x = some (.fn f caps)) (hc : Callable E.P f) (hargs : evs S args.toList = some rs)
    (h : ACall E.P E.base f (rs ++ caps) σ (fun j => j = i) (RetRd σ i s p K (QPair σ))) (ho : Has σ i (RdO s p)) (hm : E.may i) (hd : okd E d = true) (k : ∀ (t t' : Tm) (u u' v : AV) (xs : List Tm) (p' : Int) σ₁ σ', One u → One u' → One v → RTsN σ σ' u t.ps → RTsN σ σ' u' t'.ps → RTsN σ σ' v xs → xs.length ≤ 3 → p ≤ p' → p' ≤ p + K → Grow σ σ₁ → Upd σ₁ i (RdO s p') σ' → WL E ops l Q (S.put d (.tup [.agg [I t.op, I t.n, u], .agg [I t'.op, I t'.n, u'], v])) σ') :
    WL E ops (⟨d, .call ⟨.value x, args, ats⟩, ty, pos, af, none⟩ :: l) Q S σ :=
  wc_callRd hf hc hargs h ho hm hd fun r p' σ₁ σ' h1 h2 g u hq => by
    obtain ⟨t, t', v, v', w, xs, rfl, h3, h4, h5, h6⟩ := hq
    exact k t t' v v' w xs p' σ₁ σ' h3.rts.one h4.rts.one h5.rts.one h3 h4 h5 h6 h1 h2 g u
def RetTT (σ : Store) : AV → Store → Prop := fun r σ' => ∃ (t t' : Tm) (u u' v : AV) (xs : List Tm), r = .tup [.agg [I t.op, I t.n, u], .agg [I t'.op, I t'.n, u'], v] ∧ RTs σ' u t.ps ∧ RTs σ' u' t'.ps ∧ RTs σ' v xs ∧ xs.length ≤ 3 ∧ Grow σ σ'
theorem wc_callTT {args : Array Operand} {ats : Array TypeId} {f : FuncId} {rs caps : List AV} (hf : S.ev x = some (.fn f caps)) (hc : Callable E.P f) (hargs : evs S args.toList = some rs)
    (h : ACall E.P E.base f (rs ++ caps) σ (fun _ => False) (RetTT σ)) (hd : okd E d = true) (k : ∀ (t t' : Tm) (u u' v : AV) (xs : List Tm) σ', One u → One u' → One v → RTs σ' u t.ps → RTs σ' u' t'.ps → RTs σ' v xs → xs.length ≤ 3 → Grow σ σ' → WL E ops l Q (S.put d (.tup [.agg [I t.op, I t.n, u], .agg [I t'.op, I t'.n, u'], v])) σ') :
    WL E ops (⟨d, .call ⟨.value x, args, ats⟩, ty, pos, af, none⟩ :: l) Q S σ :=
  wc_call hf hc hargs h hd fun r' σ' h => by obtain ⟨t, t', u, u', v, xs, e, h1, h2, h3, h4, h5⟩ := h; subst e; exact k t t' u u' v xs σ' h1.one h2.one h3.one h1 h2 h3 h4 h5
end
section
variable {base : Nat}
theorem c_DrawTermsAlike (b : AV) (gb : List UInt8) (σ : Store) [hs : RW σ b gb] (hg : gb.length ≤ 1048576) : ACall Tryz.prog base F_spec_DrawTermsAlike [b] σ (fun _ => False) (RetTT σ) := by
  have := hs.one
  refine acall1 fun_spec_DrawTermsAlike rfl tmps_spec_DrawTermsAlike rfl fun N B w₀ ρ₀ => ?_
  repeat' (first
    | (refine wc_callOpen rfl inI rfl (c_l6Open b gb _ hg) rfl ?_; intro _ _ _ _ _ _ _ _)
    | refine wc_holdR 2 ?_
    | refine wp_seqA ?_
    | refine wp_region_seq ?_
    | refine thru_seq_next ?_
    | refine wl_nil ?_
    | refine wl_pop rfl (po_move rfl) ?_
    | refine wl_pop rfl (po_assign rfl) ?_
    | (refine wc_allocA (cs := [_, _, _]) inI rfl inI rfl ?_; intro _ _ _ _ _)
    | fail)
  rename_i i1 σ1 g1 n1 h1 i2 σ2 g2 n2 h2 i s g σ3 g3 n3 h3 b3
  have z1 := n1.le
  have z2 := h1.lt
  have z3 := n2.le
  have z4 := h2.lt
  have z5 := n3.le
  have z6 := h3.lt
  have z7 := g1.len
  have z8 := g2.len
  have z9 := g3.len
  have hni : σ.length ≤ i := by omega
  have h13 : Has σ3 i1 ⟨.own, 1, [I 0, I 0, nilS], []⟩ := inI
  have h23 : Has σ3 i2 ⟨.own, 1, [I 0, I 0, nilS], []⟩ := inI
  have l3 : LeS σ σ3 := inI
  refine hold_go ?_
  repeat' (first
    | (refine wc_callPr rfl inI rfl (c_l91Pair i s g _ _ (by omega) (by omega)) inI (.inr hni) rfl ?_; intro _ _ _ _ _ _ _ _ _ _ _ _ _ _ _ _ _ _ _ _)
    | (refine wc_storeA rfl rfl inI inI rfl inI (Nat.le_of_ble_eq_true rfl) (.inr (may_newB i σ)) ?_; intro _ _)
    | refine wc_holdR 3 ?_
    | refine wp_seqA ?_
    | refine wp_region_seq ?_
    | refine thru_seq_next ?_
    | refine wl_nil ?_
    | refine wl_pop rfl (po_move rfl) ?_
    | refine wl_pop rfl (po_assign rfl) ?_
    | refine wl_pop rfl (po_extract rfl rfl) ?_
    | (refine wc_allocA (cs := [_, _, _]) inI rfl inI rfl ?_; intro _ _ _ _ _)
    | fail)
  rename_i t t' u u' v xs p4 σ4 σ5 ou ou' ov ru ru' rv hx a1 a2 g5 u5 j σ6 g6 n6 h6 j2 σ7 g7 n7 h7 σ8 u8 σ9 u9
  have y1 := (inI : LeB i σ3 σ5).len
  have y2 := n6.le
  have y3 := h6.lt
  have y4 := n7.le
  have y5 := h7.lt
  have y6 := Upd.len u8
  have y7 := Upd.len u9
  have y8 := g6.len
  have y9 := g7.len
  have k59 : ∀ (x : Nat) (o : Ob), x < σ5.length → σ5[x]? = some o → σ9[x]? = some o := fun x o hx ho => by rw [u9.eq, List.getElem?_set_ne (by omega), u8.eq, List.getElem?_set_ne (by omega)]; exact g7.keep x o (g6.keep x o ho)
  have k39 : ∀ (x : Nat) (o : Ob), x ≠ i → σ3[x]? = some o → σ9[x]? = some o := fun x o hx ho => k59 x o (by have := Has.lt ⟨ho⟩; omega) ((inI : LeB i σ3 σ5).keep.keep x o hx ho)
  have c1 : Has σ9 j ⟨.own, 1, [I t.op, I t.n, u], []⟩ := ⟨by rw [u9.eq, List.getElem?_set_ne (by omega)]; exact (instHasUpd (g := u8) : Has σ8 j ⟨.own, 1, [I t.op, I t.n, u], []⟩).get⟩
  have c2 : Has σ9 j2 ⟨.own, 1, [I t'.op, I t'.n, u'], []⟩ := instHasUpd (g := u9)
  have c3 : Has σ9 i1 ⟨.own, 1, [I 0, I 0, nilS], []⟩ := ⟨k39 _ _ (by omega) h13.get⟩
  have c4 : Has σ9 i2 ⟨.own, 1, [I 0, I 0, nilS], []⟩ := ⟨k39 _ _ (by omega) h23.get⟩
  have c5 := c1.lt
  have c6 := c2.lt
  have R1 : RepTs σ5 (fun x => σ3.length ≤ x) u t.ps := ru.rep
  have R2 : RepTs σ5 (fun x => σ3.length ≤ x) u' t'.ps := ru'.rep
  have R3 : RepTs σ5 (fun x => σ3.length ≤ x) v xs := rv.rep
  clear u5 u8 u9 h6 h7 ru ru' rv h1 h2
  refine hold_go ?_
  refine wc_drawnXp (t := 2) i1 [4, 5] mixed_ rfl rfl ?_
  refine dx_loadnB 0 rfl rfl (by kernel_rfl) rfl inI (at_has (h := c1) (cs := [_, _, _]) (.inl rfl) rfl rfl) c5 c3 (by omega) ?_
  refine dx_loadnB 1 rfl rfl (by kernel_rfl) rfl inI (at_has (h := c2) (cs := [_, _, _]) (.inl rfl) rfl rfl) c6 c3 (by omega) ?_
  refine dx_pure 2 rfl rfl (by kernel_rfl) (po_move rfl) ?_
  refine dx_one 3 rfl (by kernel_rfl) c3 (.inr (by omega)) ?_
  intro N' B' w' r' may' hmay
  refine wc_storeA rfl rfl inI c3 rfl inI (Nat.le_of_ble_eq_true rfl) (hmay _ (.inl rfl)) ?_
  intro σa ua'
  have d12 : Has σa i2 ⟨.own, 1, [I 0, I 0, nilS], []⟩ := ⟨by rw [ua'.eq, List.getElem?_set_ne (by omega)]; exact c4.get⟩
  refine wl_nil ⟨rfl, by have := Upd.len ua'; omega, ?_⟩
  refine dx_last 4 rfl (by decide) (by kernel_rfl) ?_
  refine wc_storeA rfl rfl inI d12 rfl inI (Nat.le_of_ble_eq_true rfl) (.inr (by show σ.length ≤ i2; omega)) ?_
  intro σb ub'
  refine wl_nil (dl_in ?_)
  refine dl_last 5 rfl (by decide) (by kernel_rfl) ?_
  refine wl_pop rfl (po_assign rfl) ?_
  refine wl_nil (dl_in ?_)
  refine dl_done (by kernel_rfl) ?_
  have e1 : Has σb i1 ⟨.own, 1, [I t.op, I t.n, u], []⟩ := ⟨by rw [ub'.eq, List.getElem?_set_ne (by omega)]; exact (instHasUpd (g := ua') : Has σa i1 ⟨.own, 1, [I t.op, I t.n, u], []⟩).get⟩
  have e2 : Has σb i2 ⟨.own, 1, [I t'.op, I t'.n, u'], []⟩ := instHasUpd (g := ub')
  have kk : ∀ (x : Nat) (o : Ob), x ≠ i1 → x ≠ i2 → σ9[x]? = some o → σb[x]? = some o := fun x o h1 h2 ho => by rw [ub'.eq, List.getElem?_set_ne (by omega), ua'.eq, List.getElem?_set_ne (by omega)]; exact ho
  have kr : ∀ (x : Nat) (o : Ob), σ3.length ≤ x → σ5[x]? = some o → σb[x]? = some o := fun x o hx ho => kk x o (by omega) (by omega) (k59 x o (Has.lt ⟨ho⟩) ho)
  repeat' (first
    | refine at_ret (res_cct rfl rfl inI (at_has (h := e1) (cs := [_, _, _]) (.inl rfl) rfl rfl) rfl inI (at_has (h := e2) (cs := [_, _, _]) (.inl rfl) rfl rfl) rfl) ?_
    | refine thru_seq_next ?_
    | refine wp_retA ?_
    | fail)
  refine ⟨t, t', u, u', v, xs, rfl, (R1.mono kr (fun _ h => h)).rts, (R2.mono kr (fun _ h => h)).rts, (R3.mono kr (fun _ h => h)).rts, hx, ⟨fun x o ho => ?_⟩⟩
  have hx1 : x < σ.length := Has.lt ⟨ho⟩
  exact kk x o (by omega) (by omega) (k39 x o (by omega) (l3.keep x o ho))
end
end Go.Proofs.YthbodgnoadlbcaaGreatDoor.Asl

/- Several texts in one. -/
/- Regions that draw, by an invariant: whatever the order, each operation leaves its own fact, and none breaks another's. -/
namespace Go.Proofs.YthbodgnoadlbcaaGreatDoor.Asl
open Go.RowKit Go.Proofs.YthbodgnoadlbcaaGreatDoorW.PrintLast
set_option linter.unusedVariables false
set_option linter.unusedSimpArgs false
def dchk (ops : Array Oper) (D : List (List Nat)) : Bool := (List.range ops.size).all fun i =>
  (((ops[i]?).map fun o => (o.after.all fun e => decide (e.on < i)) && (D.getD i []).all fun n => o.after.any fun e => Region.binds .any e && e.on == n)).getD false
theorem dchk_at {ops : Array Oper} {D : List (List Nat)} (h : dchk ops D = true) {i : Nat} (hi : i < ops.size) : ∃ o, ops[i]? = some o ∧ (∀ e ∈ o.after, e.on < i) ∧ ∀ n ∈ D.getD i [], ∃ e ∈ o.after, Region.binds .any e = true ∧ e.on = n := by
  have h1 := List.all_eq_true.mp h i (List.mem_range.mpr hi)
  obtain ⟨o, ho⟩ : ∃ o, ops[i]? = some o := ⟨ops[i], by simp [hi]⟩
  simp only [ho, Option.map_some, Option.getD_some, Bool.and_eq_true, Array.all_eq_true', decide_eq_true_eq, List.all_eq_true, Array.any_eq_true', beq_iff_eq] at h1
  refine ⟨o, ho, h1.1, fun n hn => ?_⟩
  obtain ⟨e, he, h2, h3⟩ := h1.2 n hn
  exact ⟨e, he, h2, h3⟩
theorem ready_mem {ops : Array Oper} {listed : Array Bool} {i : Nat} (hi : i ∈ Region.ready .any ops listed) : i < ops.size ∧ listed.getD i true = false ∧ ∀ o, ops[i]? = some o → ∀ e ∈ o.after, Region.binds .any e = true → listed.getD e.on false = true := by
  unfold Region.ready at hi
  obtain ⟨h1, h2⟩ := List.mem_filter.mp hi
  have h1 := List.mem_range.mp h1
  obtain ⟨o, ho⟩ : ∃ o, ops[i]? = some o := ⟨ops[i], by simp [h1]⟩
  simp only [ho, Option.map_some, Option.getD_some, Bool.and_eq_true, Bool.not_eq_true', Array.all_eq_true', Bool.or_eq_true] at h2
  refine ⟨h1, h2.1, fun o' ho' e he hb => ?_⟩
  rw [ho] at ho'
  cases ho'
  rcases h2.2 e he with h | h
  · rw [hb] at h; cases h
  · exact h
theorem ready_of {ops : Array Oper} {listed : Array Bool} {i : Nat} {o : Oper} (hi : i < ops.size) (hl : listed.getD i true = false) (ho : ops[i]? = some o) (h : ∀ e ∈ o.after, listed.getD e.on false = true) : i ∈ Region.ready .any ops listed := by
  unfold Region.ready
  refine List.mem_filter.mpr ⟨List.mem_range.mpr hi, ?_⟩
  simp only [ho, Option.map_some, Option.getD_some, Bool.and_eq_true, Bool.not_eq_true', Array.all_eq_true', Bool.or_eq_true]
  exact ⟨hl, fun e he => .inr (h e he)⟩
theorem all_listed {ops : Array Oper} {D : List (List Nat)} (h : dchk ops D = true) {listed : Array Bool} (hs : listed.size = ops.size) (hr : Region.ready .any ops listed = []) : ∀ i, i < ops.size → listed.getD i true = true := by
  intro i
  induction i using Nat.strongRecOn with
  | ind i ih =>
    intro hi
    cases e : listed.getD i true with
    | true => rfl
    | false =>
      obtain ⟨o, ho, h1, _⟩ := dchk_at h hi
      have : i ∈ Region.ready .any ops listed := ready_of hi e ho fun e' he => by
        have h2 := h1 e' he
        have h3 := ih e'.on h2 (by omega)
        have h4 : e'.on < listed.size := by omega
        simpa [Array.getD_eq_getD_getElem?, h4] using h3
      rw [hr] at this
      cases this
section
variable {E : Env} {ops : Array Oper} {ds : List Nat} {n0 : Nat} {Q : Exit → Slots → Store → Prop}
theorem da_inv {D : List (List Nat)} (hD : dchk ops D = true) (I : Slots → Store → Prop) (J : Nat → Slots → Store → Prop)
    (step : ∀ i S σ, i < ops.size → n0 ≤ σ.length → I S σ → (∀ n ∈ D.getD i [], J n S σ) → ∃ o, ops[i]? = some o ∧ ∀ N B w₀ ρ₀ (Q' : Exit → Slots → Store → Prop), (∀ S' σ', σ.length ≤ σ'.length → I S' σ' → J i S' σ' → (∀ k, k < ops.size → k ≠ i → J k S σ → J k S' σ') → Q' .normal S' σ') → WL ⟨E.P, E.base, E.n, fun id => False ∨ n0 ≤ id, N, B, w₀, ρ₀, σ.length⟩ ops [o] Q' S σ)
    (hlast : ∀ S σ, I S σ → (∀ i < ops.size, J i S σ) → Q .normal S σ) :
    ∀ (fuel : Nat) (listed : Array Bool) (S : Slots) (σ : Store), listed.size = ops.size → listed.toList.countP (fun b => !b) ≤ fuel → n0 ≤ σ.length → I S σ → (∀ i < ops.size, listed.getD i true = true → J i S σ) → DA E ops ds fuel listed Q n0 S σ := by
  intro fuel
  induction fuel with
  | zero =>
    intro listed S σ hs hc hn hI hJ
    have all : ∀ i < ops.size, listed.getD i true = true := by
      intro i hi
      have h0 : listed.toList.countP (fun b => !b) = 0 := by omega
      have h1 := List.countP_eq_zero.mp h0 (listed[i]'(by omega)) (by simp)
      have hi' : i < listed.size := by omega
      simpa [Array.getD_eq_getD_getElem?, hi'] using h1
    refine da_done ?_ (hlast S σ hI fun i hi => hJ i hi (all i hi))
    refine List.eq_nil_iff_forall_not_mem.mpr fun i hi => ?_
    obtain ⟨h1, h2, _⟩ := ready_mem hi
    rw [all i h1] at h2
    cases h2
  | succ fuel ih =>
    intro listed S σ hs hc hn hI hJ
    by_cases hr : Region.ready .any ops listed = []
    · exact da_done hr (hlast S σ hI fun i hi => hJ i hi (all_listed hD hs hr i hi))
    · refine da_some _ rfl hr fun i hi => ?_
      obtain ⟨h1, h2, h3⟩ := ready_mem hi
      obtain ⟨o', ho', h4, h5⟩ := dchk_at hD h1
      obtain ⟨o, ho, h⟩ := step i S σ h1 hn hI fun n hn => by
        obtain ⟨e, he, hb, rfl⟩ := h5 n hn
        have h6 := h3 o' ho' e he hb
        have h7 := h4 e he
        have h8 : e.on < listed.size := by omega
        exact hJ _ (by omega) (by simpa [Array.getD_eq_getD_getElem?, h8] using h6)
      refine ⟨o, ho, fun N B w₀ ρ₀ => h N B w₀ ρ₀ _ fun S' σ' hl hI' hJi hk => ⟨rfl, hl, ih _ S' σ' (by simpa using hs) ?_ (by omega) hI' fun k hk1 hk2 => ?_⟩⟩
      · have hi' : i < listed.toList.length := by simp; omega
        have h9 : listed.toList[i] = false := by
          have hi2 : i < listed.size := by omega
          simpa [Array.getD_eq_getD_getElem?, hi2] using h2
        have h10 : 0 < listed.toList.countP (fun b => !b) := List.countP_pos_iff.mpr ⟨_, List.getElem_mem hi', by rw [h9]; rfl⟩
        rw [Array.toList_setIfInBounds, List.countP_set hi', h9]
        simp only [Bool.not_false, Bool.not_true, if_true, Bool.false_eq_true, if_false]
        omega
      · by_cases e : k = i
        · subst e; exact hJi
        · refine hk k hk1 e (hJ k hk1 ?_)
          have hk3 : k < listed.size := by omega
          simpa [Array.getD_eq_getD_getElem?, hk3, Array.getElem?_setIfInBounds, Ne.symm e] using hk2
theorem wc_drawnI {id n : Nat} {S : Slots} {σ : Store} {D : List (List Nat)} (hm : E.P.follows .mixedOrders = true) (hn : ops.size = n) (hD : dchk ops D = true) (I : Slots → Store → Prop) (J : Nat → Slots → Store → Prop) (hI : I S σ)
    (step : ∀ i S' σ', i < n → σ.length ≤ σ'.length → I S' σ' → (∀ n ∈ D.getD i [], J n S' σ') → ∃ o, ops[i]? = some o ∧ ∀ N B w₀ ρ₀ (Q' : Exit → Slots → Store → Prop), (∀ S'' σ'', σ'.length ≤ σ''.length → I S'' σ'' → J i S'' σ'' → (∀ k, k < n → k ≠ i → J k S' σ' → J k S'' σ'') → Q' .normal S'' σ'') → WL ⟨E.P, E.base, E.n, fun id => False ∨ σ.length ≤ id, N, B, w₀, ρ₀, σ'.length⟩ ops [o] Q' S' σ')
    (hlast : ∀ S' σ', I S' σ' → (∀ i < n, J i S' σ') → Q .normal S' σ') : WP E (.region id ops true) Q S σ := by
  subst hn
  refine wc_drawn [] hm rfl (da_inv hD I J step hlast _ _ S σ (by simp) ?_ (Nat.le_refl _) hI fun i hi h => ?_)
  · have := List.countP_le_length (p := fun b => !b) (l := (Array.replicate ops.size false).toList)
    simpa using this
  · simp [Array.getD_eq_getD_getElem?, hi] at h
end
end Go.Proofs.YthbodgnoadlbcaaGreatDoor.Asl

/- The drawn law FnAlikeKept. -/
namespace Go.Proofs.YthbodgnoadlbcaaGreatDoor.Asl
open Go.RowKit Go.Proofs.YthbodgnoadlbcaaGreatDoorW.PrintLast
set_option linter.unusedVariables false
set_option linter.unusedSimpArgs false
theorem andThen_in {K : Slots → Store → Prop} {Q : Exit → Slots → Store → Prop} {S : Slots} {σ : Store} (h : K S σ) : andThen K Q .normal S σ := h
attribute [local irreducible] WP WL andThen inBlock noGoto atEnd ACall DA DL PO Hold nodeOk Tm.shape Tm.ok graphO alkO
set_option maxHeartbeats 4000000
set_option synthInstance.maxHeartbeats 400000
set_option synthInstance.maxSize 10000
set_option maxRecDepth 4000
def kept (t u : Tm) : List (Tm ⊕ List Tm) := [.inl t, .inr [t], .inl (.node 1 1 [t]), .inl u, .inr [u], .inl (.node 1 1 [u]), .inr [(.node 1 1 [t]), (.node 1 1 [u])], .inl t, .inr [t], .inl (.node 4 0 [t]), .inl u, .inr [u], .inl (.node 4 0 [u]), .inr [(.node 4 0 [t]), (.node 4 0 [u])], .inl t, .inl t, .inr [t, t], .inl (.node 2 0 [t, t]), .inl u, .inl t, .inr [u, t], .inl (.node 2 0 [u, t]), .inr [(.node 2 0 [t, t]), (.node 2 0 [u, t])], .inl t, .inl t, .inr [t, t], .inl (.node 3 0 [t, t]), .inl u, .inl t, .inr [u, t], .inl (.node 3 0 [u, t]), .inr [(.node 3 0 [t, t]), (.node 3 0 [u, t])]]
def keptD : List (List Nat) := [[], [0], [1], [], [3], [4], [2, 5], [], [7], [8], [], [10], [11], [9, 12], [], [], [14, 15], [16], [], [], [18, 19], [20], [17, 21], [], [], [23, 24], [25], [], [], [27, 28], [29], [26, 30], [6, 13, 22, 31], [32]]
def keptS (k : Nat) : Nat := if k < 33 then 47 + k else 10
theorem dst_inj {k j : Nat} (hk : k < 34) (hj : j < 34) (e : keptS k = keptS j) : k = j := by
  unfold keptS at e
  split at e <;> split at e <;> omega
def R4 (t u : Tm) (σ : Store) (v : AV) : Prop := ∃ (id : Nat) (w0 w1 w2 w3 : AV), v = .sl id 0 4 ∧ Has σ id ⟨.own, 1, [w0, w1, w2, w3], []⟩ ∧ RTs σ w0 [.node 1 1 [t], .node 1 1 [u]] ∧ RTs σ w1 [.node 4 0 [t], .node 4 0 [u]] ∧ RTs σ w2 [.node 2 0 [t, t], .node 2 0 [u, t]] ∧ RTs σ w3 [.node 3 0 [t, t], .node 3 0 [u, t]]
def RK (t u : Tm) (k : Nat) (σ : Store) (v : AV) : Prop :=
  match (kept t u)[k]? with
  | some (.inl T) => ∃ s, v = .agg [I T.op, I T.n, s] ∧ RTs σ s T.ps
  | some (.inr L) => RTs σ v L
  | none => R4 t u σ v
def JK (t u : Tm) (k : Nat) (S : Slots) (σ : Store) : Prop := ∃ v, S.get (keptS k) = some v ∧ RK t u k σ v
theorem RTs.grows {σ σ' : Store} {s : AV} {ps : List Tm} (h : RTs σ s ps) (g : Grow σ σ') : RTs σ' s ps := instRTsGrow (g := g) (h := h)
theorem Has.les {σ σ' : Store} {i : Nat} {o : Ob} (h : Has σ i o) (g : LeS σ σ') : Has σ' i o := ⟨g.keep _ _ h.get⟩
theorem RK.grows {t u : Tm} {k : Nat} {σ σ' : Store} {v : AV} (h : RK t u k σ v) (g : Grow σ σ') : RK t u k σ' v := by
  unfold RK at h ⊢
  split at h
  · obtain ⟨s, e, r⟩ := h; exact ⟨s, e, r.grows g⟩
  · exact h.grows g
  · obtain ⟨id, w0, w1, w2, w3, e, hh, a, b, c, d⟩ := h
    exact ⟨id, w0, w1, w2, w3, e, ⟨g.keep _ _ hh.get⟩, a.grows g, b.grows g, c.grows g, d.grows g⟩
theorem get_put_eq {S : Slots} {d : Nat} {v : AV} : Slots.get (S.put (some d) v) d = some v := by simp [Slots.get, Slots.put]
theorem get_put_ne {S : Slots} {d k : Nat} {v : AV} (h : k ≠ d) : Slots.get (S.put (some d) v) k = S.get k := by
  have : (k == d) = false := by simpa using h
  simp [Slots.get, Slots.put, List.lookup, this]
theorem keepJ {t u : Tm} {k d : Nat} {S : Slots} {σ σ' : Store} {r : AV} (h : JK t u k S σ) (g : Grow σ σ') (hne : keptS k ≠ d) : JK t u k (S.put (some d) r) σ' := by
  obtain ⟨v, h1, h2⟩ := h
  exact ⟨v, by rw [get_put_ne hne]; exact h1, h2.grows g⟩
theorem jT {t u T : Tm} {k d : Nat} {S : Slots} {σ : Store} (h : JK t u k S σ) (e : (kept t u)[k]? = some (.inl T)) (hd : keptS k = d) : ∃ s, S.get d = some (.agg [I T.op, I T.n, s]) ∧ RTs σ s T.ps := by
  obtain ⟨v, h1, h2⟩ := h
  unfold RK at h2
  rw [e] at h2
  obtain ⟨s, rfl, r⟩ := h2
  exact ⟨s, by rw [← hd]; exact h1, r⟩
theorem jL {t u : Tm} {L : List Tm} {k d : Nat} {S : Slots} {σ : Store} (h : JK t u k S σ) (e : (kept t u)[k]? = some (.inr L)) (hd : keptS k = d) : ∃ s, S.get d = some s ∧ RTs σ s L := by
  obtain ⟨v, h1, h2⟩ := h
  unfold RK at h2
  rw [e] at h2
  exact ⟨v, by rw [← hd]; exact h1, h2⟩
theorem jF {t u : Tm} {k d : Nat} {S : Slots} {σ : Store} (h : JK t u k S σ) (e : (kept t u)[k]? = none) (hd : keptS k = d) : ∃ s, S.get d = some s ∧ R4 t u σ s := by
  obtain ⟨v, h1, h2⟩ := h
  unfold RK at h2
  rw [e] at h2
  exact ⟨v, by rw [← hd]; exact h1, h2⟩
structure IK (i2 i3 : Nat) (v : AV) (σ0 : Store) (S : Slots) (σ : Store) : Prop where
  e3 : S.get 3 = some (.pt i2 0)
  e4 : S.get 4 = some (.pt i3 0)
  e5 : S.get 5 = some v
  le : LeS σ0 σ
theorem IK.step {i2 i3 : Nat} {v : AV} {σ0 σ σ' : Store} {S : Slots} {d : Nat} {r : AV} (h : IK i2 i3 v σ0 S σ) (g : Grow σ σ') (h3 : 3 ≠ d) (h4 : 4 ≠ d) (h5 : 5 ≠ d) : IK i2 i3 v σ0 (S.put (some d) r) σ' :=
  ⟨by rw [get_put_ne h3]; exact h.e3, by rw [get_put_ne h4]; exact h.e4, by rw [get_put_ne h5]; exact h.e5, ⟨fun i o ho => g.keep i o (h.le.keep i o ho)⟩⟩
theorem put_fin {i2 i3 i : Nat} {v r : AV} {t u : Tm} {σ0 σ σ' : Store} {S : Slots} {Q' : Exit → Slots → Store → Prop}
    (hQ : ∀ S'' σ'', σ.length ≤ σ''.length → IK i2 i3 v σ0 S'' σ'' → JK t u i S'' σ'' → (∀ k, k < 34 → k ≠ i → JK t u k S σ → JK t u k S'' σ'') → Q' .normal S'' σ'') (hI : IK i2 i3 v σ0 S σ) (hi : i < 34) (g : Grow σ σ') (hr : RK t u i σ' r) : Q' .normal (S.put (some (keptS i)) r) σ' := by
  have hd : keptS i ≠ 3 ∧ keptS i ≠ 4 ∧ keptS i ≠ 5 := by unfold keptS; split <;> omega
  exact hQ _ _ g.len (hI.step g (Ne.symm hd.1) (Ne.symm hd.2.1) (Ne.symm hd.2.2)) ⟨_, get_put_eq, hr⟩ (fun k hk hne h => keepJ h g (fun e => hne (dst_inj hk hi e)))
theorem grow0 {σ : Store} : Grow σ σ := ⟨fun _ _ h => h⟩
theorem rk_tm {t u T : Tm} {k : Nat} {σ : Store} {s : AV} (e : (kept t u)[k]? = some (.inl T)) (r : RTs σ s T.ps) : RK t u k σ (.agg [I T.op, I T.n, s]) := by unfold RK; rw [e]; exact ⟨s, rfl, r⟩
theorem rk_ls {t u : Tm} {L : List Tm} {k : Nat} {σ : Store} {s : AV} (e : (kept t u)[k]? = some (.inr L)) (r : RepTs σ (fun _ => True) s L) : RK t u k σ s := by unfold RK; rw [e]; exact ⟨r⟩
theorem rk_4 {t u : Tm} {k : Nat} {σ : Store} {s : AV} (e : (kept t u)[k]? = none) (r : R4 t u σ s) : RK t u k σ s := by unfold RK; rw [e]; exact r
section
variable {E : Env} {ops : Array Oper} {l : List Oper} {Q : Exit → Slots → Store → Prop} {S : Slots} {σ : Store} {d : Option Tmp} {ty : TypeId} {pos : String} {af : Array Edge} {x0 x1 x2 x3 : Operand}
theorem wc_fourW {t e : TypeId} {bytes : Nat} {z : Value} {a b c w : AV} (h0 : S.ev x0 = some a) (h1 : S.ev x1 = some b) (h2 : S.ev x2 = some c) (h3 : S.ev x3 = some w) [i0 : One a] [i1 : One b] [i2 : One c] [i3 : One w] (ht : Un E.P t (.slice e)) (he : Ty E.P e false 1 bytes z) (hz : z.cells.size = 1) (hz1 : ∀ v ∈ z.cells.toList, v.oneCell' = true) (hd : okd E d = true)
    (k : ∀ i σ', Grow σ σ' → New σ i → Has σ' i ⟨.own, 1, [a, b, c, w], []⟩ → WL E ops l Q (S.put d (.sl i 0 4)) σ') : WL E ops (⟨d, .buildSlice t 4 #[(0, x0), (1, x1), (2, x2), (3, x3)], ty, pos, af, none⟩ :: l) Q S σ := by
  have ca : a.cells = [a] := AV.cells_one i0.eq
  have cb : b.cells = [b] := AV.cells_one i1.eq
  have cc : c.cells = [c] := AV.cells_one i2.eq
  have cw : w.cells = [w] := AV.cells_one i3.eq
  refine wc_buildSlice (rs := [(0, a), (1, b), (2, c), (3, w)]) (cs := [a, b, c, w]) ht.eq he hz hz1 (by decide) (by simp [evParts, h0, h1, h2, h3]) ?_ ?_ hd k
  · intro r hr
    simp only [List.mem_cons, List.not_mem_nil, or_false] at hr
    rcases hr with rfl | rfl | rfl | rfl
    · exact ⟨by rw [ca]; rfl, by simp, by rw [ca]; simpa using i0.eq⟩
    · exact ⟨by rw [cb]; rfl, by simp, by rw [cb]; simpa using i1.eq⟩
    · exact ⟨by rw [cc]; rfl, by simp, by rw [cc]; simpa using i2.eq⟩
    · exact ⟨by rw [cw]; rfl, by simp, by rw [cw]; simpa using i3.eq⟩
  · simp only [fillA, ca, cb, cc, cw]
    rfl
end
section
variable {base : Nat}
theorem c_mnPut (a b : Int) (s : AV) (σ : Store) [h : One s] : ACall Tryz.prog base F_laws_mnPut [I a, I b, s] σ (fun _ => False) (Ret σ (.agg [I a, I b, s])) := by
  refine acall3 fun_laws_mnPut rfl tmps_laws_mnPut rfl fun N B w₀ ρ₀ => ?_
  repeat' (first
    | refine wl_pop rfl (pc_tm3 rfl rfl rfl inI inI rfl) ?_
    | refine wp_seqA ?_
    | refine wp_region_seq ?_
    | refine thru_seq_next ?_
    | refine wp_retA ?_
    | refine wl_nil ?_
    | refine wl_pop rfl (po_move rfl) ?_
    | (refine wc_storeA rfl rfl inI inI rfl inI (Nat.le_of_ble_eq_true rfl) (.inr (may_new _)) ?_; intro _ _)
    | (refine wc_allocA (cs := [_, _, _]) inI rfl inI rfl ?_; intro _ _ _ _ _)
    | refine at_ret (res_cell rfl rfl inI (at_has (cs := [_, _, _]) (.inl rfl) rfl rfl)) ?_
    | exact ret_ inI rfl
    | fail)
theorem c_FnAlikeKept (b : AV) (gb : List UInt8) (σ : Store) [hs : RW σ b gb] : ACall Tryz.prog base F_laws_FnAlikeKept [b] σ (fun _ => False) (Ret σ (Bo true)) := by
  have := hs.one
  refine acall1 fun_laws_FnAlikeKept rfl tmps_laws_FnAlikeKept rfl fun N B w₀ ρ₀ => ?_
  repeat' (first
    | refine wl_pop rfl (pc_lenRow rfl hs inI) ?_
    | (refine wc_callTT rfl inI rfl (c_DrawTermsAlike b gb _ (by omega)) rfl ?_; intro _ _ _ _ _ _ _ _ _ _ _ _ _ _ _)
    | refine wc_holdR 4 ?_
    | refine wp_seqA ?_
    | refine wp_region_seq ?_
    | refine thru_seq_next ?_
    | refine thru_seq_ret ?_
    | refine wp_skipA ?_
    | refine wp_retA ?_
    | refine wl_nil ?_
    | refine wl_pop rfl (po_move rfl) ?_
    | refine wl_pop rfl (po_assign rfl) ?_
    | refine wl_pop rfl (po_binOp rfl rfl rfl) ?_
    | (refine wc_storeA rfl rfl inI inI rfl inI (Nat.le_of_ble_eq_true rfl) (.inr (may_new _)) ?_; intro _ _)
    | refine wl_pop rfl (po_extract rfl rfl) ?_
    | (refine wc_allocA (cs := [_, _, _]) inI rfl inI rfl ?_; intro _ _ _ _ _)
    | refine wp_condP rfl (fun _ => ?_) (fun _ => ?_)
    | refine at_ret (res1 rfl rfl) ?_
    | exact ret_ inI rfl
    | fail)
  rename_i hlen t u a a' v xs σ1 oa oa' ov ra ra' rv hx g1 i2 σ2 g2 n2 h2 i3 σ3 g3 n3 h3 σ4 u4 σ5 u5
  have h25 : Has σ5 i2 ⟨.own, 1, [I t.op, I t.n, a], []⟩ := (inI : Has σ5 i2 ⟨.own, 1, splice [I 0, I 0, nilS] 0 [I t.op, I t.n, a], []⟩)
  have h35 : Has σ5 i3 ⟨.own, 1, [I u.op, I u.n, a'], []⟩ := instHasUpd (g := u5)
  have l5 : LeS σ σ5 := inI
  have r15 : RTs σ5 a t.ps := inI
  have r25 : RTs σ5 a' u.ps := inI
  have r35 : RTs σ5 v xs := inI
  clear u4 u5 h2 h3
  obtain ⟨o, ho⟩ : ∃ o, alkO xs t u = o := ⟨_, rfl⟩
  refine hold_go ?_
  repeat' (first
    | (refine wc_callR rfl inI rfl (ho ▸ c_TermsAlike t u xs _ _ _ _) rfl ?_; intro _ _)
    | (refine wc_callR rfl inI rfl (ho ▸ c_sTermsAlike t u xs _ _ _ _) rfl ?_; intro _ _)
    | refine wc_holdR 10 ?_
    | refine wp_seqA ?_
    | refine wp_region_seq ?_
    | refine thru_seq_next ?_
    | refine thru_seq_ret ?_
    | refine wp_skipA ?_
    | refine wp_retA ?_
    | refine wl_nil ?_
    | refine wl_pop rfl (po_move rfl) ?_
    | refine wl_pop rfl (po_assign rfl) ?_
    | refine wl_pop rfl (pc_boolNeSelf rfl rfl inI) ?_
    | refine wc_loadn rfl inI (at_has (cs := [_, _, _]) (.inl rfl) rfl rfl) rfl ?_
    | refine wl_pop rfl (po_not rfl) ?_
    | refine wl_pop rfl (po_extract rfl rfl) ?_
    | refine wl_pop rfl (po_pick rfl rfl) ?_
    | refine wc_guardT_false rfl rfl rfl ?_
    | refine wp_condF rfl ?_
    | refine wp_condA rfl (fun _ => ?_) (fun _ => ?_)
    | refine at_ret (res1 rfl rfl) ?_
    | exact ret_ inI rfl
    | fail)
  rename_i σ6 g6 σ7 g7 hb
  have hot : o = some true := by
    cases o with
    | none => simp at hb
    | some w => cases w <;> simp at hb ⊢
  have hA : Alk xs t u := (alkO_iff (ho.trans hot)).mp rfl
  have h3 : Has σ7 i2 ⟨.own, 1, [I t.op, I t.n, a], []⟩ := inI
  have h4 : Has σ7 i3 ⟨.own, 1, [I u.op, I u.n, a'], []⟩ := inI
  have r1 : RTs σ7 a t.ps := inI
  have r2 : RTs σ7 a' u.ps := inI
  have r3 : RTs σ7 v xs := inI
  have l7 : LeS σ σ7 := inI
  refine wc_cut (ι := Nat × AV × AV × AV × AV) [(5, v)] (fun y => [(10, .sl y.1 0 4)]) (fun y σ' => LeS σ7 σ' ∧ Has σ' y.1 ⟨.own, 1, [y.2.1, y.2.2.1, y.2.2.2.1, y.2.2.2.2], []⟩ ∧ RTs σ' y.2.1 [.node 1 1 [t], .node 1 1 [u]] ∧ RTs σ' y.2.2.1 [.node 4 0 [t], .node 4 0 [u]] ∧ RTs σ' y.2.2.2.1 [.node 2 0 [t, t], .node 2 0 [u, t]] ∧ RTs σ' y.2.2.2.2 [.node 3 0 [t, t], .node 3 0 [u, t]]) ?_ ?_
  · refine wc_drawnI (n := 34) mixed_ rfl (D := keptD) (by kernel_rfl) (IK i2 i3 v σ7) (JK t u) ⟨rfl, rfl, rfl, inI⟩ ?_ ?_
    · intro i S' σ' hi hle hI hdeps
      rcases (show i = 0 ∨ i = 1 ∨ i = 2 ∨ i = 3 ∨ i = 4 ∨ i = 5 ∨ i = 6 ∨ i = 7 ∨ i = 8 ∨ i = 9 ∨ i = 10 ∨ i = 11 ∨ i = 12 ∨ i = 13 ∨ i = 14 ∨ i = 15 ∨ i = 16 ∨ i = 17 ∨ i = 18 ∨ i = 19 ∨ i = 20 ∨ i = 21 ∨ i = 22 ∨ i = 23 ∨ i = 24 ∨ i = 25 ∨ i = 26 ∨ i = 27 ∨ i = 28 ∨ i = 29 ∨ i = 30 ∨ i = 31 ∨ i = 32 ∨ i = 33 by omega) with rfl | rfl | rfl | rfl | rfl | rfl | rfl | rfl | rfl | rfl | rfl | rfl | rfl | rfl | rfl | rfl | rfl | rfl | rfl | rfl | rfl | rfl | rfl | rfl | rfl | rfl | rfl | rfl | rfl | rfl | rfl | rfl | rfl | rfl
      · refine ⟨_, rfl, fun N B w₀ ρ₀ Q' hQ => ?_⟩
        refine wl_pop rfl (pc_loadnL hI.e3 inI (at_has (h := h3.les hI.le) (cs := [_, _, _]) (.inl rfl) rfl rfl) inI) ?_
        refine wl_nil (put_fin hQ hI hi grow0 (rk_tm rfl (r1.les hI.le)))
      · refine ⟨_, rfl, fun N B w₀ ρ₀ Q' hQ => ?_⟩
        obtain ⟨s0, hs0, rs0⟩ := jT (d := 47) (hdeps 0 (by decide)) rfl rfl
        have := rs0.one
        refine wc_oneTm hs0 inI inI rfl (by decide) rfl (fun id σ'' g n hn => ?_)
        refine wl_nil (put_fin hQ hI hi g (rk_ls rfl (rep_one (rs0.grows g).rep trivial hn)))
      · refine ⟨_, rfl, fun N B w₀ ρ₀ Q' hQ => ?_⟩
        obtain ⟨s0, hs0, rs0⟩ := jL (d := 48) (hdeps 1 (by decide)) rfl rfl
        have := rs0.one
        refine wc_callR (rs := [I 1, I 1, s0]) rfl inI (by show evs S' [_, _, _] = _; simp only [evs, Slots.ev, hs0]) (c_mnPut 1 1 s0 σ') rfl (fun σ'' g => ?_)
        refine wl_nil (put_fin hQ hI hi g (rk_tm (T := (.node 1 1 [t])) rfl (rs0.grows g)))
      · refine ⟨_, rfl, fun N B w₀ ρ₀ Q' hQ => ?_⟩
        refine wl_pop rfl (pc_loadnL hI.e4 inI (at_has (h := h4.les hI.le) (cs := [_, _, _]) (.inl rfl) rfl rfl) inI) ?_
        refine wl_nil (put_fin hQ hI hi grow0 (rk_tm rfl (r2.les hI.le)))
      · refine ⟨_, rfl, fun N B w₀ ρ₀ Q' hQ => ?_⟩
        obtain ⟨s0, hs0, rs0⟩ := jT (d := 50) (hdeps 3 (by decide)) rfl rfl
        have := rs0.one
        refine wc_oneTm hs0 inI inI rfl (by decide) rfl (fun id σ'' g n hn => ?_)
        refine wl_nil (put_fin hQ hI hi g (rk_ls rfl (rep_one (rs0.grows g).rep trivial hn)))
      · refine ⟨_, rfl, fun N B w₀ ρ₀ Q' hQ => ?_⟩
        obtain ⟨s0, hs0, rs0⟩ := jL (d := 51) (hdeps 4 (by decide)) rfl rfl
        have := rs0.one
        refine wc_callR (rs := [I 1, I 1, s0]) rfl inI (by show evs S' [_, _, _] = _; simp only [evs, Slots.ev, hs0]) (c_mnPut 1 1 s0 σ') rfl (fun σ'' g => ?_)
        refine wl_nil (put_fin hQ hI hi g (rk_tm (T := (.node 1 1 [u])) rfl (rs0.grows g)))
      · refine ⟨_, rfl, fun N B w₀ ρ₀ Q' hQ => ?_⟩
        obtain ⟨s0, hs0, rs0⟩ := jT (d := 49) (hdeps 2 (by decide)) rfl rfl
        have := rs0.one
        obtain ⟨s1, hs1, rs1⟩ := jT (d := 52) (hdeps 5 (by decide)) rfl rfl
        have := rs1.one
        refine wc_twoTm hs0 hs1 inI inI rfl (by decide) rfl (fun id σ'' g n hn => ?_)
        refine wl_nil (put_fin hQ hI hi g (rk_ls rfl (rep_two (rs0.grows g).rep (rs1.grows g).rep trivial hn)))
      · refine ⟨_, rfl, fun N B w₀ ρ₀ Q' hQ => ?_⟩
        refine wl_pop rfl (pc_loadnL hI.e3 inI (at_has (h := h3.les hI.le) (cs := [_, _, _]) (.inl rfl) rfl rfl) inI) ?_
        refine wl_nil (put_fin hQ hI hi grow0 (rk_tm rfl (r1.les hI.le)))
      · refine ⟨_, rfl, fun N B w₀ ρ₀ Q' hQ => ?_⟩
        obtain ⟨s0, hs0, rs0⟩ := jT (d := 54) (hdeps 7 (by decide)) rfl rfl
        have := rs0.one
        refine wc_oneTm hs0 inI inI rfl (by decide) rfl (fun id σ'' g n hn => ?_)
        refine wl_nil (put_fin hQ hI hi g (rk_ls rfl (rep_one (rs0.grows g).rep trivial hn)))
      · refine ⟨_, rfl, fun N B w₀ ρ₀ Q' hQ => ?_⟩
        obtain ⟨s0, hs0, rs0⟩ := jL (d := 55) (hdeps 8 (by decide)) rfl rfl
        have := rs0.one
        refine wc_callR (rs := [I 4, I 0, s0]) rfl inI (by show evs S' [_, _, _] = _; simp only [evs, Slots.ev, hs0]) (c_mnPut 4 0 s0 σ') rfl (fun σ'' g => ?_)
        refine wl_nil (put_fin hQ hI hi g (rk_tm (T := (.node 4 0 [t])) rfl (rs0.grows g)))
      · refine ⟨_, rfl, fun N B w₀ ρ₀ Q' hQ => ?_⟩
        refine wl_pop rfl (pc_loadnL hI.e4 inI (at_has (h := h4.les hI.le) (cs := [_, _, _]) (.inl rfl) rfl rfl) inI) ?_
        refine wl_nil (put_fin hQ hI hi grow0 (rk_tm rfl (r2.les hI.le)))
      · refine ⟨_, rfl, fun N B w₀ ρ₀ Q' hQ => ?_⟩
        obtain ⟨s0, hs0, rs0⟩ := jT (d := 57) (hdeps 10 (by decide)) rfl rfl
        have := rs0.one
        refine wc_oneTm hs0 inI inI rfl (by decide) rfl (fun id σ'' g n hn => ?_)
        refine wl_nil (put_fin hQ hI hi g (rk_ls rfl (rep_one (rs0.grows g).rep trivial hn)))
      · refine ⟨_, rfl, fun N B w₀ ρ₀ Q' hQ => ?_⟩
        obtain ⟨s0, hs0, rs0⟩ := jL (d := 58) (hdeps 11 (by decide)) rfl rfl
        have := rs0.one
        refine wc_callR (rs := [I 4, I 0, s0]) rfl inI (by show evs S' [_, _, _] = _; simp only [evs, Slots.ev, hs0]) (c_mnPut 4 0 s0 σ') rfl (fun σ'' g => ?_)
        refine wl_nil (put_fin hQ hI hi g (rk_tm (T := (.node 4 0 [u])) rfl (rs0.grows g)))
      · refine ⟨_, rfl, fun N B w₀ ρ₀ Q' hQ => ?_⟩
        obtain ⟨s0, hs0, rs0⟩ := jT (d := 56) (hdeps 9 (by decide)) rfl rfl
        have := rs0.one
        obtain ⟨s1, hs1, rs1⟩ := jT (d := 59) (hdeps 12 (by decide)) rfl rfl
        have := rs1.one
        refine wc_twoTm hs0 hs1 inI inI rfl (by decide) rfl (fun id σ'' g n hn => ?_)
        refine wl_nil (put_fin hQ hI hi g (rk_ls rfl (rep_two (rs0.grows g).rep (rs1.grows g).rep trivial hn)))
      · refine ⟨_, rfl, fun N B w₀ ρ₀ Q' hQ => ?_⟩
        refine wl_pop rfl (pc_loadnL hI.e3 inI (at_has (h := h3.les hI.le) (cs := [_, _, _]) (.inl rfl) rfl rfl) inI) ?_
        refine wl_nil (put_fin hQ hI hi grow0 (rk_tm rfl (r1.les hI.le)))
      · refine ⟨_, rfl, fun N B w₀ ρ₀ Q' hQ => ?_⟩
        refine wl_pop rfl (pc_loadnL hI.e3 inI (at_has (h := h3.les hI.le) (cs := [_, _, _]) (.inl rfl) rfl rfl) inI) ?_
        refine wl_nil (put_fin hQ hI hi grow0 (rk_tm rfl (r1.les hI.le)))
      · refine ⟨_, rfl, fun N B w₀ ρ₀ Q' hQ => ?_⟩
        obtain ⟨s0, hs0, rs0⟩ := jT (d := 61) (hdeps 14 (by decide)) rfl rfl
        have := rs0.one
        obtain ⟨s1, hs1, rs1⟩ := jT (d := 62) (hdeps 15 (by decide)) rfl rfl
        have := rs1.one
        refine wc_twoTm hs0 hs1 inI inI rfl (by decide) rfl (fun id σ'' g n hn => ?_)
        refine wl_nil (put_fin hQ hI hi g (rk_ls rfl (rep_two (rs0.grows g).rep (rs1.grows g).rep trivial hn)))
      · refine ⟨_, rfl, fun N B w₀ ρ₀ Q' hQ => ?_⟩
        obtain ⟨s0, hs0, rs0⟩ := jL (d := 63) (hdeps 16 (by decide)) rfl rfl
        have := rs0.one
        refine wc_callR (rs := [I 2, I 0, s0]) rfl inI (by show evs S' [_, _, _] = _; simp only [evs, Slots.ev, hs0]) (c_mnPut 2 0 s0 σ') rfl (fun σ'' g => ?_)
        refine wl_nil (put_fin hQ hI hi g (rk_tm (T := (.node 2 0 [t, t])) rfl (rs0.grows g)))
      · refine ⟨_, rfl, fun N B w₀ ρ₀ Q' hQ => ?_⟩
        refine wl_pop rfl (pc_loadnL hI.e4 inI (at_has (h := h4.les hI.le) (cs := [_, _, _]) (.inl rfl) rfl rfl) inI) ?_
        refine wl_nil (put_fin hQ hI hi grow0 (rk_tm rfl (r2.les hI.le)))
      · refine ⟨_, rfl, fun N B w₀ ρ₀ Q' hQ => ?_⟩
        refine wl_pop rfl (pc_loadnL hI.e3 inI (at_has (h := h3.les hI.le) (cs := [_, _, _]) (.inl rfl) rfl rfl) inI) ?_
        refine wl_nil (put_fin hQ hI hi grow0 (rk_tm rfl (r1.les hI.le)))
      · refine ⟨_, rfl, fun N B w₀ ρ₀ Q' hQ => ?_⟩
        obtain ⟨s0, hs0, rs0⟩ := jT (d := 65) (hdeps 18 (by decide)) rfl rfl
        have := rs0.one
        obtain ⟨s1, hs1, rs1⟩ := jT (d := 66) (hdeps 19 (by decide)) rfl rfl
        have := rs1.one
        refine wc_twoTm hs0 hs1 inI inI rfl (by decide) rfl (fun id σ'' g n hn => ?_)
        refine wl_nil (put_fin hQ hI hi g (rk_ls rfl (rep_two (rs0.grows g).rep (rs1.grows g).rep trivial hn)))
      · refine ⟨_, rfl, fun N B w₀ ρ₀ Q' hQ => ?_⟩
        obtain ⟨s0, hs0, rs0⟩ := jL (d := 67) (hdeps 20 (by decide)) rfl rfl
        have := rs0.one
        refine wc_callR (rs := [I 2, I 0, s0]) rfl inI (by show evs S' [_, _, _] = _; simp only [evs, Slots.ev, hs0]) (c_mnPut 2 0 s0 σ') rfl (fun σ'' g => ?_)
        refine wl_nil (put_fin hQ hI hi g (rk_tm (T := (.node 2 0 [u, t])) rfl (rs0.grows g)))
      · refine ⟨_, rfl, fun N B w₀ ρ₀ Q' hQ => ?_⟩
        obtain ⟨s0, hs0, rs0⟩ := jT (d := 64) (hdeps 17 (by decide)) rfl rfl
        have := rs0.one
        obtain ⟨s1, hs1, rs1⟩ := jT (d := 68) (hdeps 21 (by decide)) rfl rfl
        have := rs1.one
        refine wc_twoTm hs0 hs1 inI inI rfl (by decide) rfl (fun id σ'' g n hn => ?_)
        refine wl_nil (put_fin hQ hI hi g (rk_ls rfl (rep_two (rs0.grows g).rep (rs1.grows g).rep trivial hn)))
      · refine ⟨_, rfl, fun N B w₀ ρ₀ Q' hQ => ?_⟩
        refine wl_pop rfl (pc_loadnL hI.e3 inI (at_has (h := h3.les hI.le) (cs := [_, _, _]) (.inl rfl) rfl rfl) inI) ?_
        refine wl_nil (put_fin hQ hI hi grow0 (rk_tm rfl (r1.les hI.le)))
      · refine ⟨_, rfl, fun N B w₀ ρ₀ Q' hQ => ?_⟩
        refine wl_pop rfl (pc_loadnL hI.e3 inI (at_has (h := h3.les hI.le) (cs := [_, _, _]) (.inl rfl) rfl rfl) inI) ?_
        refine wl_nil (put_fin hQ hI hi grow0 (rk_tm rfl (r1.les hI.le)))
      · refine ⟨_, rfl, fun N B w₀ ρ₀ Q' hQ => ?_⟩
        obtain ⟨s0, hs0, rs0⟩ := jT (d := 70) (hdeps 23 (by decide)) rfl rfl
        have := rs0.one
        obtain ⟨s1, hs1, rs1⟩ := jT (d := 71) (hdeps 24 (by decide)) rfl rfl
        have := rs1.one
        refine wc_twoTm hs0 hs1 inI inI rfl (by decide) rfl (fun id σ'' g n hn => ?_)
        refine wl_nil (put_fin hQ hI hi g (rk_ls rfl (rep_two (rs0.grows g).rep (rs1.grows g).rep trivial hn)))
      · refine ⟨_, rfl, fun N B w₀ ρ₀ Q' hQ => ?_⟩
        obtain ⟨s0, hs0, rs0⟩ := jL (d := 72) (hdeps 25 (by decide)) rfl rfl
        have := rs0.one
        refine wc_callR (rs := [I 3, I 0, s0]) rfl inI (by show evs S' [_, _, _] = _; simp only [evs, Slots.ev, hs0]) (c_mnPut 3 0 s0 σ') rfl (fun σ'' g => ?_)
        refine wl_nil (put_fin hQ hI hi g (rk_tm (T := (.node 3 0 [t, t])) rfl (rs0.grows g)))
      · refine ⟨_, rfl, fun N B w₀ ρ₀ Q' hQ => ?_⟩
        refine wl_pop rfl (pc_loadnL hI.e4 inI (at_has (h := h4.les hI.le) (cs := [_, _, _]) (.inl rfl) rfl rfl) inI) ?_
        refine wl_nil (put_fin hQ hI hi grow0 (rk_tm rfl (r2.les hI.le)))
      · refine ⟨_, rfl, fun N B w₀ ρ₀ Q' hQ => ?_⟩
        refine wl_pop rfl (pc_loadnL hI.e3 inI (at_has (h := h3.les hI.le) (cs := [_, _, _]) (.inl rfl) rfl rfl) inI) ?_
        refine wl_nil (put_fin hQ hI hi grow0 (rk_tm rfl (r1.les hI.le)))
      · refine ⟨_, rfl, fun N B w₀ ρ₀ Q' hQ => ?_⟩
        obtain ⟨s0, hs0, rs0⟩ := jT (d := 74) (hdeps 27 (by decide)) rfl rfl
        have := rs0.one
        obtain ⟨s1, hs1, rs1⟩ := jT (d := 75) (hdeps 28 (by decide)) rfl rfl
        have := rs1.one
        refine wc_twoTm hs0 hs1 inI inI rfl (by decide) rfl (fun id σ'' g n hn => ?_)
        refine wl_nil (put_fin hQ hI hi g (rk_ls rfl (rep_two (rs0.grows g).rep (rs1.grows g).rep trivial hn)))
      · refine ⟨_, rfl, fun N B w₀ ρ₀ Q' hQ => ?_⟩
        obtain ⟨s0, hs0, rs0⟩ := jL (d := 76) (hdeps 29 (by decide)) rfl rfl
        have := rs0.one
        refine wc_callR (rs := [I 3, I 0, s0]) rfl inI (by show evs S' [_, _, _] = _; simp only [evs, Slots.ev, hs0]) (c_mnPut 3 0 s0 σ') rfl (fun σ'' g => ?_)
        refine wl_nil (put_fin hQ hI hi g (rk_tm (T := (.node 3 0 [u, t])) rfl (rs0.grows g)))
      · refine ⟨_, rfl, fun N B w₀ ρ₀ Q' hQ => ?_⟩
        obtain ⟨s0, hs0, rs0⟩ := jT (d := 73) (hdeps 26 (by decide)) rfl rfl
        have := rs0.one
        obtain ⟨s1, hs1, rs1⟩ := jT (d := 77) (hdeps 30 (by decide)) rfl rfl
        have := rs1.one
        refine wc_twoTm hs0 hs1 inI inI rfl (by decide) rfl (fun id σ'' g n hn => ?_)
        refine wl_nil (put_fin hQ hI hi g (rk_ls rfl (rep_two (rs0.grows g).rep (rs1.grows g).rep trivial hn)))
      · refine ⟨_, rfl, fun N B w₀ ρ₀ Q' hQ => ?_⟩
        obtain ⟨s0, hs0, rs0⟩ := jL (d := 53) (hdeps 6 (by decide)) rfl rfl
        have := rs0.one
        obtain ⟨s1, hs1, rs1⟩ := jL (d := 60) (hdeps 13 (by decide)) rfl rfl
        have := rs1.one
        obtain ⟨s2, hs2, rs2⟩ := jL (d := 69) (hdeps 22 (by decide)) rfl rfl
        have := rs2.one
        obtain ⟨s3, hs3, rs3⟩ := jL (d := 78) (hdeps 31 (by decide)) rfl rfl
        have := rs3.one
        refine wc_fourW hs0 hs1 hs2 hs3 inI inI rfl (by decide) rfl (fun id σ'' g n hn => ?_)
        refine wl_nil (put_fin hQ hI hi g (rk_4 rfl ⟨_, _, _, _, _, rfl, hn, rs0.grows g, rs1.grows g, rs2.grows g, rs3.grows g⟩))
      · refine ⟨_, rfl, fun N B w₀ ρ₀ Q' hQ => ?_⟩
        obtain ⟨s0, hs0, rs0⟩ := jF (d := 79) (hdeps 32 (by decide)) rfl rfl
        refine wl_pop rfl (po_assign hs0) ?_
        refine wl_nil (put_fin hQ hI hi grow0 (rk_4 rfl rs0))
    · intro S' σ' hI hJ
      obtain ⟨w, hw, id, w0, w1, w2, w3, rfl, hh, a0, a1, a2, a3⟩ := jF (hJ 33 (by decide)) rfl rfl
      exact andThen_in ⟨(id, w0, w1, w2, w3), ⟨hI.le, hh, a0, a1, a2, a3⟩, sub_cons hw (sub_cons hI.e5 sub_nil)⟩
  · rintro ⟨id, w0, w1, w2, w3⟩ σ8 ⟨l8, hh, q0, q1, q2, q3⟩
    dsimp only at hh q0 q1 q2 q3 ⊢
    have hk4 : ∀ k, k < 4 → ∃ w p q, At σ8 id (0 + k * 1) 1 [w] ∧ RTs σ8 w [p, q] ∧ Alk xs p q := by
      intro k hk
      rcases (show k = 0 ∨ k = 1 ∨ k = 2 ∨ k = 3 by omega) with rfl | rfl | rfl | rfl
      · exact ⟨w0, _, _, at_has (h := hh) (cs := [_]) (.inl rfl) rfl rfl, q0, hA.act 1⟩
      · exact ⟨w1, _, _, at_has (h := hh) (cs := [_]) (.inl rfl) rfl rfl, q1, hA.hide 0⟩
      · exact ⟨w2, _, _, at_has (h := hh) (cs := [_]) (.inl rfl) rfl rfl, q2, hA.sum t⟩
      · exact ⟨w3, _, _, at_has (h := hh) (cs := [_]) (.inl rfl) rfl rfl, q3, hA.par t⟩
    have r8 : RTs σ8 v xs := r3.les l8
    have l08 : LeS σ σ8 := ⟨fun i o ho => l8.keep i o (l7.keep i o ho)⟩
    have := r8.one
    clear h25 h35 r15 r25 r35 h3 h4 r1 r2 r3 q0 q1 q2 q3 hh ra ra' rv g1 g2 g3 g6 g7 n2 n3 l7 l5 l8
    repeat' (first
      | refine wp_seqA ?_
      | refine wp_region_seq ?_
      | refine thru_seq_next ?_
      | refine wp_blockA ?_
      | refine wl_nil ?_
      | refine wl_pop rfl (po_assign rfl) ?_
      | fail)
    refine wc_loop [(5, _), (10, _)] (fun k : Nat => [(11, I k)]) (fun k σ' => k ≤ 4 ∧ LeS σ8 σ') (fun k => 4 - k) 0 ⟨by decide, inI⟩ (by repeat' (first | exact sub_nil | refine sub_cons rfl ?_ | refine sub_int rfl (by first | rfl | omega | (push_cast; omega) | simp) ?_ | refine sub_eq rfl (by assumption) ?_)) ?_
    rintro k σ' ⟨hk, hg⟩
    have := hg.grow
    have r' : RTs σ' v xs := r8.les hg
    repeat' (first
      | refine wc_holdR 14 ?_
      | refine wp_seqA ?_
      | refine wp_region_seq ?_
      | refine thru_seq_next ?_
      | refine thru_seq ?_
      | refine exit_here ?_
      | refine wp_skipA ?_
      | refine wp_retA ?_
      | refine wp_exitA ?_
      | refine wp_blockA ?_
      | refine wl_nil ?_
      | refine wl_pop rfl (po_move rfl) ?_
      | refine wl_pop rfl (po_assign rfl) ?_
      | refine wl_pop rfl (po_binOp rfl rfl rfl) ?_
      | refine wl_pop rfl (po_len (ri := 0) rfl Un.eq) ?_
      | refine wp_condP rfl (fun _ => ?_) (fun _ => ?_)
      | refine at_ret (res1 rfl rfl) ?_
      | exact ret_ inI rfl
      | fail)
    rename_i hlt
    have hlt' : k < 4 := Int.ofNat_lt.mp hlt
    obtain ⟨w, p, q, hat, hr, hal⟩ := hk4 k hlt'
    have hr' := hr.les hg
    have hatw : At σ' id (0 + Int.toNat (k : Int) * 1) 1 [w] := hat.grow hg
    obtain ⟨idw, offw, s0, e0, hat0, hr0⟩ := hr'.rep.part (k := 0) (by simp)
    obtain ⟨idw', offw', s1, e1, hat1, hr1⟩ := hr'.rep.part (k := 1) (by simp)
    subst e0
    cases e1
    have hat0 : At σ' idw (offw + Int.toNat 0 * 3) 3 [I p.op, I p.n, s0] := hat0
    have hat1 : At σ' idw (offw + Int.toNat 1 * 3) 3 [I q.op, I q.n, s1] := hat1
    have R0 : RTs σ' s0 p.ps := ⟨hr0⟩
    have R1 : RTs σ' s1 q.ps := ⟨hr1⟩
    have := R0.one
    have := R1.one
    obtain ⟨ok, hok⟩ : ∃ o, alkO xs p q = o := ⟨_, rfl⟩
    have hokt : ∀ w, ok = some w → w = true := fun w h => (alkO_iff (hok.trans h)).mpr hal
    refine hold_go ?_
    refine wc_drawn [] mixed_ rfl ?_
    all_goals refine da_takeC 0 rfl rfl (by kernel_rfl) (by first | exact po_move rfl | fail) ?_
    all_goals refine da_takeC 1 rfl rfl (by kernel_rfl) (by first | exact po_move rfl | fail) ?_
    all_goals refine da_takeC 2 rfl rfl (by kernel_rfl) (by first | exact pc_indexSlZ rfl rfl inI inI (by first | omega | decide | simp) (by first | omega | decide | simp) | fail) ?_
    all_goals refine da_takeC 3 rfl rfl (by kernel_rfl) (by first | exact pc_load1L rfl inI hatw inI | fail) ?_
    all_goals refine da_takeC 4 rfl rfl (by kernel_rfl) (by first | exact pc_indexSlZ rfl rfl inI inI (by first | omega | decide | simp) (by first | omega | decide | simp) | fail) ?_
    all_goals refine da_takeC 5 rfl rfl (by kernel_rfl) (by first | exact pc_loadnL rfl inI hat0 inI | fail) ?_
    all_goals refine da_takeC 6 rfl rfl (by kernel_rfl) (by first | exact po_move rfl | fail) ?_
    all_goals refine da_takeC 7 rfl rfl (by kernel_rfl) (by first | exact po_move rfl | fail) ?_
    all_goals refine da_takeC 8 rfl rfl (by kernel_rfl) (by first | exact pc_indexSlZ rfl rfl inI inI (by first | omega | decide | simp) (by first | omega | decide | simp) | fail) ?_
    all_goals refine da_takeC 9 rfl rfl (by kernel_rfl) (by first | exact pc_load1L rfl inI hatw inI | fail) ?_
    all_goals refine da_takeC 10 rfl rfl (by kernel_rfl) (by first | exact pc_indexSlZ rfl rfl inI inI (by first | omega | decide | simp) (by first | omega | decide | simp) | fail) ?_
    all_goals refine da_takeC 11 rfl rfl (by kernel_rfl) (by first | exact pc_loadnL rfl inI hat1 inI | fail) ?_
    all_goals refine da_takeC 12 rfl rfl (by kernel_rfl) (by first | exact po_move rfl | fail) ?_
    all_goals (first | (refine da_one 13 rfl (by kernel_rfl) (fun _ _ _ _ => ?_); (repeat' (first | (refine wc_callR rfl inI rfl (hok ▸ c_TermsAlike p q xs _ _ _ _) rfl ?_; intro _ _) | fail)); all_goals (first | refine wl_nil ⟨rfl, (by first | exact LeS.len inI | exact App.len (by assumption)), ?_⟩ | trace_state)))
    all_goals refine da_takeC 14 rfl rfl (by kernel_rfl) (by first | exact po_move rfl | fail) ?_
    all_goals refine da_takeC 15 rfl rfl (by kernel_rfl) (by first | exact po_extract rfl rfl | fail) ?_
    all_goals refine da_takeC 16 rfl rfl (by kernel_rfl) (by first | exact po_extract rfl rfl | fail) ?_
    all_goals refine da_takeC 17 rfl rfl (by kernel_rfl) (by first | exact po_assign rfl | fail) ?_
    all_goals refine da_takeC 18 rfl rfl (by kernel_rfl) (by first | exact po_assign rfl | fail) ?_
    all_goals refine da_done (by kernel_rfl) ?_
    cases ok with
    | none =>
      repeat' (first
        | refine wp_seqA ?_
        | refine wp_region_seq ?_
        | refine thru_seq_next ?_
        | refine thru_block_next ?_
        | refine wp_skipA ?_
        | refine wl_nil ?_
        | refine wl_pop rfl (po_move rfl) ?_
        | refine wl_pop rfl (po_assign rfl) ?_
        | refine wl_pop rfl (pc_add rfl rfl (by omega) (by omega)) ?_
        | refine wl_pop rfl (po_pick rfl rfl) ?_
        | refine wc_guardF_true rfl rfl rfl rfl ?_
        | refine wp_condF rfl ?_
        | fail)
      exact ⟨k + 1, by omega, ⟨by omega, inI⟩, (by repeat' (first | exact sub_nil | refine sub_cons rfl ?_ | refine sub_int rfl (by first | rfl | omega | (push_cast; omega) | simp) ?_ | refine sub_eq rfl (by assumption) ?_))⟩
    | some b =>
      obtain rfl := hokt b rfl
      repeat' (first
        | refine wp_seqA ?_
        | refine wp_region_seq ?_
        | refine thru_seq_next ?_
        | refine thru_block_next ?_
        | refine wp_skipA ?_
        | refine wl_nil ?_
        | refine wl_pop rfl (po_move rfl) ?_
        | refine wl_pop rfl (po_assign rfl) ?_
        | refine wl_pop rfl (pc_add rfl rfl (by omega) (by omega)) ?_
        | refine wl_pop rfl (po_not rfl) ?_
        | refine wl_pop rfl (po_pick rfl rfl) ?_
        | refine wc_guardT_true rfl rfl rfl ?_
        | refine wp_condF rfl ?_
        | fail)
      exact ⟨k + 1, by omega, ⟨by omega, inI⟩, (by repeat' (first | exact sub_nil | refine sub_cons rfl ?_ | refine sub_int rfl (by first | rfl | omega | (push_cast; omega) | simp) ?_ | refine sub_eq rfl (by assumption) ?_))⟩
end
end Go.Proofs.YthbodgnoadlbcaaGreatDoor.Asl
