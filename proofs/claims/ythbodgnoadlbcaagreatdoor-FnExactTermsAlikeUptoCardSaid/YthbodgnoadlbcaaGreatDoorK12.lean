/- Several texts in one. -/
import Derived.Test.YthbodgnoadlbcaaGreatDoorBB
import Derived.Test.YthbodgnoadlbcaaGreatDoorK4
import Derived.Test.YthbodgnoadlbcaaGreatDoorDD
import Derived.Test.YthbodgnoadlbcaaGreatDoorK11
import Derived.Test.YthbodgnoadlbcaaGreatDoorG6
import Derived.Test.YthbodgnoadlbcaaGreatDoorG7
import Derived.Test.YthbodgnoadlbcaaGreatDoorS6
import Derived.Test.YthbodgnoadlbcaaGreatDoorG26
import Derived.Test.YthbodgnoadlbcaaGreatDoorH3
/- Regions that draw and write a variable of the caller's before they read others. -/
namespace Go.Proofs.YthbodgnoadlbcaaGreatDoor.Asl
open Go.RowKit Go.Proofs.YthbodgnoadlbcaaGreatDoorW.PrintLast
set_option linter.unusedVariables false
set_option linter.unusedSimpArgs false
section
variable {E : Env} {ops : Array Oper} {ds : List Nat} {fuel n0 i0 : Nat} {listed : Array Bool} {Q : Exit → Slots → Store → Prop} {S : Slots} {σ : Store} {d : Option Tmp} {ty : TypeId} {pos : String} {af : Array Edge} {x : Operand}
theorem wc_drawnXp {id n t off : Nat} (i0 : Nat) (ds : List Nat) (hm : E.P.follows .mixedOrders = true) (hn : ops.size = n) (hs : S.get t = some (.pt i0 off)) (h : DX E ops ds n (Array.replicate n false) Q σ.length i0 S σ) : WP E (.region id ops true) Q S σ := by
  subst hn
  intro a w ρ hc
  obtain ⟨u, h1, h2⟩ := hc.slots t _ hs
  cases h2 with
  | @pt _ _ p hp =>
    exact wp_region_last hm (h a w.drew ρ w.drew p hc.drew hp (AgreeX.refl _ _) (fun id p hp _ => hc.sim.size id p hp) (Nat.le_refl _))
/-- A load of a struct of another object. -/
theorem dx_loadnB (i : Nat) {t : TypeId} {size bytes : Nat} {z : Value} {j off e : Nat} {cs cs' : List AV} [hQ : NP Q] (ho : ops[i]? = some ⟨d, .load t x, ty, pos, af, none⟩) (hd : okd E d = true) (hc : takeB .any ops ds listed (listed.setIfInBounds i true) i = true)
    (hx : S.ev x = some (.pt j off)) (ht : Ty E.P t true size bytes z) (ha : At σ j off size cs') (hj : j < n0) (h0 : Has σ i0 ⟨.own, e, cs, []⟩) (hne : j ≠ i0)
    (k : DX E ops ds fuel (listed.setIfInBounds i true) Q n0 i0 (S.put d (.agg cs')) σ) : DX E ops ds (fuel + 1) listed Q n0 i0 S σ := by
  intro a w ρ W0 p0 hw hp0 hag hn hle
  obtain ⟨o, o1, o2, o3, o4⟩ := ha.get
  have e1 := hw.ev hx
  generalize hv : a.eval x = v at e1
  cases e1 with
  | @pt _ _ p hp =>
    obtain ⟨us, h2, h3, _, h4⟩ := hw.sim.cut o1 hp o2 o3
    have hlt := hn _ _ hp hj
    have hbase := (Ob.live_own (hw.sim.obs i0 _ p0 h0.get hp0) (.inl rfl)).2
    have hb : p.blk ≠ p0.blk := by
      rcases o2 with hk | hk
      · have := (hw.sim.obs j o p o1 hp).ro_lt hk; omega
      · intro e; exact hne (hw.sim.inj j i0 o _ p p0 o1 h0.get (.inl hk) (.inl rfl) hp hp0 e)
    have hblk : ∀ w' : World, AgreeX p0.blk W0 w' → ∀ (q : Nat) (u : Value), us[q]? = some u → w'.cell? ⟨p.blk, p.off + off + q, none⟩ = some u := fun w' hw' q u hu => by
      have h5 := h4 q u hu
      have h6 : w.cell? ⟨p.blk, p.off + off + q, none⟩ = some u := by rw [← h5]
      rw [← h6]
      exact World.cell?_of_block (w := w) (w' := w') ((hw'.block _ hlt hb).trans (hag.block _ hlt hb).symm)
    refine take_ _ ho rfl hc (hQ_of hQ.no) (.inl ⟨by simp [Region.wanted], fun w' hw' => ?_⟩) hag rfl (k _ w ρ W0 p0 (hw.put hd (.agg h2)) hp0 hag hn hle)
    simp only [execOp, hv, Instr.loadAt, Instr.sureAddr, loadVar, Sem.run_bind, Sem.run_pure, Result.andThen_ok, ht.isAgg, if_true, ht.sizeOf, loadCells]
    rw [run_loadCellsFrom size 0 #[] us (by omega) (fun q u hu => by have := hblk w' hw' q u hu; rw [← this, Nat.zero_add])]
    simp
end
section
variable {P : Program} {fn : Func} {S : Slots} {σ : Store}
theorem res_ctt {c u v : Tmp} {t : TypeId} {id off size bytes : Nat} {z : Value} {cs : List AV} {x y : AV} (h : fn.results = #[.cell c t, .tmp u, .tmp v]) (hx : S.get c = some (.pt id off)) (ht : Ty P t true size bytes z) (ha : At σ id off size cs) (hu : S.get u = some x) (hv : S.get v = some y) : ResOK P fn S σ (.tup [.agg cs, x, y]) := by
  obtain ⟨_, h1, h2, h3, h4⟩ := ha.get
  intro E a w ρ hP hc
  obtain ⟨ad, q, e0, e1, e2⟩ := hc.readCell hP hx ht h1 h2 h3 h4
  refine ⟨.tuple #[q, a.tmps.getD u undef, a.tmps.getD v undef], ?_, .tup (.cons e2 (.cons (hc.getD hu) (.cons (hc.getD hv) .nil)))⟩
  simp [results, h, e0, e1]
end
end Go.Proofs.YthbodgnoadlbcaaGreatDoor.Asl

/- Several texts in one. -/
/- The reader: a graph. -/
namespace Go.Proofs.YthbodgnoadlbcaaGreatDoor.Asl
open Go.RowKit Go.Proofs.YthbodgnoadlbcaaGreatDoorW.PrintLast
set_option linter.unusedVariables false
set_option linter.unusedSimpArgs false
attribute [local irreducible] WP WL andThen inBlock noGoto atEnd ACall DA DL DX PO Hold nodeOk Tm.shape Tm.ok Tm.txt
set_option maxHeartbeats 4000000
set_option synthInstance.maxHeartbeats 400000
set_option synthInstance.maxSize 10000
theorem insM_len (m : Mv) (l : List Mv) : (insM m l).length ≤ l.length + 1 := by
  induction l with
  | nil => simp [insM]
  | cons x l ih =>
    unfold insM
    repeat' split
    all_goals simp
    all_goals omega
theorem tidyL_lenK (l : List Mv) : (tidyL l).length ≤ l.length := by
  have key : ∀ (l acc : List Mv), (l.foldl (fun out m => insM m out) acc).length ≤ acc.length + l.length := by
    intro l
    induction l with
    | nil => intro acc; simp
    | cons x l ih =>
      intro acc
      have h1 := ih (insM x acc)
      have h2 := insM_len x acc
      simp only [List.foldl_cons, List.length_cons]
      omega
  have := key l []
  simp only [List.length_nil, Nat.zero_add] at this
  exact this
/-- A graph in new objects. -/
class NG (σ : outParam Store) (σ' : Store) (u : AV) (us : outParam (List AV)) (g : outParam Gr) : Prop where
  to : ∀ σ'' : Store, (∀ (j : Nat) (o : Ob), σ.length ≤ j → σ'[j]? = some o → σ''[j]? = some o) → RW σ'' u us ∧ RRs σ'' us g
theorem NG.of {σ σ7 σ' : Store} {u : AV} {us : List AV} {g : Gr} (h : OW σ7 σ' u us) (k : ORs σ7 σ' us g) (hl : σ.length ≤ σ7.length) : NG σ σ' u us g :=
  ⟨fun σ'' kk => ⟨(h.keep fun j o hj _ ho => kk j o (by omega) ho).rw, (k.keep fun j o hj _ ho => kk j o (by omega) ho).rrs⟩⟩
theorem NG.nil (σ σ' : Store) : NG σ σ' nilS [] [] := ⟨fun _ _ => ⟨.nil _ _ _, ⟨rfl, fun j => by simpa using RW.nil _ _ _⟩⟩⟩
theorem NG.keep {σ σ' σ2 : Store} {u : AV} {us : List AV} {g : Gr} (h : NG σ σ' u us g) (k : ∀ (j : Nat) (o : Ob), σ.length ≤ j → σ'[j]? = some o → σ2[j]? = some o) : NG σ σ2 u us g :=
  ⟨fun σ'' kk => h.to σ'' fun j o hj ho => kk j o hj (k j o hj ho)⟩
theorem NG.down {σ σ1 σ' : Store} {u : AV} {us : List AV} {g : Gr} (h : NG σ1 σ' u us g) (hl : σ.length ≤ σ1.length) : NG σ σ' u us g :=
  ⟨fun σ'' kk => h.to σ'' fun j o hj ho => kk j o (by omega) ho⟩
instance instNGGrow {σ σ' σ2 : Store} {u : AV} {us : List AV} {g : Gr} [gr : Grow σ' σ2] [h : NG σ σ' u us g] : NG σ σ2 u us g := h.keep fun j o _ ho => gr.keep j o ho
instance instNGUpd {σ σ' σ2 : Store} {i : Nat} {o o' : Ob} {u : AV} {us : List AV} {g : Gr} [gr : Upd σ' i o' σ2] [k : Has σ i o] [h : NG σ σ' u us g] : NG σ σ2 u us g :=
  h.keep fun j o hj ho => by have := k.lt; rw [gr.eq, List.getElem?_set_ne (by omega)]; exact ho
instance instNGRW {σ σ' : Store} {u : AV} {us : List AV} {g : Gr} [h : NG σ σ' u us g] : RW σ' u us := (h.to σ' fun _ _ _ ho => ho).1
theorem NG.rrs {σ σ' : Store} {u : AV} {us : List AV} {g : Gr} (h : NG σ σ' u us g) : RRs σ' us g := (h.to σ' fun _ _ _ ho => ho).2
/-- A graph that is drawn. -/
def QG (σ : Store) : AV → Store → Prop := fun r σ' => ∃ (u : AV) (us : List AV) (g : Gr), r = .agg [u] ∧ NG σ σ' u us g ∧ ∀ l ∈ g, l.length ≤ 331776
end Go.Proofs.YthbodgnoadlbcaaGreatDoor.Asl

/- Several texts in one. -/
/- The reader: a graph, often of a term. -/
namespace Go.Proofs.YthbodgnoadlbcaaGreatDoor.Asl
open Go.RowKit Go.Proofs.YthbodgnoadlbcaaGreatDoorW.PrintLast
set_option linter.unusedVariables false
set_option linter.unusedSimpArgs false
attribute [local irreducible] WP WL andThen inBlock noGoto atEnd ACall DA DL DX PO Hold nodeOk Tm.shape Tm.ok Tm.txt graphO
set_option maxHeartbeats 4000000
set_option synthInstance.maxHeartbeats 400000
set_option synthInstance.maxSize 10000
theorem growN_bnd {ds : List Tm} (hd : defsOk ds = true) : ∀ (n : Nat) (x : List Tm × Gr) (g : Gr), StOk ds x.1 → (∀ l ∈ x.2, l.length ≤ 331776) → growN ds n x = some g → ∀ l ∈ g, l.length ≤ 331776 := by
  intro n
  induction n with
  | zero => intro x g _ hx e; simp only [growN, Option.some.injEq] at e; subst e; exact hx
  | succ n ih =>
    intro x g hs hx e
    unfold growN at e
    split at e
    · rename_i hlt
      cases h1 : grow1 ds x with
      | none => rw [h1] at e; cases e
      | some y =>
        rw [h1] at e
        have e' : growN ds n y = some g := e
        unfold grow1 at h1
        cases h2 : lookL x.1 ((x.1.getD x.2.length nilT).steps ds) with
        | none => rw [h2] at h1; cases h1
        | some z =>
          rw [h2] at h1
          simp only [Option.map_some, Option.some.injEq] at h1
          subst h1
          have hu : x.1.getD x.2.length nilT ∈ x.1 := by simp [List.getD_eq_getElem?_getD, hlt]
          obtain ⟨a1, a2, a3⟩ := hs.ok _ hu
          obtain ⟨b1, b2, b3⟩ := lookL_ok (c := 576) hs (Tm.steps_ok hd a1 a2 a3) h2
          refine ih _ g b1 ?_ e'
          intro l hl
          rcases List.mem_append.mp hl with hl | hl
          · exact hx l hl
          · simp only [List.mem_singleton] at hl
            subst hl
            have := tidyL_lenK z.2
            have := Tm.steps_len hd a3
            omega
    · simp only [Option.some.injEq] at e; subst e; exact hx
theorem graphO_bnd {ds : List Tm} {t : Tm} : ∀ l ∈ (graphO ds t).getD [], l.length ≤ 331776 := by
  unfold graphO
  split
  · rename_i h
    simp only [Bool.and_eq_true] at h
    obtain ⟨a1, a2, a3⟩ := fits_get h.2
    cases e : graphL ds t with
    | none => simp
    | some g =>
      intro l hl
      exact growN_bnd h.1 61 ([t], []) g ⟨by simp only [List.mem_singleton, forall_eq]; exact ⟨a1, a2, a3⟩, by simp⟩ (by simp) e l (by simpa using hl)
  · simp
section
variable {base : Nat}
/-- A graph that is drawn, alone. -/
def RetG1 (σ : Store) : AV → Store → Prop := fun r σ' => ∃ (u : AV) (us : List AV) (g : Gr), r = .agg [u] ∧ NG σ σ' u us g ∧ (∀ l ∈ g, l.length ≤ 331776) ∧ Grow σ σ'
end
end Go.Proofs.YthbodgnoadlbcaaGreatDoor.Asl

/- Two terms' graphs put together; whether they are alike: the program's way and the judge's. -/
namespace Go.Proofs.YthbodgnoadlbcaaGreatDoor.Asl
open Go.RowKit Go.Proofs.YthbodgnoadlbcaaGreatDoorW.PrintLast
set_option linter.unusedVariables false
set_option linter.unusedSimpArgs false
attribute [local irreducible] WP WL andThen inBlock noGoto atEnd ACall DA DL DX PO Hold nodeOk Tm.shape Tm.ok Tm.txt graphO
set_option maxHeartbeats 4000000
set_option synthInstance.maxHeartbeats 400000
set_option synthInstance.maxSize 10000
/-- The graphs of two terms put together, and where the second one begins. -/
noncomputable def pairO (ds : List Tm) (t u : Tm) : Option (Gr × Nat) := (graphO ds t).bind fun a => (graphO ds u).bind fun b => if a.length + b.length ≤ 60 then some (bothL a b, a.length) else none
/-- Whether two terms are alike, if their graphs are not too great. -/
noncomputable def alkO (ds : List Tm) (t u : Tm) : Option Bool := (pairO ds t u).map fun x => decide ((lastC x.1).getD 0 0 = (lastC x.1).getD x.2 0)
theorem pairO_none1 {ds : List Tm} {t u : Tm} (h : graphO ds t = none) : pairO ds t u = none := by simp [pairO, h]
theorem pairO_none2 {ds : List Tm} {t u : Tm} (h : graphO ds u = none) : pairO ds t u = none := by simp [pairO, h]
theorem pairO_both {ds : List Tm} {t u : Tm} {a b : Gr} (h1 : graphO ds t = some a) (h2 : graphO ds u = some b) : pairO ds t u = if a.length + b.length ≤ 60 then some (bothL a b, a.length) else none := by simp [pairO, h1, h2]
theorem graphO_gok {ds : List Tm} {t : Tm} {a : Gr} (h : graphO ds t = some a) : GOk a := by
  obtain ⟨S, hP, hl, hd, _⟩ := graphO_spec h
  exact hP.gok hd hl
theorem pairO_some {ds : List Tm} {t u : Tm} {g : Gr} {n : Nat} (h : pairO ds t u = some (g, n)) : ∃ a b, graphO ds t = some a ∧ graphO ds u = some b ∧ a.length + b.length ≤ 60 ∧ g = bothL a b ∧ n = a.length := by
  unfold pairO at h
  cases h1 : graphO ds t with
  | none => rw [h1] at h; cases h
  | some a =>
    cases h2 : graphO ds u with
    | none => rw [h1, h2] at h; cases h
    | some b =>
      rw [h1, h2] at h
      simp only [Option.bind_some] at h
      split at h
      · rename_i hl; cases h; exact ⟨a, b, rfl, rfl, hl, rfl, rfl⟩
      · cases h
theorem pairO_ok {ds : List Tm} {t u : Tm} {g : Gr} {n : Nat} (h : pairO ds t u = some (g, n)) : GOk g ∧ n < g.length ∧ ∀ k, (g.getD k []).length < 4294967296 := by
  obtain ⟨a, b, h1, h2, h60, rfl, rfl⟩ := pairO_some h
  have ga := graphO_gok h1
  have gb := graphO_gok h2
  have ba := graphO_bnd (ds := ds) (t := t)
  have bb := graphO_bnd (ds := ds) (t := u)
  rw [h1] at ba; rw [h2] at bb
  refine ⟨both_ok ga gb h60, by have := gb.pos; rw [both_len]; omega, fun k => ?_⟩
  refine Nat.lt_of_le_of_lt (getD_all (p := fun (l : List Mv) => l.length ≤ 331776) ?_ (by simp) k) (by decide)
  intro l hl
  rcases List.mem_append.mp hl with hl | hl
  · exact ba l hl
  · obtain ⟨l', hl', rfl⟩ := List.mem_map.mp hl
    rw [List.length_map]; exact bb l' hl'
section
variable {base : Nat}
/-- A graph, and a state of it, if there is one. -/
def RetPG (σ : Store) (o : Option (Gr × Nat)) : AV → Store → Prop := fun r σ' => ∃ (w : AV) (ws : List AV) (z : Int), r = .tup [.agg [w], I z, Bo o.isSome] ∧ (∀ x, o = some x → z = (x.2 : Int)) ∧ OW σ σ' w ws ∧ ORs σ σ' ws ((o.map Prod.fst).getD []) ∧ Grow σ σ'
theorem wc_callPG {E : Env} {ops : Array Oper} {l : List Oper} {Q : Exit → Slots → Store → Prop} {S : Slots} {σ : Store} {d : Option Tmp} {ty : TypeId} {pos : String} {af : Array Edge} {x : Operand} {args : Array Operand} {ats : Array TypeId} {f : FuncId} {rs caps : List AV} {o : Option (Gr × Nat)} (hf : S.ev x = some (.fn f caps)) (hc : Callable E.P f) (hargs : evs S args.toList = some rs)
    (h : ACall E.P E.base f (rs ++ caps) σ (fun _ => False) (RetPG σ o)) (hd : okd E d = true) (k : ∀ (w : AV) (ws : List AV) (z : Int) σ', One w → (∀ x, o = some x → z = (x.2 : Int)) → RW σ' w ws → RRs σ' ws ((o.map Prod.fst).getD []) → Grow σ σ' → WL E ops l Q (S.put d (.tup [.agg [w], I z, Bo o.isSome])) σ') :
    WL E ops (⟨d, .call ⟨.value x, args, ats⟩, ty, pos, af, none⟩ :: l) Q S σ :=
  wc_call hf hc hargs h hd fun r' σ' h => by obtain ⟨w, ws, z, e, h1, h2, h3, h4⟩ := h; subst e; exact k w ws z σ' h2.one h1 h2.rw h3.rrs h4
theorem pc_lenRow0 {α : Type} [Enc α] {E : Env} {S : Slots} {σ σ₀ : Store} {d : Option Tmp} {ty : TypeId} {pos : String} {af : Array Edge} {g : Option (Nat × Bool)} {n0 : Nat} {x : Operand} {t e : TypeId} {s : AV} {xs : List α} (hx : S.ev x = some s) (h : RW σ₀ s xs) (ht : Un E.P t (.slice e)) :
    PO E S σ n0 ⟨d, .call ⟨.builtin .len, #[x], #[t]⟩, ty, pos, af, g⟩ (I xs.length) := by
  rcases h.rep with ⟨rfl, a, c, rfl⟩ | ⟨id, off, o, rfl, _⟩
  · exact po_len_lit' hx ht.eq
  · exact po_len (ri := 0) hx ht.eq
theorem ret_pg_none {σ σ' : Store} {o : Option (Gr × Nat)} (h : o = none) (l : LeS σ σ') : RetPG σ o (.tup [.agg [nilS], I 0, Bo false]) σ' := by
  subst h; exact ⟨nilS, [], 0, rfl, fun x e => (by cases e), OW.nilS _ _, ORs.nil _ _, l.grow⟩
theorem both_opt {a b : Gr} {o : Option Gr} (ga : GOk a) (gb : GOk b) (h : optB (a.length + b.length ≤ 60) (bothL a b) = o) : optB (GOk a ∧ GOk b ∧ a.length + b.length ≤ 60) (bothL a b) = o := by
  rw [← h]
  by_cases h60 : a.length + b.length ≤ 60
  · rw [optB_yes h60, optB_yes ⟨ga, gb, h60⟩]
  · rw [optB_no h60, optB_no (fun h => h60 h.2.2)]
theorem c_bothOf (t u : Tm) (ds : List Tm) (σ : Store) (s s' d : AV) [hs : RTs σ s t.ps] [hs' : RTs σ s' u.ps] [hd : RTs σ d ds] : ACall Tryz.prog base F_impl_bothOf [.agg [I t.op, I t.n, s], .agg [I u.op, I u.n, s'], d] σ (fun _ => False) (RetPG σ (pairO ds t u)) := by
  have := hs.one
  have := hs'.one
  have := hd.one
  obtain ⟨o1, h1⟩ : ∃ o, graphO ds t = o := ⟨_, rfl⟩
  obtain ⟨o2, h2⟩ : ∃ o, graphO ds u = o := ⟨_, rfl⟩
  refine acall3 fun_impl_bothOf rfl tmps_impl_bothOf rfl fun N B w₀ ρ₀ => ?_
  cases o1 with
  | none =>
    cases o2 with
    | none =>
      repeat' (first
        | (refine wc_callGO rfl inferInstance rfl (h1 ▸ c_GraphOf t ds _ _ _) rfl ?_; intro _ _ _ _ _ _ _)
        | (refine wc_callGO rfl inferInstance rfl (h2 ▸ c_GraphOf u ds _ _ _) rfl ?_; intro _ _ _ _ _ _ _)
        | refine at_ret (res_ctt rfl rfl inferInstance (at_has (cs := [_]) (.inl rfl) rfl rfl) rfl rfl) ?_
        | refine wl_pop rfl (pc_build0 (cs := [_]) inferInstance inferInstance rfl) ?_
        | refine wp_seqA ?_
        | refine wp_region_seq ?_
        | refine thru_seq_next ?_
        | refine thru_seq_ret ?_
        | refine wp_retA ?_
        | refine wl_nil ?_
        | refine wl_pop rfl (po_move rfl) ?_
        | refine wl_pop rfl (po_assign rfl) ?_
        | refine wc_loadn rfl inferInstance (at_has (cs := [_, _, _]) (.inl rfl) rfl rfl) rfl ?_
        | refine wl_pop rfl (po_not rfl) ?_
        | (refine wc_storeA rfl rfl inferInstance inferInstance rfl inferInstance (Nat.le_of_ble_eq_true rfl) (.inr (may_new _)) ?_; intro _ _)
        | refine wl_pop rfl (po_extract rfl rfl) ?_
        | (refine wc_boxA rfl inferInstance rfl ?_; intro _ _ _ _ _)
        | (refine wc_allocA (cs := [_]) inferInstance rfl inferInstance rfl ?_; intro _ _ _ _ _)
        | refine wl_pop rfl (po_pick rfl rfl) ?_
        | refine wc_guardF_false rfl rfl rfl rfl ?_
        | refine wp_condT rfl ?_
        | fail)
      exact ret_pg_none (pairO_none1 h1) inferInstance
    | some b =>
      repeat' (first
        | (refine wc_callGO rfl inferInstance rfl (h1 ▸ c_GraphOf t ds _ _ _) rfl ?_; intro _ _ _ _ _ _ _)
        | (refine wc_callGO rfl inferInstance rfl (h2 ▸ c_GraphOf u ds _ _ _) rfl ?_; intro _ _ _ _ _ _ _)
        | refine at_ret (res_ctt rfl rfl inferInstance (at_has (cs := [_]) (.inl rfl) rfl rfl) rfl rfl) ?_
        | refine wl_pop rfl (pc_build0 (cs := [_]) inferInstance inferInstance rfl) ?_
        | refine wp_seqA ?_
        | refine wp_region_seq ?_
        | refine thru_seq_next ?_
        | refine thru_seq_ret ?_
        | refine wp_retA ?_
        | refine wl_nil ?_
        | refine wl_pop rfl (po_move rfl) ?_
        | refine wl_pop rfl (po_assign rfl) ?_
        | refine wc_loadn rfl inferInstance (at_has (cs := [_, _, _]) (.inl rfl) rfl rfl) rfl ?_
        | refine wl_pop rfl (po_not rfl) ?_
        | (refine wc_storeA rfl rfl inferInstance inferInstance rfl inferInstance (Nat.le_of_ble_eq_true rfl) (.inr (may_new _)) ?_; intro _ _)
        | refine wl_pop rfl (po_extract rfl rfl) ?_
        | (refine wc_boxA rfl inferInstance rfl ?_; intro _ _ _ _ _)
        | (refine wc_allocA (cs := [_]) inferInstance rfl inferInstance rfl ?_; intro _ _ _ _ _)
        | refine wl_pop rfl (po_pick rfl rfl) ?_
        | refine wc_guardF_false rfl rfl rfl rfl ?_
        | refine wp_condT rfl ?_
        | fail)
      exact ret_pg_none (pairO_none1 h1) inferInstance
  | some a =>
    cases o2 with
    | none =>
      repeat' (first
        | (refine wc_callGO rfl inferInstance rfl (h1 ▸ c_GraphOf t ds _ _ _) rfl ?_; intro _ _ _ _ _ _ _)
        | (refine wc_callGO rfl inferInstance rfl (h2 ▸ c_GraphOf u ds _ _ _) rfl ?_; intro _ _ _ _ _ _ _)
        | refine at_ret (res_ctt rfl rfl inferInstance (at_has (cs := [_]) (.inl rfl) rfl rfl) rfl rfl) ?_
        | refine wl_pop rfl (pc_build0 (cs := [_]) inferInstance inferInstance rfl) ?_
        | refine wp_seqA ?_
        | refine wp_region_seq ?_
        | refine thru_seq_next ?_
        | refine thru_seq_ret ?_
        | refine wp_retA ?_
        | refine wl_nil ?_
        | refine wl_pop rfl (po_move rfl) ?_
        | refine wl_pop rfl (po_assign rfl) ?_
        | refine wc_loadn rfl inferInstance (at_has (cs := [_, _, _]) (.inl rfl) rfl rfl) rfl ?_
        | refine wl_pop rfl (po_not rfl) ?_
        | (refine wc_storeA rfl rfl inferInstance inferInstance rfl inferInstance (Nat.le_of_ble_eq_true rfl) (.inr (may_new _)) ?_; intro _ _)
        | refine wl_pop rfl (po_extract rfl rfl) ?_
        | (refine wc_boxA rfl inferInstance rfl ?_; intro _ _ _ _ _)
        | (refine wc_allocA (cs := [_]) inferInstance rfl inferInstance rfl ?_; intro _ _ _ _ _)
        | refine wl_pop rfl (po_pick rfl rfl) ?_
        | refine wc_guardT_false rfl rfl rfl ?_
        | refine wp_condT rfl ?_
        | fail)
      exact ret_pg_none (pairO_none2 h2) inferInstance
    | some b =>
      obtain ⟨o3, h3⟩ : ∃ o, optB (a.length + b.length ≤ 60) (bothL a b) = o := ⟨_, rfl⟩
      have hbo := both_opt (graphO_gok h1) (graphO_gok h2) h3
      have hga := graphO_gok h1
      repeat' (first
        | (refine wc_callGO rfl inferInstance rfl (h1 ▸ c_GraphOf t ds _ _ _) rfl ?_; intro _ _ _ _ _ _ _)
        | (refine wc_callGO rfl inferInstance rfl (h2 ▸ c_GraphOf u ds _ _ _) rfl ?_; intro _ _ _ _ _ _ _)
        | refine wc_holdR 5 ?_
        | refine wp_seqA ?_
        | refine wp_region_seq ?_
        | refine thru_seq_next ?_
        | refine wp_skipA ?_
        | refine wl_nil ?_
        | refine wl_pop rfl (po_move rfl) ?_
        | refine wl_pop rfl (po_assign rfl) ?_
        | refine wc_loadn rfl inferInstance (at_has (cs := [_, _, _]) (.inl rfl) rfl rfl) rfl ?_
        | refine wl_pop rfl (po_not rfl) ?_
        | (refine wc_storeA rfl rfl inferInstance inferInstance rfl inferInstance (Nat.le_of_ble_eq_true rfl) (.inr (may_new _)) ?_; intro _ _)
        | refine wl_pop rfl (po_extract rfl rfl) ?_
        | (refine wc_boxA rfl inferInstance rfl ?_; intro _ _ _ _ _)
        | (refine wc_allocA (cs := [_]) inferInstance rfl inferInstance rfl ?_; intro _ _ _ _ _)
        | refine wl_pop rfl (po_pick rfl rfl) ?_
        | refine wc_guardT_false rfl rfl rfl ?_
        | refine wp_condF rfl ?_
        | fail)
      rename_i i1 σ1 g1 n1 h1' i2 σ2 g2 n2 h2' i3 σ3 g3 n3 h3' u1 v1 σ4 ou1 ow1 or1 gg1 i4 σ5 g5 n5 h5 σ6 u6 u2 v2 σ7 ou2 ow2 or2 gg2 i5 σ8 g8 n8 h8 σ9 u9
      have rwa : RW σ9 u1 v1 := inferInstance
      have rra : RRs σ9 v1 a := inferInstance
      have rwb : RW σ9 u2 v2 := inferInstance
      have rrb : RRs σ9 v2 b := inferInstance
      have hal := rra.len
      have hab := rwa.bound
      refine hold_go ?_
      repeat' (first
        | (refine wc_callGO rfl inferInstance rfl (hbo ▸ c_GraphBoth (a := a) (b := b) _ _ _) rfl ?_; intro _ _ _ _ _ _ _)
        | refine wc_holdR 6 ?_
        | refine wc_loadn rfl inferInstance (at_has (cs := [_]) (.inl rfl) rfl rfl) rfl ?_
        | refine wp_seqA ?_
        | refine wp_region_seq ?_
        | refine thru_seq_next ?_
        | refine wl_nil ?_
        | refine wl_pop rfl (po_move rfl) ?_
        | refine wl_pop rfl (po_assign rfl) ?_
        | (refine wc_storeA rfl rfl inferInstance inferInstance rfl inferInstance (Nat.le_of_ble_eq_true rfl) (.inr (may_new _)) ?_; intro _ _)
        | refine wl_pop rfl (po_extract rfl rfl) ?_
        | (refine wc_allocA (cs := [_]) inferInstance rfl inferInstance rfl ?_; intro _ _ _ _ _)
        | fail)
      rename_i w ws σ10 ow' oww orw g10 ig σ11 g11 n11 h11 σ12 u12
      have hg12 : Has σ12 ig ⟨.own, 1, [w], []⟩ := instHasUpd (g := u12)
      have h412 : Has σ12 i4 ⟨.own, 1, [u1], []⟩ := inferInstance
      have h312 : Has σ12 i3 ⟨.own, 1, [nilS], []⟩ := inferInstance
      have rwa12 : RW σ12 u1 v1 := inferInstance
      have l12 : LeS σ σ12 := inferInstance
      have l10 : LeS σ10 σ12 := inferInstance
      have owf : OW σ9 σ12 w ws := inferInstance
      have orf : ORs σ9 σ12 ws (o3.getD []) := inferInstance
      have y1 := n3.le
      have y2 := h312.lt
      have y3 := n5.le
      have y4 := n11.le
      have y5 : σ2.length ≤ i3 := n3.le
      have y6 : σ.length ≤ σ2.length := (inferInstance : LeS σ σ2).len
      have y7 : i3 < σ3.length := h3'.lt
      have y8 : σ3.length ≤ σ4.length := (inferInstance : LeS σ3 σ4).len
      have y9 : σ3.length ≤ σ10.length := (inferInstance : LeS σ3 σ10).len
      have y10 : σ9.length ≤ σ10.length := (inferInstance : LeS σ9 σ10).len
      have y11 : σ.length ≤ σ9.length := (inferInstance : LeS σ σ9).len
      have y12 : i3 < σ9.length := Nat.lt_of_lt_of_le y7 (inferInstance : LeS σ3 σ9).len
      clear u12 h11 u9 u6
      refine hold_go ?_
      refine wc_drawnXp (t := 6) i3 [6, 7] mixed_ rfl rfl ?_
      refine dx_loadnB 0 rfl rfl (by kernel_rfl) rfl inferInstance (at_has (h := hg12) (cs := [_]) (.inl rfl) rfl rfl) hg12.lt h312 (by omega) ?_
      refine dx_pure 1 rfl rfl (by kernel_rfl) (po_fieldAddr rfl inferInstance) ?_
      refine dx_load1 2 rfl rfl (by kernel_rfl) rfl inferInstance (at_has (h := h412) (.inl rfl) rfl rfl) h412.lt h312 (by omega) ?_
      refine dx_pure 3 rfl rfl (by kernel_rfl) (pc_lenRow0 rfl rwa12 inferInstance) ?_
      refine dx_pure 4 rfl rfl (by kernel_rfl) (po_move rfl) ?_
      refine dx_one 5 rfl (by kernel_rfl) h312 (.inr (by omega)) ?_
      intro N' B' w' r' may' hmay
      refine wc_storeA rfl rfl inferInstance h312 rfl inferInstance (Nat.le_of_ble_eq_true rfl) (hmay _ (.inl rfl)) ?_
      intro σ13 u13
      have h313 : Has σ13 i3 ⟨.own, 1, [w], []⟩ := instHasUpd (g := u13)
      refine wl_nil ⟨rfl, by have := Upd.len u13; omega, ?_⟩
      refine dx_last 6 rfl (by decide) (by kernel_rfl) ?_
      refine wl_pop rfl (po_assign rfl) ?_
      refine wl_nil (dl_in ?_)
      refine dl_last 7 rfl (by decide) (by kernel_rfl) ?_
      refine wl_pop rfl (po_assign rfl) ?_
      refine wl_nil (dl_in ?_)
      refine dl_done (by kernel_rfl) ?_
      repeat' (first
        | refine at_ret (res_ctt rfl rfl inferInstance (at_has (cs := [_]) (.inl rfl) rfl rfl) rfl rfl) ?_
        | refine thru_seq_next ?_
        | refine wp_retA ?_
        | fail)
      have kz : ∀ (j : Nat) (o : Ob), σ9.length ≤ j → σ12[j]? = some o → σ13[j]? = some o := fun j o hj ho => by rw [u13.eq, List.getElem?_set_ne (by omega)]; exact ho
      refine ⟨w, ws, (v1.length : Int), ?_, ?_, (owf.keep fun j o hj _ ho => kz j o hj ho).down y11, ?_, ⟨fun q o ho => by rw [u13.eq, List.getElem?_set_ne (by have := Has.lt ⟨ho⟩; omega)]; exact l12.keep q o ho⟩⟩
      · rw [pairO_both h1 h2]
        by_cases h60 : a.length + b.length ≤ 60
        · rw [if_pos h60]; rw [optB_yes h60] at h3; rw [← h3]; rfl
        · rw [if_neg h60]; rw [optB_no h60] at h3; rw [← h3]; rfl
      · rw [pairO_both h1 h2]
        intro x hx
        split at hx
        · cases hx; simp only; omega
        · cases hx
      · have e : ((pairO ds t u).map Prod.fst).getD [] = o3.getD [] := by
          rw [pairO_both h1 h2, ← h3]
          by_cases h60 : a.length + b.length ≤ 60
          · rw [if_pos h60, optB_yes h60]; rfl
          · rw [if_neg h60, optB_no h60]; rfl
        rw [e]
        exact (orf.keep fun j o hj _ ho => kz j o hj ho).down y11
theorem c_l4Pair (t u : Tm) (ds : List Tm) (σ : Store) (s s' d : AV) [hs : RTs σ s t.ps] [hs' : RTs σ s' u.ps] [hd : RTs σ d ds] : ACall Tryz.prog base F_spec_l4Pair [.agg [I t.op, I t.n, s], .agg [I u.op, I u.n, s'], d] σ (fun _ => False) (RetPG σ (pairO ds t u)) := by
  have := hs.one
  have := hs'.one
  have := hd.one
  obtain ⟨o1, h1⟩ : ∃ o, graphO ds t = o := ⟨_, rfl⟩
  obtain ⟨o2, h2⟩ : ∃ o, graphO ds u = o := ⟨_, rfl⟩
  refine acall3 fun_spec_l4Pair rfl tmps_spec_l4Pair rfl fun N B w₀ ρ₀ => ?_
  cases o1 with
  | none =>
    cases o2 with
    | none =>
      repeat' (first
        | (refine wc_callGO rfl inferInstance rfl (h1 ▸ c_sGraphOf t ds _ _ _) rfl ?_; intro _ _ _ _ _ _ _)
        | (refine wc_callGO rfl inferInstance rfl (h2 ▸ c_sGraphOf u ds _ _ _) rfl ?_; intro _ _ _ _ _ _ _)
        | refine at_ret (res_ctt rfl rfl inferInstance (at_has (cs := [_]) (.inl rfl) rfl rfl) rfl rfl) ?_
        | refine wl_pop rfl (pc_build0 (cs := [_]) inferInstance inferInstance rfl) ?_
        | refine wp_seqA ?_
        | refine wp_region_seq ?_
        | refine thru_seq_next ?_
        | refine thru_seq_ret ?_
        | refine wp_retA ?_
        | refine wl_nil ?_
        | refine wl_pop rfl (po_move rfl) ?_
        | refine wl_pop rfl (po_assign rfl) ?_
        | refine wc_loadn rfl inferInstance (at_has (cs := [_, _, _]) (.inl rfl) rfl rfl) rfl ?_
        | refine wl_pop rfl (po_not rfl) ?_
        | (refine wc_storeA rfl rfl inferInstance inferInstance rfl inferInstance (Nat.le_of_ble_eq_true rfl) (.inr (may_new _)) ?_; intro _ _)
        | refine wl_pop rfl (po_extract rfl rfl) ?_
        | (refine wc_boxA rfl inferInstance rfl ?_; intro _ _ _ _ _)
        | (refine wc_allocA (cs := [_]) inferInstance rfl inferInstance rfl ?_; intro _ _ _ _ _)
        | refine wl_pop rfl (po_pick rfl rfl) ?_
        | refine wc_guardF_false rfl rfl rfl rfl ?_
        | refine wp_condT rfl ?_
        | fail)
      exact ret_pg_none (pairO_none1 h1) inferInstance
    | some b =>
      repeat' (first
        | (refine wc_callGO rfl inferInstance rfl (h1 ▸ c_sGraphOf t ds _ _ _) rfl ?_; intro _ _ _ _ _ _ _)
        | (refine wc_callGO rfl inferInstance rfl (h2 ▸ c_sGraphOf u ds _ _ _) rfl ?_; intro _ _ _ _ _ _ _)
        | refine at_ret (res_ctt rfl rfl inferInstance (at_has (cs := [_]) (.inl rfl) rfl rfl) rfl rfl) ?_
        | refine wl_pop rfl (pc_build0 (cs := [_]) inferInstance inferInstance rfl) ?_
        | refine wp_seqA ?_
        | refine wp_region_seq ?_
        | refine thru_seq_next ?_
        | refine thru_seq_ret ?_
        | refine wp_retA ?_
        | refine wl_nil ?_
        | refine wl_pop rfl (po_move rfl) ?_
        | refine wl_pop rfl (po_assign rfl) ?_
        | refine wc_loadn rfl inferInstance (at_has (cs := [_, _, _]) (.inl rfl) rfl rfl) rfl ?_
        | refine wl_pop rfl (po_not rfl) ?_
        | (refine wc_storeA rfl rfl inferInstance inferInstance rfl inferInstance (Nat.le_of_ble_eq_true rfl) (.inr (may_new _)) ?_; intro _ _)
        | refine wl_pop rfl (po_extract rfl rfl) ?_
        | (refine wc_boxA rfl inferInstance rfl ?_; intro _ _ _ _ _)
        | (refine wc_allocA (cs := [_]) inferInstance rfl inferInstance rfl ?_; intro _ _ _ _ _)
        | refine wl_pop rfl (po_pick rfl rfl) ?_
        | refine wc_guardF_false rfl rfl rfl rfl ?_
        | refine wp_condT rfl ?_
        | fail)
      exact ret_pg_none (pairO_none1 h1) inferInstance
  | some a =>
    cases o2 with
    | none =>
      repeat' (first
        | (refine wc_callGO rfl inferInstance rfl (h1 ▸ c_sGraphOf t ds _ _ _) rfl ?_; intro _ _ _ _ _ _ _)
        | (refine wc_callGO rfl inferInstance rfl (h2 ▸ c_sGraphOf u ds _ _ _) rfl ?_; intro _ _ _ _ _ _ _)
        | refine at_ret (res_ctt rfl rfl inferInstance (at_has (cs := [_]) (.inl rfl) rfl rfl) rfl rfl) ?_
        | refine wl_pop rfl (pc_build0 (cs := [_]) inferInstance inferInstance rfl) ?_
        | refine wp_seqA ?_
        | refine wp_region_seq ?_
        | refine thru_seq_next ?_
        | refine thru_seq_ret ?_
        | refine wp_retA ?_
        | refine wl_nil ?_
        | refine wl_pop rfl (po_move rfl) ?_
        | refine wl_pop rfl (po_assign rfl) ?_
        | refine wc_loadn rfl inferInstance (at_has (cs := [_, _, _]) (.inl rfl) rfl rfl) rfl ?_
        | refine wl_pop rfl (po_not rfl) ?_
        | (refine wc_storeA rfl rfl inferInstance inferInstance rfl inferInstance (Nat.le_of_ble_eq_true rfl) (.inr (may_new _)) ?_; intro _ _)
        | refine wl_pop rfl (po_extract rfl rfl) ?_
        | (refine wc_boxA rfl inferInstance rfl ?_; intro _ _ _ _ _)
        | (refine wc_allocA (cs := [_]) inferInstance rfl inferInstance rfl ?_; intro _ _ _ _ _)
        | refine wl_pop rfl (po_pick rfl rfl) ?_
        | refine wc_guardT_false rfl rfl rfl ?_
        | refine wp_condT rfl ?_
        | fail)
      exact ret_pg_none (pairO_none2 h2) inferInstance
    | some b =>
      obtain ⟨o3, h3⟩ : ∃ o, optB (a.length + b.length ≤ 60) (bothL a b) = o := ⟨_, rfl⟩
      have hbo := both_opt (graphO_gok h1) (graphO_gok h2) h3
      have hga := graphO_gok h1
      repeat' (first
        | (refine wc_callGO rfl inferInstance rfl (h1 ▸ c_sGraphOf t ds _ _ _) rfl ?_; intro _ _ _ _ _ _ _)
        | (refine wc_callGO rfl inferInstance rfl (h2 ▸ c_sGraphOf u ds _ _ _) rfl ?_; intro _ _ _ _ _ _ _)
        | refine wc_holdR 5 ?_
        | refine wp_seqA ?_
        | refine wp_region_seq ?_
        | refine thru_seq_next ?_
        | refine wp_skipA ?_
        | refine wl_nil ?_
        | refine wl_pop rfl (po_move rfl) ?_
        | refine wl_pop rfl (po_assign rfl) ?_
        | refine wc_loadn rfl inferInstance (at_has (cs := [_, _, _]) (.inl rfl) rfl rfl) rfl ?_
        | refine wl_pop rfl (po_not rfl) ?_
        | (refine wc_storeA rfl rfl inferInstance inferInstance rfl inferInstance (Nat.le_of_ble_eq_true rfl) (.inr (may_new _)) ?_; intro _ _)
        | refine wl_pop rfl (po_extract rfl rfl) ?_
        | (refine wc_boxA rfl inferInstance rfl ?_; intro _ _ _ _ _)
        | (refine wc_allocA (cs := [_]) inferInstance rfl inferInstance rfl ?_; intro _ _ _ _ _)
        | refine wl_pop rfl (po_pick rfl rfl) ?_
        | refine wc_guardT_false rfl rfl rfl ?_
        | refine wp_condF rfl ?_
        | fail)
      rename_i i1 σ1 g1 n1 h1' i2 σ2 g2 n2 h2' i3 σ3 g3 n3 h3' u1 v1 σ4 ou1 ow1 or1 gg1 i4 σ5 g5 n5 h5 σ6 u6 u2 v2 σ7 ou2 ow2 or2 gg2 i5 σ8 g8 n8 h8 σ9 u9
      have rwa : RW σ9 u1 v1 := inferInstance
      have rra : RRs σ9 v1 a := inferInstance
      have rwb : RW σ9 u2 v2 := inferInstance
      have rrb : RRs σ9 v2 b := inferInstance
      have hal := rra.len
      have hab := rwa.bound
      refine hold_go ?_
      repeat' (first
        | (refine wc_callGO rfl inferInstance rfl (hbo ▸ c_sGraphBoth (a := a) (b := b) _ _ _) rfl ?_; intro _ _ _ _ _ _ _)
        | refine wc_holdR 6 ?_
        | refine wc_loadn rfl inferInstance (at_has (cs := [_]) (.inl rfl) rfl rfl) rfl ?_
        | refine wp_seqA ?_
        | refine wp_region_seq ?_
        | refine thru_seq_next ?_
        | refine wl_nil ?_
        | refine wl_pop rfl (po_move rfl) ?_
        | refine wl_pop rfl (po_assign rfl) ?_
        | (refine wc_storeA rfl rfl inferInstance inferInstance rfl inferInstance (Nat.le_of_ble_eq_true rfl) (.inr (may_new _)) ?_; intro _ _)
        | refine wl_pop rfl (po_extract rfl rfl) ?_
        | (refine wc_allocA (cs := [_]) inferInstance rfl inferInstance rfl ?_; intro _ _ _ _ _)
        | fail)
      rename_i w ws σ10 ow' oww orw g10 ig σ11 g11 n11 h11 σ12 u12
      have hg12 : Has σ12 ig ⟨.own, 1, [w], []⟩ := instHasUpd (g := u12)
      have h412 : Has σ12 i4 ⟨.own, 1, [u1], []⟩ := inferInstance
      have h312 : Has σ12 i3 ⟨.own, 1, [nilS], []⟩ := inferInstance
      have rwa12 : RW σ12 u1 v1 := inferInstance
      have l12 : LeS σ σ12 := inferInstance
      have l10 : LeS σ10 σ12 := inferInstance
      have owf : OW σ9 σ12 w ws := inferInstance
      have orf : ORs σ9 σ12 ws (o3.getD []) := inferInstance
      have y1 := n3.le
      have y2 := h312.lt
      have y3 := n5.le
      have y4 := n11.le
      have y5 : σ2.length ≤ i3 := n3.le
      have y6 : σ.length ≤ σ2.length := (inferInstance : LeS σ σ2).len
      have y7 : i3 < σ3.length := h3'.lt
      have y8 : σ3.length ≤ σ4.length := (inferInstance : LeS σ3 σ4).len
      have y9 : σ3.length ≤ σ10.length := (inferInstance : LeS σ3 σ10).len
      have y10 : σ9.length ≤ σ10.length := (inferInstance : LeS σ9 σ10).len
      have y11 : σ.length ≤ σ9.length := (inferInstance : LeS σ σ9).len
      have y12 : i3 < σ9.length := Nat.lt_of_lt_of_le y7 (inferInstance : LeS σ3 σ9).len
      clear u12 h11 u9 u6
      refine hold_go ?_
      refine wc_drawnXp (t := 6) i3 [6, 7] mixed_ rfl rfl ?_
      refine dx_loadnB 0 rfl rfl (by kernel_rfl) rfl inferInstance (at_has (h := hg12) (cs := [_]) (.inl rfl) rfl rfl) hg12.lt h312 (by omega) ?_
      refine dx_pure 1 rfl rfl (by kernel_rfl) (po_fieldAddr rfl inferInstance) ?_
      refine dx_load1 2 rfl rfl (by kernel_rfl) rfl inferInstance (at_has (h := h412) (.inl rfl) rfl rfl) h412.lt h312 (by omega) ?_
      refine dx_pure 3 rfl rfl (by kernel_rfl) (pc_lenRow0 rfl rwa12 inferInstance) ?_
      refine dx_pure 4 rfl rfl (by kernel_rfl) (po_move rfl) ?_
      refine dx_one 5 rfl (by kernel_rfl) h312 (.inr (by omega)) ?_
      intro N' B' w' r' may' hmay
      refine wc_storeA rfl rfl inferInstance h312 rfl inferInstance (Nat.le_of_ble_eq_true rfl) (hmay _ (.inl rfl)) ?_
      intro σ13 u13
      have h313 : Has σ13 i3 ⟨.own, 1, [w], []⟩ := instHasUpd (g := u13)
      refine wl_nil ⟨rfl, by have := Upd.len u13; omega, ?_⟩
      refine dx_last 6 rfl (by decide) (by kernel_rfl) ?_
      refine wl_pop rfl (po_assign rfl) ?_
      refine wl_nil (dl_in ?_)
      refine dl_last 7 rfl (by decide) (by kernel_rfl) ?_
      refine wl_pop rfl (po_assign rfl) ?_
      refine wl_nil (dl_in ?_)
      refine dl_done (by kernel_rfl) ?_
      repeat' (first
        | refine at_ret (res_ctt rfl rfl inferInstance (at_has (cs := [_]) (.inl rfl) rfl rfl) rfl rfl) ?_
        | refine thru_seq_next ?_
        | refine wp_retA ?_
        | fail)
      have kz : ∀ (j : Nat) (o : Ob), σ9.length ≤ j → σ12[j]? = some o → σ13[j]? = some o := fun j o hj ho => by rw [u13.eq, List.getElem?_set_ne (by omega)]; exact ho
      refine ⟨w, ws, (v1.length : Int), ?_, ?_, (owf.keep fun j o hj _ ho => kz j o hj ho).down y11, ?_, ⟨fun q o ho => by rw [u13.eq, List.getElem?_set_ne (by have := Has.lt ⟨ho⟩; omega)]; exact l12.keep q o ho⟩⟩
      · rw [pairO_both h1 h2]
        by_cases h60 : a.length + b.length ≤ 60
        · rw [if_pos h60]; rw [optB_yes h60] at h3; rw [← h3]; rfl
        · rw [if_neg h60]; rw [optB_no h60] at h3; rw [← h3]; rfl
      · rw [pairO_both h1 h2]
        intro x hx
        split at hx
        · cases hx; simp only; omega
        · cases hx
      · have e : ((pairO ds t u).map Prod.fst).getD [] = o3.getD [] := by
          rw [pairO_both h1 h2, ← h3]
          by_cases h60 : a.length + b.length ≤ 60
          · rw [if_pos h60, optB_yes h60]; rfl
          · rw [if_neg h60, optB_no h60]; rfl
        rw [e]
        exact (orf.keep fun j o hj _ ho => kz j o hj ho).down y11
end
end Go.Proofs.YthbodgnoadlbcaaGreatDoor.Asl
