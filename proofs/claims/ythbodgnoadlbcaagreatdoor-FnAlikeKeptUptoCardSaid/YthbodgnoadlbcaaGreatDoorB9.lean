/- Regions that draw and write a variable of the caller's before they read others. -/
import Derived.Test.YthbodgnoadlbcaaGreatDoorBB
namespace Go.Proofs.YthbodgnoadlbcaaGreatDoor.Asl
open Go.RowKit Go.Proofs.YthbodgnoadlbcaaGreatDoorW.PrintLast
set_option linter.unusedVariables false
set_option linter.unusedSimpArgs false
section
variable {E : Env} {ops : Array Oper} {ds : List Nat} {fuel n0 i0 : Nat} {listed : Array Bool} {Q : Exit → Slots → Store → Prop} {S : Slots} {σ : Store} {d : Option Tmp} {ty : TypeId} {pos : String} {af : Array Edge} {x : Operand}
theorem wc_drawnXp {id n t off : Nat} (i0 : Nat) (ds : List Nat) (hm : E.P.follows .mixedOrders = true) (hn : ops.size = n) (hs : S.get t = some (.pt i0 off)) (h : DX E ops ds n (Array.replicate n false) Q σ.length i0 S σ) : WP E (.region id ops true) Q S σ := by
  subst hn
  intro a w ρ hc
  obtain ⟨u, h1, h2⟩ := hc.slots t _ hs
  cases h2 with
  | @pt _ _ p hp =>
    exact wp_region_last hm (h a w.drew ρ w.drew p hc.drew hp (AgreeX.refl _ _) (fun id p hp _ => hc.sim.size id p hp) (Nat.le_refl _))
theorem dx_loadnB (i : Nat) {t : TypeId} {size bytes : Nat} {z : Value} {j off e : Nat} {cs cs' : List AV} [hQ : NP Q] (ho : ops[i]? = some ⟨d, .load t x, ty, pos, af, none⟩) (hd : okd E d = true) (hc : takeB .any ops ds listed (listed.setIfInBounds i true) i = true)
    (hx : S.ev x = some (.pt j off)) (ht : Ty E.P t true size bytes z) (ha : At σ j off size cs') (hj : j < n0) (h0 : Has σ i0 ⟨.own, e, cs, []⟩) (hne : j ≠ i0)
    (k : DX E ops ds fuel (listed.setIfInBounds i true) Q n0 i0 (S.put d (.agg cs')) σ) : DX E ops ds (fuel + 1) listed Q n0 i0 S σ := by
  intro a w ρ W0 p0 hw hp0 hag hn hle
  obtain ⟨o, o1, o2, o3, o4⟩ := ha.get
  have e1 := hw.ev hx
  generalize hv : a.eval x = v at e1
  cases e1 with
  | @pt _ _ p hp =>
    obtain ⟨us, h2, h3, _, h4⟩ := hw.sim.cut o1 hp o2 o3
    have hlt := hn _ _ hp hj
    have hbase := (Ob.live_own (hw.sim.obs i0 _ p0 h0.get hp0) (.inl rfl)).2
    have hb : p.blk ≠ p0.blk := by
      rcases o2 with hk | hk
      · have := (hw.sim.obs j o p o1 hp).ro_lt hk; omega
      · intro e; exact hne (hw.sim.inj j i0 o _ p p0 o1 h0.get (.inl hk) (.inl rfl) hp hp0 e)
    have hblk : ∀ w' : World, AgreeX p0.blk W0 w' → ∀ (q : Nat) (u : Value), us[q]? = some u → w'.cell? ⟨p.blk, p.off + off + q, none⟩ = some u := fun w' hw' q u hu => by
      have h5 := h4 q u hu
      have h6 : w.cell? ⟨p.blk, p.off + off + q, none⟩ = some u := by rw [← h5]
      rw [← h6]
      exact World.cell?_of_block (w := w) (w' := w') ((hw'.block _ hlt hb).trans (hag.block _ hlt hb).symm)
    refine take_ _ ho rfl hc (hQ_of hQ.no) (.inl ⟨by simp [Region.wanted], fun w' hw' => ?_⟩) hag rfl (k _ w ρ W0 p0 (hw.put hd (.agg h2)) hp0 hag hn hle)
    simp only [execOp, hv, Instr.loadAt, Instr.sureAddr, loadVar, Sem.run_bind, Sem.run_pure, Result.andThen_ok, ht.isAgg, if_true, ht.sizeOf, loadCells]
    rw [run_loadCellsFrom size 0 #[] us (by omega) (fun q u hu => by have := hblk w' hw' q u hu; rw [← this, Nat.zero_add])]
    simp
end
section
variable {P : Program} {fn : Func} {S : Slots} {σ : Store}
theorem res_ctt {c u v : Tmp} {t : TypeId} {id off size bytes : Nat} {z : Value} {cs : List AV} {x y : AV} (h : fn.results = #[.cell c t, .tmp u, .tmp v]) (hx : S.get c = some (.pt id off)) (ht : Ty P t true size bytes z) (ha : At σ id off size cs) (hu : S.get u = some x) (hv : S.get v = some y) : ResOK P fn S σ (.tup [.agg cs, x, y]) := by
  obtain ⟨_, h1, h2, h3, h4⟩ := ha.get
  intro E a w ρ hP hc
  obtain ⟨ad, q, e0, e1, e2⟩ := hc.readCell hP hx ht h1 h2 h3 h4
  refine ⟨.tuple #[q, a.tmps.getD u undef, a.tmps.getD v undef], ?_, .tup (.cons e2 (.cons (hc.getD hu) (.cons (hc.getD hv) .nil)))⟩
  simp [results, h, e0, e1]
theorem res_cct {c c' u : Tmp} {t t' : TypeId} {id off size bytes id' off' size' bytes' : Nat} {z z' : Value} {cs cs' : List AV} {y : AV} (h : fn.results = #[.cell c t, .cell c' t', .tmp u]) (hx : S.get c = some (.pt id off)) (ht : Ty P t true size bytes z) (ha : At σ id off size cs) (hx' : S.get c' = some (.pt id' off')) (ht' : Ty P t' true size' bytes' z') (ha' : At σ id' off' size' cs') (hy : S.get u = some y) : ResOK P fn S σ (.tup [.agg cs, .agg cs', y]) := by
  obtain ⟨_, h1, h2, h3, h4⟩ := ha.get
  obtain ⟨_, k1, k2, k3, k4⟩ := ha'.get
  intro E a w ρ hP hc
  obtain ⟨ad, q, e0, e1, e2⟩ := hc.readCell hP hx ht h1 h2 h3 h4
  obtain ⟨ad', q', f0, f1, f2⟩ := hc.readCell hP hx' ht' k1 k2 k3 k4
  refine ⟨.tuple #[q, q', a.tmps.getD u undef], ?_, .tup (.cons e2 (.cons f2 (.cons (hc.getD hy) .nil)))⟩
  simp [results, h, e0, e1, f0, f1]
end
end Go.Proofs.YthbodgnoadlbcaaGreatDoor.Asl
