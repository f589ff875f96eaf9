/- Regions that draw, with a call that writes one object which no other operation of the region reads. -/
import Derived.Test.YtemhpkfijoodkaaB4
namespace Go.Proofs.Ytemhpkfijoodkaa.Asl
open Go.RowKit Go.Proofs.YtemhpkfijoodkaaW.PrintLast
set_option linter.unusedVariables false
set_option linter.unusedSimpArgs false

/-- All blocks but one agree. -/
structure AgreeX (b : Nat) (w w' : World) : Prop where
  size : w.heap.size ≤ w'.heap.size
  block : ∀ k, k < w.heap.size → k ≠ b → w'.heap[k]? = w.heap[k]?
theorem AgreeX.refl (b : Nat) (w : World) : AgreeX b w w := ⟨Nat.le_refl _, fun _ _ _ => rfl⟩
theorem AgreeX.trans {b : Nat} {u v w : World} (h : AgreeX b u v) (k : AgreeX b v w) : AgreeX b u w :=
  ⟨Nat.le_trans h.size k.size, fun i hi hb => (k.block i (Nat.lt_of_lt_of_le hi h.size) hb).trans (h.block i hi hb)⟩
/-- As DA, but object i0 may be written by what is not among the last. -/
def DX (E : Env) (ops : Array Oper) (ds : List Nat) (fuel : Nat) (listed : Array Bool) (Q : Exit → Slots → Store → Prop) (n0 i0 : Nat) (S : Slots) (σ : Store) : Prop :=
  ∀ a w ρ W0 p0, Ctx E S σ a w ρ → ρ i0 = some p0 → AgreeX p0.blk W0 w → (∀ id p, ρ id = some p → id < n0 → p.blk < W0.heap.size) → n0 ≤ σ.length → wpAnyLast E.P .any ops (lift E Q) (fun w' => AgreeX p0.blk W0 w') ds fuel listed a w

section
variable {E : Env} {ops : Array Oper} {ds : List Nat} {fuel n0 i0 : Nat} {listed : Array Bool} {Q : Exit → Slots → Store → Prop} {S : Slots} {σ : Store} {d : Option Tmp} {ty : TypeId} {pos : String} {af : Array Edge} {x : Operand}

theorem wc_drawnX {id n t off len : Nat} (i0 : Nat) (ds : List Nat) (hm : E.P.follows .mixedOrders = true) (hn : ops.size = n) (hs : S.get t = some (.sl i0 off len)) (h : DX E ops ds n (Array.replicate n false) Q σ.length i0 S σ) : WP E (.region id ops true) Q S σ := by
  subst hn
  intro a w ρ hc
  obtain ⟨u, h1, h2⟩ := hc.slots t _ hs
  cases h2 with
  | @sl _ _ _ cap p hp hle hroom =>
    exact wp_region_last hm (h a w.drew ρ w.drew p hc.drew hp (AgreeX.refl _ _) (fun id p hp _ => hc.sim.size id p hp) (Nat.le_refl _))
theorem dx_pure (i : Nat) {op : Op} {r : AV} [hQ : NP Q] (ho : ops[i]? = some ⟨d, op, ty, pos, af, none⟩) (hd : okd E d = true) (hc : anyB .any ops listed (listed.setIfInBounds i true) i = true) (h : PO E S σ 0 ⟨d, op, ty, pos, af, none⟩ r)
    (k : DX E ops ds fuel (listed.setIfInBounds i true) Q n0 i0 (S.put d r) σ) : DX E ops ds (fuel + 1) listed Q n0 i0 S σ := by
  intro a w ρ W0 p0 hw hp hag hn hle
  have key : ∀ w' : World, Agree { w with heap := #[] } w' := fun w' => ⟨Nat.zero_le _, fun k hk => absurd hk (Nat.not_lt_zero k)⟩
  obtain ⟨u, h1, h2⟩ := h a w ρ { w with heap := #[] } hw (key w) (fun id p _ hi => absurd hi (Nat.not_lt_zero id))
  exact pure_ _ ho rfl hc (hQ_of hQ.no) (.inl ⟨by simp [Region.wanted], fun w' => h2 w' (key w')⟩) rfl (k _ w ρ W0 p0 (hw.put hd h1) hp hag hn hle)
/-- A load of one cell of another object. -/
theorem dx_load1 (i : Nat) {t : TypeId} {size bytes : Nat} {z : Value} {j off e : Nat} {cs : List AV} {c : AV} [hQ : NP Q] (ho : ops[i]? = some ⟨d, .load t x, ty, pos, af, none⟩) (hd : okd E d = true) (hc : takeB .any ops ds listed (listed.setIfInBounds i true) i = true)
    (hx : S.ev x = some (.pt j off)) (ht : Ty E.P t false size bytes z) (ha : At σ j off 1 [c]) (hj : j < n0) (h0 : Has σ i0 ⟨.own, e, cs, []⟩) (hne : j ≠ i0)
    (k : DX E ops ds fuel (listed.setIfInBounds i true) Q n0 i0 (S.put d c) σ) : DX E ops ds (fuel + 1) listed Q n0 i0 S σ := by
  intro a w ρ W0 p0 hw hp0 hag hn hle
  obtain ⟨o, o1, o2, o3, _⟩ := ha.get
  have hcell : o.cells[off]? = some c := by
    unfold cut at o3
    have : ((o.cells.drop off).take 1)[0]? = some c := by rw [o3]; rfl
    rw [List.getElem?_take] at this
    simpa using this
  have e1 := hw.ev hx
  generalize hv : a.eval x = v at e1
  cases e1 with
  | @pt _ _ p hp =>
    obtain ⟨_, u, hu, hr⟩ := hw.sim.cell o1 hp o2 hcell
    have hlt := hn _ _ hp hj
    have hbase := (Ob.live_own (hw.sim.obs i0 _ p0 h0.get hp0) (.inl rfl)).2
    have hb : p.blk ≠ p0.blk := by
      rcases o2 with hk | hk
      · have := (hw.sim.obs j o p o1 hp).ro_lt hk; omega
      · intro e; exact hne (hw.sim.inj j i0 o _ p p0 o1 h0.get (.inl hk) (.inl rfl) hp hp0 e)
    have hblk : ∀ w' : World, AgreeX p0.blk W0 w' → w'.cell? ⟨p.blk, p.off + off, none⟩ = some u := fun w' hw' => by
      rw [← hu]
      exact World.cell?_of_block (w := w) (w' := w') ((hw'.block _ hlt hb).trans (hag.block _ hlt hb).symm)
    refine take_ _ ho rfl hc (hQ_of hQ.no) (.inl ⟨by simp [Region.wanted], fun w' hw' => ?_⟩) hag rfl (k _ w ρ W0 p0 (hw.put hd hr) hp0 hag hn hle)
    simp only [execOp, hv, Instr.loadAt, Instr.sureAddr, loadVar, Sem.run_bind, Sem.run_pure, Result.andThen_ok, ht.isAgg, run_load_cell (hblk w' hw'), if_neg, Bool.false_eq_true, if_false]
/-- The one operation that can come up: it may write that object, and new ones. -/
theorem dx_step (i : Nat) {o : Oper} {e : Nat} {cs : List AV} (ho : ops[i]? = some o) (hr : Region.ready .any ops listed = [i]) (h0 : Has σ i0 ⟨.own, e, cs, []⟩) (hm : E.may i0)
    (h : ∀ E' : Env, E'.P = E.P → E'.base = E.base → E'.n = E.n → E'.n₀ = σ.length → (∀ id, id = i0 ∨ σ.length ≤ id → E'.may id) → WL E' ops [o] (fun e S' σ' => e = .normal ∧ σ.length ≤ σ'.length ∧ DX E ops ds fuel (listed.setIfInBounds i true) Q n0 i0 S' σ') S σ) : DX E ops ds (fuel + 1) listed Q n0 i0 S σ := by
  intro a w ρ W0 p0 hw hp0 hag hn hle
  refine wpAnyLast_all hr (by simp) fun j hj => ?_
  obtain rfl : j = i := by simpa using hj
  have hown := (Ob.live_own (hw.sim.obs i0 _ p0 h0.get hp0) (.inl rfl)).1
  let E' : Env := ⟨E.P, E.base, E.n, fun id => id = i0 ∨ σ.length ≤ id, w.heap.size, fun b => b = p0.blk, w, ρ, σ.length⟩
  have hw' : Ctx E' S σ a w ρ := by
    refine { defers := hw.defers, size := hw.size, slots := hw.slots, sim := hw.sim, fr := Fr.refl _ _ _, le := Le.refl _, old := fun _ _ h _ => h, may := ?_, fresh := ?_, n₀_le := Nat.le_refl _, N_le := Nat.le_refl _, later := fun _ h => .inr h }
    · intro id p hp _ hm
      have := hw.sim.dom id p hp
      rcases hm with rfl | hm
      · rw [hp0] at hp; cases hp; exact .inl rfl
      · omega
    · intro id p hp hm
      have := hw.sim.dom id p hp
      simp only [E'] at hm; omega
  refine wpOp_of_L (Q' := lift E' (fun e S' σ' => e = .normal ∧ σ.length ≤ σ'.length ∧ DX E ops ds fuel (listed.setIfInBounds j true) Q n0 i0 S' σ')) ho (h E' rfl rfl rfl rfl (fun _ h => h) a w ρ hw') ?_ ?_
  · rintro a' w' ⟨S', σ', ρ', ⟨_, hlen, hD⟩, hC⟩
    have hfr := hC.fr
    have hag' : AgreeX p0.blk w w' := ⟨hfr.size, fun k hk hb => hfr.block k hk hb⟩
    refine ⟨fun _ _ => hag.trans hag', ?_⟩
    have hCE : Ctx E S' σ' a' w' ρ' := by
      have := hw.called (σ' := σ') (w' := w') (ρ' := ρ') (T := fun q => q = i0) (fun q hq => by subst hq; exact hm) hC.sim hC.le hlen hC.old (fun id p hp hi => by
        obtain ⟨k1, k2⟩ := hC.fresh id p hp hi
        exact ⟨k1, k2.imp (fun k => ⟨i0, p0, rfl, hp0, k.symm⟩) (fun k => k)⟩) (fun q p hq hp => by subst hq; rw [hp0] at hp; cases hp; exact hown) ⟨hfr.os, hfr.tape, hfr.output, hfr.size, fun k hk hB => hfr.block k hk (fun f => hB ⟨i0, p0, rfl, hp0, hown, f.symm⟩)⟩
      exact { this with defers := hC.defers, size := hC.size, slots := hC.slots }
    refine hD a' w' ρ' W0 p0 hCE (hC.le _ _ hp0) (hag.trans hag') ?_ (Nat.le_trans hle hlen)
    intro id p hp hi
    exact hn id p (hC.old id p hp (Nat.lt_of_lt_of_le hi hle)) hi
  · rintro e a' w' ⟨S', σ', ρ', ⟨h1, _⟩, _⟩ h2
    exact absurd h1 h2
/-- The one operation that can come up: it writes new objects alone. -/
theorem dx_stepN (i : Nat) {o : Oper} (ho : ops[i]? = some o) (hr : Region.ready .any ops listed = [i])
    (h : ∀ E' : Env, E'.P = E.P → E'.base = E.base → E'.n = E.n → E'.n₀ = σ.length → (∀ id, σ.length ≤ id → E'.may id) → WL E' ops [o] (fun e S' σ' => e = .normal ∧ σ.length ≤ σ'.length ∧ DX E ops ds fuel (listed.setIfInBounds i true) Q n0 i0 S' σ') S σ) : DX E ops ds (fuel + 1) listed Q n0 i0 S σ := by
  intro a w ρ W0 p0 hw hp0 hag hn hle
  refine wpAnyLast_all hr (by simp) fun j hj => ?_
  obtain rfl : j = i := by simpa using hj
  let E' : Env := ⟨E.P, E.base, E.n, fun id => σ.length ≤ id, w.heap.size, fun _ => False, w, ρ, σ.length⟩
  have hw' : Ctx E' S σ a w ρ := by
    refine { defers := hw.defers, size := hw.size, slots := hw.slots, sim := hw.sim, fr := Fr.refl _ _ _, le := Le.refl _, old := fun _ _ h _ => h, may := ?_, fresh := ?_, n₀_le := Nat.le_refl _, N_le := Nat.le_refl _, later := fun _ h => h }
    · intro id p hp _ hm
      have := hw.sim.dom id p hp
      simp only [E'] at hm; omega
    · intro id p hp hm
      have := hw.sim.dom id p hp
      simp only [E'] at hm; omega
  refine wpOp_of_L (Q' := lift E' (fun e S' σ' => e = .normal ∧ σ.length ≤ σ'.length ∧ DX E ops ds fuel (listed.setIfInBounds j true) Q n0 i0 S' σ')) ho (h E' rfl rfl rfl rfl (fun _ h => h) a w ρ hw') ?_ ?_
  · rintro a' w' ⟨S', σ', ρ', ⟨_, hlen, hD⟩, hC⟩
    have hfr := hC.fr
    have hag' : AgreeX p0.blk w w' := ⟨hfr.size, fun k hk hb => hfr.block k hk (fun f => f)⟩
    refine ⟨fun _ _ => hag.trans hag', ?_⟩
    have hCE : Ctx E S' σ' a' w' ρ' := by
      have := hw.called (σ' := σ') (w' := w') (ρ' := ρ') (T := fun _ => False) (fun _ f => f.elim) hC.sim hC.le hlen hC.old (fun id p hp hi => by
        obtain ⟨k1, k2⟩ := hC.fresh id p hp hi
        exact ⟨k1, .inr (k2.resolve_left (fun f => f))⟩) (fun _ _ f => f.elim) ⟨hfr.os, hfr.tape, hfr.output, hfr.size, fun k hk _ => hfr.block k hk (fun f => f)⟩
      exact { this with defers := hC.defers, size := hC.size, slots := hC.slots }
    refine hD a' w' ρ' W0 p0 hCE (hC.le _ _ hp0) (hag.trans hag') ?_ (Nat.le_trans hle hlen)
    intro id p hp hi
    exact hn id p (hC.old id p hp (Nat.lt_of_lt_of_le hi hle)) hi
  · rintro e a' w' ⟨S', σ', ρ', ⟨h1, _⟩, _⟩ h2
    exact absurd h1 h2
end
section
variable {P : Program} {base n : Nat} {may : Nat → Prop} {M : Nat} {B : Nat → Prop} {w₀ : World} {ρ₀ : Pl} {n₀ : Nat} {ops : Array Oper} {ds : List Nat} {fuel n0 i0 : Nat} {listed : Array Bool} {Q : Exit → Slots → Store → Prop} {S : Slots} {σ : Store}
theorem dx_one (i : Nat) {o : Oper} {e : Nat} {cs : List AV} (ho : ops[i]? = some o) (hr : Region.ready .any ops listed = [i]) (h0 : Has σ i0 ⟨.own, e, cs, []⟩) (hm : may i0)
    (h : ∀ (N' : Nat) (B' : Nat → Prop) (w₀' : World) (ρ₀' : Pl) (may' : Nat → Prop), (∀ id, id = i0 ∨ σ.length ≤ id → may' id) → WL ⟨P, base, n, may', N', B', w₀', ρ₀', σ.length⟩ ops [o] (fun e S' σ' => e = .normal ∧ σ.length ≤ σ'.length ∧ DX ⟨P, base, n, may, M, B, w₀, ρ₀, n₀⟩ ops ds fuel (listed.setIfInBounds i true) Q n0 i0 S' σ') S σ) : DX ⟨P, base, n, may, M, B, w₀, ρ₀, n₀⟩ ops ds (fuel + 1) listed Q n0 i0 S σ := by
  refine dx_step i ho hr h0 hm ?_
  intro E' hP hbase hn hn0 hmay
  obtain ⟨P', base', n', may', N', B', w₀', ρ₀', n₀'⟩ := E'
  simp only at hP hbase hn hn0 hmay
  subst hP hbase hn hn0
  exact h _ _ _ _ _ hmay
theorem dx_new (i : Nat) {o : Oper} (ho : ops[i]? = some o) (hr : Region.ready .any ops listed = [i])
    (h : ∀ (N' : Nat) (B' : Nat → Prop) (w₀' : World) (ρ₀' : Pl) (may' : Nat → Prop), (∀ id, σ.length ≤ id → may' id) → WL ⟨P, base, n, may', N', B', w₀', ρ₀', σ.length⟩ ops [o] (fun e S' σ' => e = .normal ∧ σ.length ≤ σ'.length ∧ DX ⟨P, base, n, may, M, B, w₀, ρ₀, n₀⟩ ops ds fuel (listed.setIfInBounds i true) Q n0 i0 S' σ') S σ) : DX ⟨P, base, n, may, M, B, w₀, ρ₀, n₀⟩ ops ds (fuel + 1) listed Q n0 i0 S σ := by
  refine dx_stepN i ho hr ?_
  intro E' hP hbase hn hn0 hmay
  obtain ⟨P', base', n', may', N', B', w₀', ρ₀', n₀'⟩ := E'
  simp only at hP hbase hn hn0 hmay
  subst hP hbase hn hn0
  exact h _ _ _ _ _ hmay
end
section
variable {E : Env} {ops : Array Oper} {ds : List Nat} {fuel n0 i0 : Nat} {listed : Array Bool} {Q : Exit → Slots → Store → Prop} {S : Slots} {σ : Store} {d : Option Tmp} {ty : TypeId} {pos : String} {af : Array Edge} {x : Operand}
theorem DL.dx (h : DL E ops ds fuel listed Q S σ) : DX E ops ds fuel listed Q n0 i0 S σ := fun a w ρ W0 p0 hw _ _ _ _ => h a w ρ _ hw
theorem dx_last (i : Nat) {g : Option (Nat × Bool)} {op : Op} (ho : ops[i]? = some ⟨d, op, ty, pos, af, g⟩) (hi : i ∈ ds) (hr : Region.ready .any ops listed = [i])
    (h : WL E ops [⟨d, op, ty, pos, af, g⟩] (fun e S' σ' => e = .normal ∧ DL E ops ds fuel (listed.setIfInBounds i true) Q S' σ') S σ) : DX E ops ds (fuel + 1) listed Q n0 i0 S σ := (dl_step i _ ho hi hr rfl h).dx
end
theorem ACall.len {P : Program} {base : Nat} {f : FuncId} {args : List AV} {σ : Store} {T : Nat → Prop} {Q : AV → Store → Prop} (h : ACall P base f args σ T Q) : ACall P base f args σ T (fun r σ' => Q r σ' ∧ σ.length ≤ σ'.length) := by
  intro w ρ vs h1 h2
  refine (h w ρ vs h1 h2).mono ?_
  rintro e w' ⟨r, v, σ', ρ', he, hr, hQ, hs, hl, hlen, rest⟩
  exact ⟨r, v, σ', ρ', he, hr, ⟨hQ, hlen⟩, hs, hl, hlen, rest⟩
end Go.Proofs.Ytemhpkfijoodkaa.Asl
