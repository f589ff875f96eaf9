/- Regions that draw and write a variable of the caller's before they read others. -/
import Derived.Test.YthbodgnoadlbcaaDoorBB
namespace Go.Proofs.YthbodgnoadlbcaaDoor.Asl
open Go.RowKit Go.Proofs.YthbodgnoadlbcaaDoorW.PrintLast
set_option linter.unusedVariables false
set_option linter.unusedSimpArgs false
section
variable {E : Env} {ops : Array Oper} {ds : List Nat} {fuel n0 i0 : Nat} {listed : Array Bool} {Q : Exit → Slots → Store → Prop} {S : Slots} {σ : Store} {d : Option Tmp} {ty : TypeId} {pos : String} {af : Array Edge} {x : Operand}
theorem wc_drawnXp {id n t off : Nat} (i0 : Nat) (ds : List Nat) (hm : E.P.follows .mixedOrders = true) (hn : ops.size = n) (hs : S.get t = some (.pt i0 off)) (h : DX E ops ds n (Array.replicate n false) Q σ.length i0 S σ) : WP E (.region id ops true) Q S σ := by
  subst hn
  intro a w ρ hc
  obtain ⟨u, h1, h2⟩ := hc.slots t _ hs
  cases h2 with
  | @pt _ _ p hp =>
    exact wp_region_last hm (h a w.drew ρ w.drew p hc.drew hp (AgreeX.refl _ _) (fun id p hp _ => hc.sim.size id p hp) (Nat.le_refl _))
end
section
variable {P : Program} {fn : Func} {S : Slots} {σ : Store}
theorem res_ctt {c u v : Tmp} {t : TypeId} {id off size bytes : Nat} {z : Value} {cs : List AV} {x y : AV} (h : fn.results = #[.cell c t, .tmp u, .tmp v]) (hx : S.get c = some (.pt id off)) (ht : Ty P t true size bytes z) (ha : At σ id off size cs) (hu : S.get u = some x) (hv : S.get v = some y) : ResOK P fn S σ (.tup [.agg cs, x, y]) := by
  obtain ⟨_, h1, h2, h3, h4⟩ := ha.get
  intro E a w ρ hP hc
  obtain ⟨ad, q, e0, e1, e2⟩ := hc.readCell hP hx ht h1 h2 h3 h4
  refine ⟨.tuple #[q, a.tmps.getD u undef, a.tmps.getD v undef], ?_, .tup (.cons e2 (.cons (hc.getD hu) (.cons (hc.getD hv) .nil)))⟩
  simp [results, h, e0, e1]
end
section
variable {E : Env} {ops : Array Oper} {ds : List Nat} {fuel n0 i0 : Nat} {listed : Array Bool} {Q : Exit → Slots → Store → Prop} {S : Slots} {σ : Store}
/-- Two operations can come up: either may write that object, and new ones. -/
theorem dx_two0B (i j : Nat) {o o' : Oper} {e : Nat} {cs : List AV} (ho : ops[i]? = some o) (ho' : ops[j]? = some o') (hr : Region.ready .any ops listed = [i, j]) (h0 : Has σ i0 ⟨.own, e, cs, []⟩) (hm : E.may i0)
    (h : ∀ E' : Env, E'.P = E.P → E'.base = E.base → E'.n = E.n → E'.n₀ = σ.length → (∀ id, id = i0 ∨ σ.length ≤ id → E'.may id) → WL E' ops [o] (fun e S' σ' => e = .normal ∧ σ.length ≤ σ'.length ∧ DX E ops ds fuel (listed.setIfInBounds i true) Q n0 i0 S' σ') S σ)
    (h' : ∀ E' : Env, E'.P = E.P → E'.base = E.base → E'.n = E.n → E'.n₀ = σ.length → (∀ id, id = i0 ∨ σ.length ≤ id → E'.may id) → WL E' ops [o'] (fun e S' σ' => e = .normal ∧ σ.length ≤ σ'.length ∧ DX E ops ds fuel (listed.setIfInBounds j true) Q n0 i0 S' σ') S σ) : DX E ops ds (fuel + 1) listed Q n0 i0 S σ := by
  intro a w ρ W0 p0 hw hp0 hag hn hle
  refine wpAnyLast_all hr (by simp) fun q hq => ?_
  obtain ⟨oq, ho, h⟩ : ∃ oq, ops[q]? = some oq ∧ ∀ E' : Env, E'.P = E.P → E'.base = E.base → E'.n = E.n → E'.n₀ = σ.length → (∀ id, id = i0 ∨ σ.length ≤ id → E'.may id) → WL E' ops [oq] (fun e S' σ' => e = .normal ∧ σ.length ≤ σ'.length ∧ DX E ops ds fuel (listed.setIfInBounds q true) Q n0 i0 S' σ') S σ := by
    rcases (by simpa using hq : q = i ∨ q = j) with rfl | rfl
    · exact ⟨_, ho, h⟩
    · exact ⟨_, ho', h'⟩
  have hown := (Ob.live_own (hw.sim.obs i0 _ p0 h0.get hp0) (.inl rfl)).1
  let E' : Env := ⟨E.P, E.base, E.n, fun id => id = i0 ∨ σ.length ≤ id, w.heap.size, fun b => b = p0.blk, w, ρ, σ.length⟩
  have hw' : Ctx E' S σ a w ρ := by
    refine { defers := hw.defers, size := hw.size, slots := hw.slots, sim := hw.sim, fr := Fr.refl _ _ _, le := Le.refl _, old := fun _ _ h _ => h, may := ?_, fresh := ?_, n₀_le := Nat.le_refl _, N_le := Nat.le_refl _, later := fun _ h => .inr h }
    · intro id p hp _ hm
      have := hw.sim.dom id p hp
      rcases hm with rfl | hm
      · rw [hp0] at hp; cases hp; exact .inl rfl
      · omega
    · intro id p hp hm
      have := hw.sim.dom id p hp
      simp only [E'] at hm; omega
  refine wpOp_of_L (Q' := lift E' (fun e S' σ' => e = .normal ∧ σ.length ≤ σ'.length ∧ DX E ops ds fuel (listed.setIfInBounds q true) Q n0 i0 S' σ')) ho (h E' rfl rfl rfl rfl (fun _ h => h) a w ρ hw') ?_ ?_
  · rintro a' w' ⟨S', σ', ρ', ⟨_, hlen, hD⟩, hC⟩
    have hfr := hC.fr
    have hag' : AgreeX p0.blk w w' := ⟨hfr.size, fun k hk hb => hfr.block k hk hb⟩
    refine ⟨fun _ _ => hag.trans hag', ?_⟩
    have hCE : Ctx E S' σ' a' w' ρ' := by
      have := hw.called (σ' := σ') (w' := w') (ρ' := ρ') (T := fun q => q = i0) (fun q hq => by subst hq; exact hm) hC.sim hC.le hlen hC.old (fun id p hp hi => by
        obtain ⟨k1, k2⟩ := hC.fresh id p hp hi
        exact ⟨k1, k2.imp (fun k => ⟨i0, p0, rfl, hp0, k.symm⟩) (fun k => k)⟩) (fun q p hq hp => by subst hq; rw [hp0] at hp; cases hp; exact hown) ⟨hfr.os, hfr.tape, hfr.output, hfr.size, fun k hk hB => hfr.block k hk (fun f => hB ⟨i0, p0, rfl, hp0, hown, f.symm⟩)⟩
      exact { this with defers := hC.defers, size := hC.size, slots := hC.slots }
    refine hD a' w' ρ' W0 p0 hCE (hC.le _ _ hp0) (hag.trans hag') ?_ (Nat.le_trans hle hlen)
    intro id p hp hi
    exact hn id p (hC.old id p hp (Nat.lt_of_lt_of_le hi hle)) hi
  · rintro e a' w' ⟨S', σ', ρ', ⟨h1, _⟩, _⟩ h2
    exact absurd h1 h2
end
theorem dx_twoB {P : Program} {base n : Nat} {may : Nat → Prop} {M : Nat} {B : Nat → Prop} {w₀ : World} {ρ₀ : Pl} {n₀ : Nat} {ops : Array Oper} {ds : List Nat} {fuel n0 i0 : Nat} {listed : Array Bool} {Q : Exit → Slots → Store → Prop} {S : Slots} {σ : Store} (i j : Nat) {o o' : Oper} {e : Nat} {cs : List AV} (ho : ops[i]? = some o) (ho' : ops[j]? = some o') (hr : Region.ready .any ops listed = [i, j]) (h0 : Has σ i0 ⟨.own, e, cs, []⟩) (hm : may i0)
    (h : ∀ (N' : Nat) (B' : Nat → Prop) (w₀' : World) (ρ₀' : Pl) (may' : Nat → Prop), (∀ id, id = i0 ∨ σ.length ≤ id → may' id) → WL ⟨P, base, n, may', N', B', w₀', ρ₀', σ.length⟩ ops [o] (fun e S' σ' => e = .normal ∧ σ.length ≤ σ'.length ∧ DX ⟨P, base, n, may, M, B, w₀, ρ₀, n₀⟩ ops ds fuel (listed.setIfInBounds i true) Q n0 i0 S' σ') S σ)
    (h' : ∀ (N' : Nat) (B' : Nat → Prop) (w₀' : World) (ρ₀' : Pl) (may' : Nat → Prop), (∀ id, id = i0 ∨ σ.length ≤ id → may' id) → WL ⟨P, base, n, may', N', B', w₀', ρ₀', σ.length⟩ ops [o'] (fun e S' σ' => e = .normal ∧ σ.length ≤ σ'.length ∧ DX ⟨P, base, n, may, M, B, w₀, ρ₀, n₀⟩ ops ds fuel (listed.setIfInBounds j true) Q n0 i0 S' σ') S σ) : DX ⟨P, base, n, may, M, B, w₀, ρ₀, n₀⟩ ops ds (fuel + 1) listed Q n0 i0 S σ := by
  refine dx_two0B i j ho ho' hr h0 hm ?_ ?_
  · intro E' hP hbase hn hn0 hmay
    obtain ⟨P', base', n', may', N', B', w₀', ρ₀', n₀'⟩ := E'
    simp only at hP hbase hn hn0 hmay
    subst hP hbase hn hn0
    exact h _ _ _ _ _ hmay
  · intro E' hP hbase hn hn0 hmay
    obtain ⟨P', base', n', may', N', B', w₀', ρ₀', n₀'⟩ := E'
    simp only at hP hbase hn hn0 hmay
    subst hP hbase hn hn0
    exact h' _ _ _ _ _ hmay
section
variable {E : Env} {ops : Array Oper} {ds : List Nat} {fuel : Nat} {listed : Array Bool} {Q : Exit → Slots → Store → Prop} {S : Slots} {σ : Store} {d d' : Option Tmp} {ty ty' : TypeId} {pos pos' : String} {af af' : Array Edge}
/-- Behind the first write: an operation that only computes is taken first. -/
theorem dl_pure (i : Nat) {op : Op} {r : AV} [hQ : NP Q] (ho : ops[i]? = some ⟨d, op, ty, pos, af, none⟩) (hd : okd E d = true) (hc : anyB .any ops listed (listed.setIfInBounds i true) i = true) (h : PO E S σ 0 ⟨d, op, ty, pos, af, none⟩ r)
    (k : DL E ops ds fuel (listed.setIfInBounds i true) Q (S.put d r) σ) : DL E ops ds (fuel + 1) listed Q S σ := by
  intro a w ρ I hw
  have key : ∀ w' : World, Agree { w with heap := #[] } w' := fun w' => ⟨Nat.zero_le _, fun k hk => absurd hk (Nat.not_lt_zero k)⟩
  obtain ⟨u, h1, h2⟩ := h a w ρ { w with heap := #[] } hw (key w) (fun id p _ hi => absurd hi (Nat.not_lt_zero id))
  exact pure_ _ ho rfl hc (hQ_of hQ.no) (.inl ⟨by simp [Region.wanted], fun w' => h2 w' (key w')⟩) rfl (k _ w ρ I (hw.put hd h1))
/-- Behind the first write: two may come up. -/
theorem dl_two (i j : Nat) {op op' : Op} {g g' : Option (Nat × Bool)} (ho : ops[i]? = some ⟨d, op, ty, pos, af, g⟩) (ho' : ops[j]? = some ⟨d', op', ty', pos', af', g'⟩) (hi : i ∈ ds) (hj : j ∈ ds) (hr : Region.ready .any ops listed = [i, j])
    (h : WL E ops [⟨d, op, ty, pos, af, g⟩] (fun e S' σ' => e = .normal ∧ DL E ops ds fuel (listed.setIfInBounds i true) Q S' σ') S σ) (h' : WL E ops [⟨d', op', ty', pos', af', g'⟩] (fun e S' σ' => e = .normal ∧ DL E ops ds fuel (listed.setIfInBounds j true) Q S' σ') S σ) : DL E ops ds (fuel + 1) listed Q S σ := by
  intro a w ρ I hw
  refine wpAnyLast_all hr (by simp) fun q hq => ?_
  rcases (by simpa using hq : q = i ∨ q = j) with rfl | rfl
  · refine wpOp_of_L (Q' := lift E (fun e S' σ' => e = .normal ∧ DL E ops ds fuel (listed.setIfInBounds q true) Q S' σ')) ho (h a w ρ hw) ?_ ?_
    · rintro a' w' ⟨S', σ', ρ', ⟨_, hD⟩, hC⟩
      exact ⟨fun hn => absurd hi hn, hD a' w' ρ' I hC⟩
    · rintro e a' w' ⟨S', σ', ρ', ⟨h1, _⟩, _⟩ h2
      exact absurd h1 h2
  · refine wpOp_of_L (Q' := lift E (fun e S' σ' => e = .normal ∧ DL E ops ds fuel (listed.setIfInBounds q true) Q S' σ')) ho' (h' a w ρ hw) ?_ ?_
    · rintro a' w' ⟨S', σ', ρ', ⟨_, hD⟩, hC⟩
      exact ⟨fun hn => absurd hj hn, hD a' w' ρ' I hC⟩
    · rintro e a' w' ⟨S', σ', ρ', ⟨h1, _⟩, _⟩ h2
      exact absurd h1 h2
end
section
variable {E : Env} {ops : Array Oper} {ds : List Nat} {fuel n0 : Nat} {listed : Array Bool} {Q : Exit → Slots → Store → Prop} {S : Slots} {σ : Store} {d : Option Tmp} {ty : TypeId} {pos : String} {af : Array Edge} {g : Option (Nat × Bool)} {x : Operand}
/-- An operation that computes without the store, beside writes. -/
theorem da_pureW (i : Nat) {op : Op} {r : AV} [hQ : NP Q] (ho : ops[i]? = some ⟨d, op, ty, pos, af, none⟩) (hd : okd E d = true) (hc : anyB .any ops listed (listed.setIfInBounds i true) i = true) (h : PO E S σ 0 ⟨d, op, ty, pos, af, none⟩ r)
    (k : DA E ops ds fuel (listed.setIfInBounds i true) Q n0 (S.put d r) σ) : DA E ops ds (fuel + 1) listed Q n0 S σ := by
  intro a w ρ W0 hw hag hn hle
  have key : ∀ w' : World, Agree { w with heap := #[] } w' := fun w' => ⟨Nat.zero_le _, fun k hk => absurd hk (Nat.not_lt_zero k)⟩
  obtain ⟨u, h1, h2⟩ := h a w ρ { w with heap := #[] } hw (key w) (fun id p _ hi => absurd hi (Nat.not_lt_zero id))
  exact pure_ _ ho rfl hc (hQ_of hQ.no) (.inl ⟨by simp [Region.wanted], fun w' => h2 w' (key w')⟩) rfl (k _ w ρ W0 (hw.put hd h1) hag hn hle)
theorem pc_convC {s t : TypeId} {n : Int} (hx : S.ev x = some (.lit (.int .u8 n))) (hs : Un E.P s (.int .u8)) (ht : Un E.P t (.int .i64)) : PO E S σ n0 ⟨d, .convert s t x, ty, pos, af, g⟩ (.lit (.int .i64 (IntKind.i64.wrap n))) :=
  po_convInt hx hs.eq ht.eq
end
end Go.Proofs.YthbodgnoadlbcaaDoor.Asl
