/- The graph of a term, as the program says it: the moves of a state. -/
import Derived.Test.YthbodgnoadlbcaaGreatDoorK3
import Derived.Test.YthbodgnoadlbcaaGreatDoorT28
import Derived.Test.YthbodgnoadlbcaaGreatDoorH2
namespace Go.Proofs.YthbodgnoadlbcaaGreatDoor.Asl
open Go.RowKit Go.Proofs.YthbodgnoadlbcaaGreatDoorW.PrintLast
set_option linter.unusedVariables false
set_option linter.unusedSimpArgs false
section
variable {E : Env} {ops : Array Oper} {ds : List Nat} {fuel n0 i0 : Nat} {listed : Array Bool} {Q : Exit → Slots → Store → Prop} {S : Slots} {σ : Store}
theorem dx_two0 (i j : Nat) {o o' : Oper} {e : Nat} {cs : List AV} (ho : ops[i]? = some o) (ho' : ops[j]? = some o') (hr : Region.ready .any ops listed = [i, j]) (h0 : Has σ i0 ⟨.own, e, cs, []⟩) (hm : E.may i0)
    (h : ∀ E' : Env, E'.P = E.P → E'.base = E.base → E'.n = E.n → E'.n₀ = σ.length → (∀ id, id = i0 ∨ σ.length ≤ id → E'.may id) → WL E' ops [o] (fun e S' σ' => e = .normal ∧ σ.length ≤ σ'.length ∧ DX E ops ds fuel (listed.setIfInBounds i true) Q n0 i0 S' σ') S σ)
    (h' : ∀ E' : Env, E'.P = E.P → E'.base = E.base → E'.n = E.n → E'.n₀ = σ.length → (∀ id, id = i0 ∨ σ.length ≤ id → E'.may id) → WL E' ops [o'] (fun e S' σ' => e = .normal ∧ σ.length ≤ σ'.length ∧ DX E ops ds fuel (listed.setIfInBounds j true) Q n0 i0 S' σ') S σ) : DX E ops ds (fuel + 1) listed Q n0 i0 S σ := by
  intro a w ρ W0 p0 hw hp0 hag hn hle
  refine wpAnyLast_all hr (by simp) fun q hq => ?_
  obtain ⟨oq, ho, h⟩ : ∃ oq, ops[q]? = some oq ∧ ∀ E' : Env, E'.P = E.P → E'.base = E.base → E'.n = E.n → E'.n₀ = σ.length → (∀ id, id = i0 ∨ σ.length ≤ id → E'.may id) → WL E' ops [oq] (fun e S' σ' => e = .normal ∧ σ.length ≤ σ'.length ∧ DX E ops ds fuel (listed.setIfInBounds q true) Q n0 i0 S' σ') S σ := by
    rcases (by simpa using hq : q = i ∨ q = j) with rfl | rfl
    · exact ⟨_, ho, h⟩
    · exact ⟨_, ho', h'⟩
  have hown := (Ob.live_own (hw.sim.obs i0 _ p0 h0.get hp0) (.inl rfl)).1
  let E' : Env := ⟨E.P, E.base, E.n, fun id => id = i0 ∨ σ.length ≤ id, w.heap.size, fun b => b = p0.blk, w, ρ, σ.length⟩
  have hw' : Ctx E' S σ a w ρ := by
    refine { defers := hw.defers, size := hw.size, slots := hw.slots, sim := hw.sim, fr := Fr.refl _ _ _, le := Le.refl _, old := fun _ _ h _ => h, may := ?_, fresh := ?_, n₀_le := Nat.le_refl _, N_le := Nat.le_refl _, later := fun _ h => .inr h }
    · intro id p hp _ hm
      have := hw.sim.dom id p hp
      rcases hm with rfl | hm
      · rw [hp0] at hp; cases hp; exact .inl rfl
      · omega
    · intro id p hp hm
      have := hw.sim.dom id p hp
      simp only [E'] at hm; omega
  refine wpOp_of_L (Q' := lift E' (fun e S' σ' => e = .normal ∧ σ.length ≤ σ'.length ∧ DX E ops ds fuel (listed.setIfInBounds q true) Q n0 i0 S' σ')) ho (h E' rfl rfl rfl rfl (fun _ h => h) a w ρ hw') ?_ ?_
  · rintro a' w' ⟨S', σ', ρ', ⟨_, hlen, hD⟩, hC⟩
    have hfr := hC.fr
    have hag' : AgreeX p0.blk w w' := ⟨hfr.size, fun k hk hb => hfr.block k hk hb⟩
    refine ⟨fun _ _ => hag.trans hag', ?_⟩
    have hCE : Ctx E S' σ' a' w' ρ' := by
      have := hw.called (σ' := σ') (w' := w') (ρ' := ρ') (T := fun q => q = i0) (fun q hq => by subst hq; exact hm) hC.sim hC.le hlen hC.old (fun id p hp hi => by
        obtain ⟨k1, k2⟩ := hC.fresh id p hp hi
        exact ⟨k1, k2.imp (fun k => ⟨i0, p0, rfl, hp0, k.symm⟩) (fun k => k)⟩) (fun q p hq hp => by subst hq; rw [hp0] at hp; cases hp; exact hown) ⟨hfr.os, hfr.tape, hfr.output, hfr.size, fun k hk hB => hfr.block k hk (fun f => hB ⟨i0, p0, rfl, hp0, hown, f.symm⟩)⟩
      exact { this with defers := hC.defers, size := hC.size, slots := hC.slots }
    refine hD a' w' ρ' W0 p0 hCE (hC.le _ _ hp0) (hag.trans hag') ?_ (Nat.le_trans hle hlen)
    intro id p hp hi
    exact hn id p (hC.old id p hp (Nat.lt_of_lt_of_le hi hle)) hi
  · rintro e a' w' ⟨S', σ', ρ', ⟨h1, _⟩, _⟩ h2
    exact absurd h1 h2
end
theorem dx_two {P : Program} {base n : Nat} {may : Nat → Prop} {M : Nat} {B : Nat → Prop} {w₀ : World} {ρ₀ : Pl} {n₀ : Nat} {ops : Array Oper} {ds : List Nat} {fuel n0 i0 : Nat} {listed : Array Bool} {Q : Exit → Slots → Store → Prop} {S : Slots} {σ : Store} (i j : Nat) {o o' : Oper} {e : Nat} {cs : List AV} (ho : ops[i]? = some o) (ho' : ops[j]? = some o') (hr : Region.ready .any ops listed = [i, j]) (h0 : Has σ i0 ⟨.own, e, cs, []⟩) (hm : may i0)
    (h : ∀ (N' : Nat) (B' : Nat → Prop) (w₀' : World) (ρ₀' : Pl) (may' : Nat → Prop), (∀ id, id = i0 ∨ σ.length ≤ id → may' id) → WL ⟨P, base, n, may', N', B', w₀', ρ₀', σ.length⟩ ops [o] (fun e S' σ' => e = .normal ∧ σ.length ≤ σ'.length ∧ DX ⟨P, base, n, may, M, B, w₀, ρ₀, n₀⟩ ops ds fuel (listed.setIfInBounds i true) Q n0 i0 S' σ') S σ)
    (h' : ∀ (N' : Nat) (B' : Nat → Prop) (w₀' : World) (ρ₀' : Pl) (may' : Nat → Prop), (∀ id, id = i0 ∨ σ.length ≤ id → may' id) → WL ⟨P, base, n, may', N', B', w₀', ρ₀', σ.length⟩ ops [o'] (fun e S' σ' => e = .normal ∧ σ.length ≤ σ'.length ∧ DX ⟨P, base, n, may, M, B, w₀, ρ₀, n₀⟩ ops ds fuel (listed.setIfInBounds j true) Q n0 i0 S' σ') S σ) : DX ⟨P, base, n, may, M, B, w₀, ρ₀, n₀⟩ ops ds (fuel + 1) listed Q n0 i0 S σ := by
  refine dx_two0 i j ho ho' hr h0 hm ?_ ?_
  · intro E' hP hbase hn hn0 hmay
    obtain ⟨P', base', n', may', N', B', w₀', ρ₀', n₀'⟩ := E'
    simp only at hP hbase hn hn0 hmay
    subst hP hbase hn hn0
    exact h _ _ _ _ _ hmay
  · intro E' hP hbase hn hn0 hmay
    obtain ⟨P', base', n', may', N', B', w₀', ρ₀', n₀'⟩ := E'
    simp only at hP hbase hn hn0 hmay
    subst hP hbase hn hn0
    exact h' _ _ _ _ _ hmay
section
variable {E : Env} {ops : Array Oper} {ds : List Nat} {fuel n0 i0 : Nat} {listed : Array Bool} {Q : Exit → Slots → Store → Prop} {S : Slots} {σ : Store} {d : Option Tmp} {ty : TypeId} {pos : String} {af : Array Edge} {x : Operand}
theorem dx_loadn (i : Nat) {t : TypeId} {size bytes : Nat} {z : Value} {j off e : Nat} {cs cs' : List AV} [hQ : NP Q] (ho : ops[i]? = some ⟨d, .load t x, ty, pos, af, none⟩) (hd : okd E d = true) (hc : takeB .any ops ds listed (listed.setIfInBounds i true) i = true)
    (hx : S.ev x = some (.pt j off)) (ht : Ty E.P t true size bytes z) (ha : At σ j off size cs') (hj : j < n0) (h0 : Has σ i0 ⟨.own, e, cs, []⟩) (hne : j ≠ i0)
    (k : DX E ops ds fuel (listed.setIfInBounds i true) Q n0 i0 (S.put d (.agg cs')) σ) : DX E ops ds (fuel + 1) listed Q n0 i0 S σ := by
  intro a w ρ W0 p0 hw hp0 hag hn hle
  obtain ⟨o, o1, o2, o3, o4⟩ := ha.get
  have e1 := hw.ev hx
  generalize hv : a.eval x = v at e1
  cases e1 with
  | @pt _ _ p hp =>
    obtain ⟨us, h2, h3, _, h4⟩ := hw.sim.cut o1 hp o2 o3
    have hlt := hn _ _ hp hj
    have hbase := (Ob.live_own (hw.sim.obs i0 _ p0 h0.get hp0) (.inl rfl)).2
    have hb : p.blk ≠ p0.blk := by
      rcases o2 with hk | hk
      · have := (hw.sim.obs j o p o1 hp).ro_lt hk; omega
      · intro e; exact hne (hw.sim.inj j i0 o _ p p0 o1 h0.get (.inl hk) (.inl rfl) hp hp0 e)
    have hblk : ∀ w' : World, AgreeX p0.blk W0 w' → ∀ (q : Nat) (u : Value), us[q]? = some u → w'.cell? ⟨p.blk, p.off + off + q, none⟩ = some u := fun w' hw' q u hu => by
      have h5 := h4 q u hu
      have h6 : w.cell? ⟨p.blk, p.off + off + q, none⟩ = some u := by rw [← h5]
      rw [← h6]
      exact World.cell?_of_block (w := w) (w' := w') ((hw'.block _ hlt hb).trans (hag.block _ hlt hb).symm)
    refine take_ _ ho rfl hc (hQ_of hQ.no) (.inl ⟨by simp [Region.wanted], fun w' hw' => ?_⟩) hag rfl (k _ w ρ W0 p0 (hw.put hd (.agg h2)) hp0 hag hn hle)
    simp only [execOp, hv, Instr.loadAt, Instr.sureAddr, loadVar, Sem.run_bind, Sem.run_pure, Result.andThen_ok, ht.isAgg, if_true, ht.sizeOf, loadCells]
    rw [run_loadCellsFrom size 0 #[] us (by omega) (fun q u hu => by have := hblk w' hw' q u hu; rw [← this, Nat.zero_add])]
    simp
end
attribute [local irreducible] WP WL andThen inBlock noGoto atEnd ACall DA DL DX PO Hold nodeOk Tm.shape Tm.ok Tm.txt
set_option maxHeartbeats 4000000
set_option synthInstance.maxHeartbeats 400000
set_option synthInstance.maxSize 10000
theorem look_great {ds S : List Tm} {L : List Stp} {c : Nat} (hS : StOk ds S) (hL : ∀ y ∈ L, okS ds.length c y) (h : ¬ ∀ y ∈ L, y.2.cnt ≤ 24) : lookL S L = none := by
  cases e : lookL S L with
  | none => rfl
  | some z =>
    exfalso
    refine h fun y hy => ?_
    have hI := lookL_inv (c := c) hS L [] (S, []) z ⟨⟨[], by simp⟩, hS, by simp, by simp, fun j p q => absurd q (by simp only; omega)⟩ hL e
    obtain ⟨m, _, _, a⟩ := hI.bwd y (by simpa using hy)
    exact (hI.ok.ok y.2 (List.mem_of_getElem? a)).2.2
def atF : Nat → List Tm → List (ByteArray × AV)
  | _, [] => []
  | j, u :: S => (ofL u.txt, I ((j : Nat) : Int)) :: atF (j + 1) S
theorem atF_snoc (S : List Tm) (y : Tm) : ∀ j, atF j (S ++ [y]) = atF j S ++ [(ofL y.txt, I ((j + S.length : Nat) : Int))] := by
  induction S with
  | nil => intro j; simp [atF]
  | cons u S ih => intro j; simp only [List.cons_append, atF, ih, List.length_cons]; rw [show j + 1 + S.length = j + (S.length + 1) by omega]
theorem atF_get (w : List UInt8) (S : List Tm) : ∀ j, mget (ofL w) (atF j S) = if idxT S w < S.length then some (I ((j + idxT S w : Nat) : Int)) else none := by
  induction S with
  | nil => intro j; simp [atF, mget, idxT]
  | cons u S ih =>
    intro j
    unfold atF mget idxT
    by_cases h : u.txt = w
    · subst h
      rw [prB_true rfl]
      simp [List.findIdx_cons]
    · rw [prB_false (by rw [ofL_inj]; exact fun e => h e.symm)]
      have := ih (j + 1)
      unfold idxT at this
      simp only [this, List.findIdx_cons, h, decide_false, cond_false, List.length_cons, Nat.add_lt_add_iff_right]
      rw [show j + 1 + List.findIdx (fun u => decide (u.txt = w)) S = j + (List.findIdx (fun u => decide (u.txt = w)) S + 1) by omega]
theorem rtsG_oldG {G : Nat → Prop} {σ σ' : Store} {d s : AV} {ds : List Tm} (h : RTsG G σ d ds) (l : LeS σ σ') (hs : ∀ j n, s = .sl j 0 n → σ.length ≤ j) : RTsG (fun i => G i ∧ NA s i) σ' d ds :=
  ⟨h.rep.lt.mono (fun i o _ ho => l.keep i o ho) (fun i hi => ⟨hi.1, fun n e => by have := hs i n e; have := hi.2; omega⟩)⟩
theorem RTsG.appG {α : Type} [Enc α] {G : Nat → Prop} {σ₀ σ σ' : Store} {s s' u : AV} {ps : List Tm} (h : App σ₀ σ s s' σ') (hu : RTsG (fun i => G i ∧ NA s i) σ u ps) : RTsG (fun i => G i ∧ NA s' i) σ' u ps :=
  ⟨hu.rep.lt.mono (fun i o hi ho => h.keep i o (.inr hi.1.2) ho) (fun i hi => ⟨hi.1.1, fun n e => by
    rcases h.fresh with e' | ⟨j, m, e', hj⟩
    · rw [e'] at e; exact hi.1.2 n e
    · rw [e'] at e; cases e; have := hi.2; omega⟩)⟩
theorem RTsG.weak {G G' : Nat → Prop} {σ : Store} {u : AV} {ps : List Tm} (h : RTsG G σ u ps) (k : ∀ i, G i → G' i) : RTsG G' σ u ps := ⟨h.rep.mono (fun _ _ _ h => h) k⟩
section
variable {σ₀ σ σ' : Store} {s : AV}
theorem TRl.kn {G : Nat → Prop} {n : Nat} {l : List TmC} {S : List Tm} (h : TRl G σ l S) (k : KN σ n σ') (ne : 3 ≠ n) : TRl G σ' l S := h.app fun u ps hu => hu.kn k ⟨ne⟩
theorem TRl.les {G : Nat → Prop} {l : List TmC} {S : List Tm} (h : TRl G σ l S) (k : LeS σ σ') : TRl G σ' l S := h.app fun u ps hu => hu.les k
end
def RetMv (G : Nat → Prop) (σ : Store) (L : List Stp) : AV → Store → Prop := fun r σ' => Grow σ σ' ∧ ((∀ y ∈ L, y.2.cnt ≤ 24) → ∃ a v ls, r = .tup [a, v, Bo true] ∧ OW σ σ' a (L.map Prod.fst) ∧ OW σ σ' v ls ∧ TRl G σ' ls (L.map Prod.snd)) ∧ (¬ (∀ y ∈ L, y.2.cnt ≤ 24) → r = .tup [nilS, nilS, Bo false])
theorem map_take1 {α β : Type} {l : List α} {f : α → β} {k : Nat} {d : α} (h : k < l.length) : (l.take (k + 1)).map f = (l.take k).map f ++ [f (l.getD k d)] := by
  rw [take_succ_getD (d := d) h]; simp
section
variable {base : Nat} {G : Nat → Prop}
theorem c_GraphOf_1 {ds : List Tm} (hd1 : defsOk ds = true) (t : Tm) (q1 : t.shape = true) (q2 : t.callLt ds.length = true) (q3 : t.cnt ≤ 24) (σ : Store) (s d : AV) (j : Nat) (hG : ∀ i, σ.length ≤ i → G i) [hj : Has σ j ⟨.own, 1, [d], []⟩] [hs : RTsG G σ s t.ps] [hd : RTsG G σ d ds] :
    ACall Tryz.prog base F_impl_GraphOf_1 [.agg [I t.op, I t.n, s], .pt j 0] σ (fun _ => False) (RetMv G σ (t.steps ds)) := by
  have := hs.one
  have := hd.one
  have hL := Tm.steps_ok hd1 q1 q2 q3
  have hLl := Tm.steps_len hd1 q3
  refine acall2 fun_impl_GraphOf_1 rfl tmps_impl_GraphOf_1 rfl fun N B w₀ ρ₀ => ?_
  repeat' (first
    | (refine wc_row0 (α := Int) inI inI rfl rfl (by decide) rfl ?_; intro _ _ _ _ _)
    | (refine wc_row0 (α := TmC) inI inI rfl rfl (by decide) rfl ?_; intro _ _ _ _ _)
    | refine wc_holdR 2 ?_
    | refine wp_seqA ?_
    | refine wp_region_seq ?_
    | refine thru_seq_next ?_
    | refine wl_nil ?_
    | refine wl_pop rfl (po_assign rfl) ?_
    | (refine wc_boxA rfl inI rfl ?_; intro _ _ _ _ _)
    | fail)
  rename_i i2 σ1 g1 n1 h1 i10 σ2 g2 n2 h2 i11 σ3 g3 n3 h3
  refine hold_go ?_
  have l3 : LeS σ σ3 := inI
  have y0 : σ.length ≤ i10 := Nat.le_trans (LeS.len (inI : LeS σ σ1)) n2.le
  have y1 : σ.length ≤ i11 := Nat.le_trans (LeS.len (inI : LeS σ σ2)) n3.le
  have ow10 : OW σ σ3 (.sl i10 0 0) ([] : List Int) := ow_of_has inI y0 rfl (by decide)
  have ow11 : OW σ σ3 (.sl i11 0 0) ([] : List TmC) := ow_of_has inI y1 rfl (by decide)
  have hs3 : RTsG (fun i => G i ∧ NA (.sl i11 0 0) i) σ3 s t.ps := rtsG_oldG hs l3 (fun j n e => by cases e; exact y1)
  have hd3 : RTsG (fun i => G i ∧ NA (.sl i11 0 0) i) σ3 d ds := rtsG_oldG hd l3 (fun j n e => by cases e; exact y1)
  have hG3 : ∀ i, σ3.length ≤ i → G i ∧ NA (.sl i11 0 0) i := fun i hi => ⟨hG i (Nat.le_trans l3.len hi), na_new ow11 i hi⟩
  have hcall := c_stepsOf (base := base) (G := fun i => G i ∧ NA (.sl i11 0 0) i) hd1 q1 q2 q3 σ3 s d hG3 (hs := hs3) (hd := hd3)
  generalize t.steps ds = L at *
  clear hs3 hd3 hG3
  repeat' (first
    | (refine wc_callSt rfl inI rfl hcall rfl ?_; intro _ _ _ _ _ _ _)
    | refine wl_pop rfl (pc_lenRow rfl inI inI) ?_
    | refine wp_region_seq ?_
    | refine thru_seq_next ?_
    | refine wp_blockA ?_
    | refine wl_nil ?_
    | refine wl_pop rfl (po_move rfl) ?_
    | refine wc_load1 rfl inI (at_has (.inl rfl) rfl rfl) rfl ?_
    | refine wc_loadn rfl inI (at_has (cs := [_, _, _]) (.inl rfl) rfl rfl) rfl ?_
    | fail)
  rename_i u xs σ4 ou owu sru g4
  have hxl := sru.len'
  have l34 : LeS σ3 σ4 := inI
  have hub := owu.bound
  refine wc_loop [(14, _), (15, _)] (fun x : AV × AV × Nat => [(6, x.1), (7, x.2.1), (16, I x.2.2)]) (fun x σ' => x.2.2 ≤ L.length ∧ x.1 ≠ nilS ∧ One x.1 ∧ One x.2.1 ∧ LeS σ σ' ∧ σ4.length ≤ σ'.length ∧ ∃ ls, OW σ σ' x.1 ((L.take x.2.2).map Prod.fst) ∧ OW σ σ' x.2.1 ls ∧ TRl (fun i => G i ∧ NA x.2.1 i) σ' ls ((L.take x.2.2).map Prod.snd) ∧ RW σ' u xs ∧ SR (fun i => G i ∧ NA x.2.1 i) σ' xs L ∧ ∀ y ∈ L.take x.2.2, y.2.cnt ≤ 24) (fun x => L.length - x.2.2) (.sl i10 0 0, .sl i11 0 0, 0) ⟨Nat.zero_le _, (by intro h; cases h), ⟨rfl⟩, ⟨rfl⟩, inI, Nat.le_refl _, [], ow10.les l34, ow11.les l34, .nil, inI, inI, by simp⟩ (by repeat' (first | exact sub_nil | refine sub_cons rfl ?_ | refine sub_int rfl (by first | rfl | omega | (push_cast; omega) | simp) ?_ | refine sub_eq rfl (by assumption) ?_)) ?_
  clear ow10 ow11 hcall
  rintro ⟨av, vv, k⟩ σ' ⟨hk, hne, o1, o2, hle, hlen, ls, hwa, hwv, htr, hru, hsr, hsm⟩
  dsimp only at hk hne o1 o2 hwa hwv htr hru hsr hsm ⊢
  have := hle.grow
  have hll := htr.len
  simp only [List.length_map, List.length_take] at hll
  repeat' (first
    | refine wc_holdR 9 ?_
    | refine wl_pop rfl (pc_indexRow rfl rfl inI inI inI (by omega)) ?_
    | refine wp_seqA ?_
    | refine wp_region_seq ?_
    | refine thru_seq_next ?_
    | refine thru_seq ?_
    | refine exit_here ?_
    | refine wp_skipA ?_
    | refine wp_exitA ?_
    | refine wp_blockA ?_
    | refine wl_nil ?_
    | refine wl_pop rfl (po_binOp rfl rfl rfl) ?_
    | refine wp_condP rfl (fun _ => ?_) (fun _ => ?_)
    | fail)
  rotate_left
  · rename_i hk1
    obtain rfl : k = L.length := by omega
    rw [List.take_length] at *
    refine hold_go ?_
    repeat' (first
      | refine wp_region_seq ?_
      | refine thru_seq_next ?_
      | refine wp_retA ?_
      | refine wl_nil ?_
      | refine wl_pop rfl (po_move rfl) ?_
      | refine wl_pop rfl (po_assign rfl) ?_
      | fail)
    refine at_ret (res3 rfl rfl rfl rfl) ?_
    exact ⟨hle.grow, fun _ => ⟨av, vv, ls, rfl, hwa, hwv, htr.app fun u ps hu => hu.weak fun i hi => hi.1⟩, fun h => absurd hsm h⟩
  rename_i hk1
  have hk' : k < L.length := by omega
  obtain ⟨e1, e2, e3, rk⟩ := hsr.at hk'
  have hok : One (xs.getD k Enc.dflt).s := ⟨(xs.getD k Enc.dflt).one⟩
  repeat' (first
    | refine wl_pop rfl (pc_ldSt rfl inI inI (by omega) inI) ?_
    | refine wc_holdR 5 ?_
    | refine wp_seqA ?_
    | refine thru_seq_next ?_
    | refine wl_nil ?_
    | (refine wc_storeA rfl rfl inI inI rfl inI (Nat.le_of_ble_eq_true rfl) (.inr (may_new _)) ?_; intro _ _)
    | (refine wc_allocA (cs := [_, _, _, _]) inI rfl inI rfl ?_; intro _ _ _ _ _)
    | fail)
  rename_i i12 σ5 g5 n5 h5 σ6 u6
  refine hold_go ?_
  have h6 : Has σ6 i12 ⟨.own, 1, [I (xs.getD k Enc.dflt).act, I (xs.getD k Enc.dflt).op, I (xs.getD k Enc.dflt).n, (xs.getD k Enc.dflt).s], []⟩ := instHasUpd (g := u6)
  have l6 : LeS σ' σ6 := inI
  have rk6 : RTsG (fun i => G i ∧ NA vv i) σ6 (xs.getD k Enc.dflt).s (L.getD k (0, nilT)).2.ps := rk.les l6
  have rt6 : RTs σ6 (xs.getD k Enc.dflt).s (L.getD k (0, nilT)).2.ps := ⟨rk6.rep.mono (fun _ _ _ h => h) (fun _ _ => trivial)⟩
  have hcn : ACall Tryz.prog base F_impl_termNodes [.agg [I (xs.getD k Enc.dflt).op, I (xs.getD k Enc.dflt).n, (xs.getD k Enc.dflt).s], I 24] σ6 (fun _ => False) (Ret σ6 (I (min ((L.getD k (0, nilT)).2.cnt : Int) (24 + 1)))) := by
    rw [e2, e3]
    exact c_termNodes _ 24 _ _ (by decide) (by decide)
  clear u6
  repeat' (first
    | (refine wc_loadn rfl inI (at_sub3 (at_has (cs := [_, _, _, _]) (.inl rfl) rfl rfl)) rfl ?_)
    | (refine wc_callR rfl inI rfl hcn rfl ?_; intro _ _)
    | refine wp_seqA ?_
    | refine wp_region_seq ?_
    | refine thru_seq_next ?_
    | refine thru_seq_ret ?_
    | refine thru_block_ret ?_
    | refine wp_skipA ?_
    | refine wp_retA ?_
    | refine wl_nil ?_
    | refine wl_pop rfl (po_assign rfl) ?_
    | refine wl_pop rfl (po_binOp rfl rfl rfl) ?_
    | refine wl_pop rfl (po_fieldAddr rfl inI) ?_
    | refine wp_condP rfl (fun _ => ?_) (fun _ => ?_)
    | fail)
  · rename_i σ7 g7 hgt
    refine at_ret (res3 rfl rfl rfl rfl) ?_
    have hno : ¬ ∀ y ∈ L, y.2.cnt ≤ 24 := fun h => by
      have := h (L.getD k (0, nilT)) (by simp [List.getD_eq_getElem?_getD, hk'])
      omega
    exact ⟨(hle.trans (inI : LeS σ' σ7)).grow, fun h => absurd h hno, fun _ => rfl⟩
  rename_i σ7 g7 hle24
  have hc24 : (L.getD k (0, nilT)).2.cnt ≤ 24 := by omega
  have l7 : LeS σ' σ7 := inI
  have h7 : Has σ7 i12 ⟨.own, 1, [I (xs.getD k Enc.dflt).act, I (xs.getD k Enc.dflt).op, I (xs.getD k Enc.dflt).n, (xs.getD k Enc.dflt).s], []⟩ := inI
  have hx1 : ((L.take k).map Prod.fst).length < 4294967296 := by simp only [List.length_map, List.length_take]; omega
  have hlsl : ls.length < 4294967296 := by omega
  obtain ⟨ia, rfl, hia, hha⟩ : ∃ ia, av = .sl ia 0 k ∧ σ.length ≤ ia ∧ Has σ' ia (Row ((L.take k).map Prod.fst)) := by
    rcases hwa.rep with ⟨q, q2⟩ | ⟨ia, q1, q2, q3⟩
    · exact absurd q2 hne
    · exact ⟨ia, by rw [q1]; simp; omega, q2, q3⟩
  have hha7 : Has σ7 ia (Row ((L.take k).map Prod.fst)) := ⟨l7.keep _ _ hha.get⟩
  have hlc : (rowCells ((L.take k).map Prod.fst)).length = k * 1 := by rw [rowCells_length]; show ((L.take k).map Prod.fst).length * 1 = k * 1; simp; omega
  have hdi : i12 ≠ ia := by have := hha.lt; have := n5.le; have := g4.len; omega
  have at7 : At σ7 i12 (0 + 0) 1 [I (xs.getD k Enc.dflt).act] := at_sub (at_has (cs := [_, _, _, _]) (h := h7) (.inl rfl) rfl rfl) (j := 0) rfl
  refine wc_drawnX (t := 6) ia [9, 10, 11] mixed_ rfl rfl ?_
  refine dx_pure 0 rfl rfl (by kernel_rfl) (po_move rfl) ?_
  refine dx_pure 1 rfl rfl (by kernel_rfl) (po_fieldAddr rfl inI) ?_
  refine dx_load1 2 rfl rfl (by kernel_rfl) rfl inI at7 h7.lt hha7 hdi ?_
  refine dx_pure 5 rfl rfl (by kernel_rfl) (po_move rfl) ?_
  refine dx_pure 6 rfl rfl (by kernel_rfl) (po_fieldAddr rfl inI) ?_
  refine dx_loadn 7 rfl rfl (by kernel_rfl) rfl inI (at_sub3 (at_has (cs := [_, _, _, _]) (h := h7) (.inl rfl) rfl rfl)) h7.lt hha7 hdi ?_
  refine dx_two 3 8 rfl rfl (by kernel_rfl) hha7 (.inr hia) ?_ ?_
  · intro N7 B7 w7 r7 may7 hmay7
    refine wc_oneInt rfl inI inI rfl (by decide) rfl ?_
    intro i13 σ13 g13 n13 h13
    refine wl_nil ⟨rfl, g13.len, ?_⟩
    clear hmay7
    have hha13 : Has σ13 ia (Row ((L.take k).map Prod.fst)) := inI
    have y13 := g13.len
    refine dx_two 4 8 rfl rfl (by kernel_rfl) hha13 (.inr hia) ?_ ?_
    · intro N7 B7 w7 r7 may7 hmay7
      refine wc_append rfl rfl Un.eq inI rfl (by decide) hha13 rfl hlc ((rw_of_has (α := Int) h13 rfl (by simp)).appends (fun x hx => one_int x)) (hmay7 _ (.inl rfl)) (by simp only [List.length_cons, List.length_nil]; omega) rfl ?_
      intro j1 σ15 σ16 u15 g16 n16 h16
      rw [← rowCells_append] at h16
      have q15 := Upd.len u15
      refine wl_nil ⟨rfl, by have := g16.len; omega, ?_⟩
      clear hmay7
      refine dx_new 8 rfl (by kernel_rfl) ?_
      intro N7 B7 w7 r7 may7 hmay7
      refine wc_oneTmC rfl inI inI rfl (by decide) rfl ?_
      intro i14 σ17 g14 n14 h14
      refine wl_nil ⟨rfl, g14.len, ?_⟩
      clear hmay7
      have kz : KN σ7 1 σ17 := ⟨fun j o he ho => g14.keep j o (g16.keep j o ((kn_upd u15 hha13).keep j o he (g13.keep j o ho)))⟩
      have lkz : ∀ (j : Nat) (o : Ob), j < σ.length → σ7[j]? = some o → σ17[j]? = some o := fun j o hj ho => g14.keep j o (g16.keep j o (by rw [u15.eq, List.getElem?_set_ne (by omega)]; exact g13.keep j o ho))
      have lz : LeS σ σ17 := ⟨fun j o ho => lkz j o (Has.lt ⟨ho⟩) (l7.keep j o (hle.keep j o ho))⟩
      have hz1 : Has σ17 j1 (Row ((L.take k).map Prod.fst ++ [(xs.getD k Enc.dflt).act])) := ⟨g14.keep _ _ h16.get⟩
      have hz1n : σ.length ≤ j1 := by have := n16.le; have := hle.len; have := l7.len; omega
      have hz2 : Has σ17 i14 (Row [(⟨(xs.getD k Enc.dflt).op, (xs.getD k Enc.dflt).n, (xs.getD k Enc.dflt).s, hok.eq⟩ : TmC)]) := h14
      refine dx_last 9 rfl (by decide) (by kernel_rfl) ?_
      refine wc_append1 (α := TmC) (σ₀ := σ) rfl rfl inI inI rfl (by decide) (by decide) ((hwv.les l7).kn kz (by decide)) hz2 (one_tmc _) hlsl (fun j hj => .inr hj) lz.len rfl ?_
      intro vv' σy appy mky howy oney
      refine wl_nil (dl_in ?_)
      refine dl_last 10 rfl (by decide) (by kernel_rfl) ?_
      refine wl_pop rfl (po_assign rfl) ?_
      refine wl_nil (dl_in ?_)
      refine dl_last 11 rfl (by decide) (by kernel_rfl) ?_
      refine wl_pop rfl (po_assign rfl) ?_
      refine wl_nil (dl_in ?_)
      refine dl_done (by kernel_rfl) ?_
      repeat' (first
        | refine wp_region_seq ?_
        | refine thru_seq_next ?_
        | refine thru_block_next ?_
        | refine wl_nil ?_
        | refine wl_pop rfl (po_move rfl) ?_
        | refine wl_pop rfl (pc_add rfl rfl (by omega) (by omega)) ?_
        | fail)
      have ky := appy.kn ((hwv.les l7).kn kz (by decide))
      have hcnt : (L.take (k + 1)).map Prod.fst = (L.take k).map Prod.fst ++ [(xs.getD k Enc.dflt).act] := by rw [map_take1 (d := (0, nilT)) hk', e1]
      refine ⟨(.sl j1 0 (k + 1), vv', k + 1), by dsimp only; omega, ⟨by dsimp only; omega, (by intro h; cases h), ⟨rfl⟩, oney, appy.les (Nat.le_refl _) lz, by have := appy.len; have := l7.len; have := g13.len; have := g14.len; have := g16.len; omega, ls ++ [⟨(xs.getD k Enc.dflt).op, (xs.getD k Enc.dflt).n, (xs.getD k Enc.dflt).s, hok.eq⟩], ?_, howy, ?_, ((hru.les l7).kn kz (by decide)).kn ky (by decide), ⟨((hsr.les l7).kn kz ⟨by decide⟩).rep.app fun u ps hu => hu.appG (α := TmC) appy⟩, ?_⟩, (by repeat' (first | exact sub_nil | refine sub_cons rfl ?_ | refine sub_int rfl (by first | rfl | omega | (push_cast; omega) | simp) ?_ | refine sub_eq rfl (by assumption) ?_))⟩
      · dsimp only
        rw [hcnt]
        exact (ow_of_has hz1 hz1n (by simp; omega) (by omega)).kn ky (by decide)
      · dsimp only
        rw [map_take1 (d := (0, nilT)) hk']
        exact ((((htr.les l7).kn kz (by decide)).app fun u ps hu => hu.appG (α := TmC) appy)).append (.cons e2 e3 (((rk.les l7).kn kz ⟨by decide⟩).appG (α := TmC) appy) .nil)
      · intro y hy
        rw [take_succ_getD (d := (0, nilT)) hk'] at hy
        rcases List.mem_append.mp hy with hy | hy
        · exact hsm y hy
        · simp only [List.mem_singleton] at hy; subst hy; exact hc24
    · intro N7 B7 w7 r7 may7 hmay7
      refine wc_oneTmC rfl inI inI rfl (by decide) rfl ?_
      intro i14 σ14 g14 n14 h14
      refine wl_nil ⟨rfl, g14.len, ?_⟩
      clear hmay7
      have hha14 : Has σ14 ia (Row ((L.take k).map Prod.fst)) := inI
      have h1314 : Has σ14 i13 (Row [(xs.getD k Enc.dflt).act]) := inI
      have y14 := g14.len
      refine dx_one 4 rfl (by kernel_rfl) hha14 (.inr hia) ?_
      intro N7 B7 w7 r7 may7 hmay7
      refine wc_append rfl rfl Un.eq inI rfl (by decide) hha14 rfl hlc ((rw_of_has (α := Int) h1314 rfl (by simp)).appends (fun x hx => one_int x)) (hmay7 _ (.inl rfl)) (by simp only [List.length_cons, List.length_nil]; omega) rfl ?_
      intro j1 σ15 σ16 u15 g16 n16 h16
      rw [← rowCells_append] at h16
      have q15 := Upd.len u15
      refine wl_nil ⟨rfl, by have := g16.len; omega, ?_⟩
      clear hmay7
      have kz : KN σ7 1 σ16 := ⟨fun j o he ho => g16.keep j o ((kn_upd u15 hha14).keep j o he (g14.keep j o (g13.keep j o ho)))⟩
      have lkz : ∀ (j : Nat) (o : Ob), j < σ.length → σ7[j]? = some o → σ16[j]? = some o := fun j o hj ho => g16.keep j o (by rw [u15.eq, List.getElem?_set_ne (by omega)]; exact g14.keep j o (g13.keep j o ho))
      have lz : LeS σ σ16 := ⟨fun j o ho => lkz j o (Has.lt ⟨ho⟩) (l7.keep j o (hle.keep j o ho))⟩
      have hz1 : Has σ16 j1 (Row ((L.take k).map Prod.fst ++ [(xs.getD k Enc.dflt).act])) := h16
      have hz1n : σ.length ≤ j1 := by have := n16.le; have := hle.len; have := l7.len; omega
      have hz2 : Has σ16 i14 (Row [(⟨(xs.getD k Enc.dflt).op, (xs.getD k Enc.dflt).n, (xs.getD k Enc.dflt).s, hok.eq⟩ : TmC)]) := ⟨g16.keep _ _ ((kn_upd u15 hha14).keep _ _ (by show 3 ≠ 1; decide) h14.get)⟩
      refine dx_last 9 rfl (by decide) (by kernel_rfl) ?_
      refine wc_append1 (α := TmC) (σ₀ := σ) rfl rfl inI inI rfl (by decide) (by decide) ((hwv.les l7).kn kz (by decide)) hz2 (one_tmc _) hlsl (fun j hj => .inr hj) lz.len rfl ?_
      intro vv' σy appy mky howy oney
      refine wl_nil (dl_in ?_)
      refine dl_last 10 rfl (by decide) (by kernel_rfl) ?_
      refine wl_pop rfl (po_assign rfl) ?_
      refine wl_nil (dl_in ?_)
      refine dl_last 11 rfl (by decide) (by kernel_rfl) ?_
      refine wl_pop rfl (po_assign rfl) ?_
      refine wl_nil (dl_in ?_)
      refine dl_done (by kernel_rfl) ?_
      repeat' (first
        | refine wp_region_seq ?_
        | refine thru_seq_next ?_
        | refine thru_block_next ?_
        | refine wl_nil ?_
        | refine wl_pop rfl (po_move rfl) ?_
        | refine wl_pop rfl (pc_add rfl rfl (by omega) (by omega)) ?_
        | fail)
      have ky := appy.kn ((hwv.les l7).kn kz (by decide))
      have hcnt : (L.take (k + 1)).map Prod.fst = (L.take k).map Prod.fst ++ [(xs.getD k Enc.dflt).act] := by rw [map_take1 (d := (0, nilT)) hk', e1]
      refine ⟨(.sl j1 0 (k + 1), vv', k + 1), by dsimp only; omega, ⟨by dsimp only; omega, (by intro h; cases h), ⟨rfl⟩, oney, appy.les (Nat.le_refl _) lz, by have := appy.len; have := l7.len; have := g13.len; have := g14.len; have := g16.len; omega, ls ++ [⟨(xs.getD k Enc.dflt).op, (xs.getD k Enc.dflt).n, (xs.getD k Enc.dflt).s, hok.eq⟩], ?_, howy, ?_, ((hru.les l7).kn kz (by decide)).kn ky (by decide), ⟨((hsr.les l7).kn kz ⟨by decide⟩).rep.app fun u ps hu => hu.appG (α := TmC) appy⟩, ?_⟩, (by repeat' (first | exact sub_nil | refine sub_cons rfl ?_ | refine sub_int rfl (by first | rfl | omega | (push_cast; omega) | simp) ?_ | refine sub_eq rfl (by assumption) ?_))⟩
      · dsimp only
        rw [hcnt]
        exact (ow_of_has hz1 hz1n (by simp; omega) (by omega)).kn ky (by decide)
      · dsimp only
        rw [map_take1 (d := (0, nilT)) hk']
        exact ((((htr.les l7).kn kz (by decide)).app fun u ps hu => hu.appG (α := TmC) appy)).append (.cons e2 e3 (((rk.les l7).kn kz ⟨by decide⟩).appG (α := TmC) appy) .nil)
      · intro y hy
        rw [take_succ_getD (d := (0, nilT)) hk'] at hy
        rcases List.mem_append.mp hy with hy | hy
        · exact hsm y hy
        · simp only [List.mem_singleton] at hy; subst hy; exact hc24
  · intro N7 B7 w7 r7 may7 hmay7
    refine wc_oneTmC rfl inI inI rfl (by decide) rfl ?_
    intro i14 σ14 g14 n14 h14
    refine wl_nil ⟨rfl, g14.len, ?_⟩
    clear hmay7
    have hha14 : Has σ14 ia (Row ((L.take k).map Prod.fst)) := inI
    have y14 := g14.len
    refine dx_new 3 rfl (by kernel_rfl) ?_
    intro N7 B7 w7 r7 may7 hmay7
    refine wc_oneInt rfl inI inI rfl (by decide) rfl ?_
    intro i13 σ13 g13 n13 h13
    refine wl_nil ⟨rfl, g13.len, ?_⟩
    clear hmay7
    have hha13 : Has σ13 ia (Row ((L.take k).map Prod.fst)) := inI
    have h1413 : Has σ13 i14 (Row [(⟨(xs.getD k Enc.dflt).op, (xs.getD k Enc.dflt).n, (xs.getD k Enc.dflt).s, hok.eq⟩ : TmC)]) := inI
    have y13 := g13.len
    refine dx_one 4 rfl (by kernel_rfl) hha13 (.inr hia) ?_
    intro N7 B7 w7 r7 may7 hmay7
    refine wc_append rfl rfl Un.eq inI rfl (by decide) hha13 rfl hlc ((rw_of_has (α := Int) h13 rfl (by simp)).appends (fun x hx => one_int x)) (hmay7 _ (.inl rfl)) (by simp only [List.length_cons, List.length_nil]; omega) rfl ?_
    intro j1 σ15 σ16 u15 g16 n16 h16
    rw [← rowCells_append] at h16
    have q15 := Upd.len u15
    refine wl_nil ⟨rfl, by have := g16.len; omega, ?_⟩
    clear hmay7
    have kz : KN σ7 1 σ16 := ⟨fun j o he ho => g16.keep j o ((kn_upd u15 hha13).keep j o he (g13.keep j o (g14.keep j o ho)))⟩
    have lkz : ∀ (j : Nat) (o : Ob), j < σ.length → σ7[j]? = some o → σ16[j]? = some o := fun j o hj ho => g16.keep j o (by rw [u15.eq, List.getElem?_set_ne (by omega)]; exact g13.keep j o (g14.keep j o ho))
    have lz : LeS σ σ16 := ⟨fun j o ho => lkz j o (Has.lt ⟨ho⟩) (l7.keep j o (hle.keep j o ho))⟩
    have hz1 : Has σ16 j1 (Row ((L.take k).map Prod.fst ++ [(xs.getD k Enc.dflt).act])) := h16
    have hz1n : σ.length ≤ j1 := by have := n16.le; have := hle.len; have := l7.len; omega
    have hz2 : Has σ16 i14 (Row [(⟨(xs.getD k Enc.dflt).op, (xs.getD k Enc.dflt).n, (xs.getD k Enc.dflt).s, hok.eq⟩ : TmC)]) := ⟨g16.keep _ _ ((kn_upd u15 hha13).keep _ _ (by show 3 ≠ 1; decide) h1413.get)⟩
    refine dx_last 9 rfl (by decide) (by kernel_rfl) ?_
    refine wc_append1 (α := TmC) (σ₀ := σ) rfl rfl inI inI rfl (by decide) (by decide) ((hwv.les l7).kn kz (by decide)) hz2 (one_tmc _) hlsl (fun j hj => .inr hj) lz.len rfl ?_
    intro vv' σy appy mky howy oney
    refine wl_nil (dl_in ?_)
    refine dl_last 10 rfl (by decide) (by kernel_rfl) ?_
    refine wl_pop rfl (po_assign rfl) ?_
    refine wl_nil (dl_in ?_)
    refine dl_last 11 rfl (by decide) (by kernel_rfl) ?_
    refine wl_pop rfl (po_assign rfl) ?_
    refine wl_nil (dl_in ?_)
    refine dl_done (by kernel_rfl) ?_
    repeat' (first
      | refine wp_region_seq ?_
      | refine thru_seq_next ?_
      | refine thru_block_next ?_
      | refine wl_nil ?_
      | refine wl_pop rfl (po_move rfl) ?_
      | refine wl_pop rfl (pc_add rfl rfl (by omega) (by omega)) ?_
      | fail)
    have ky := appy.kn ((hwv.les l7).kn kz (by decide))
    have hcnt : (L.take (k + 1)).map Prod.fst = (L.take k).map Prod.fst ++ [(xs.getD k Enc.dflt).act] := by rw [map_take1 (d := (0, nilT)) hk', e1]
    refine ⟨(.sl j1 0 (k + 1), vv', k + 1), by dsimp only; omega, ⟨by dsimp only; omega, (by intro h; cases h), ⟨rfl⟩, oney, appy.les (Nat.le_refl _) lz, by have := appy.len; have := l7.len; have := g13.len; have := g14.len; have := g16.len; omega, ls ++ [⟨(xs.getD k Enc.dflt).op, (xs.getD k Enc.dflt).n, (xs.getD k Enc.dflt).s, hok.eq⟩], ?_, howy, ?_, ((hru.les l7).kn kz (by decide)).kn ky (by decide), ⟨((hsr.les l7).kn kz ⟨by decide⟩).rep.app fun u ps hu => hu.appG (α := TmC) appy⟩, ?_⟩, (by repeat' (first | exact sub_nil | refine sub_cons rfl ?_ | refine sub_int rfl (by first | rfl | omega | (push_cast; omega) | simp) ?_ | refine sub_eq rfl (by assumption) ?_))⟩
    · dsimp only
      rw [hcnt]
      exact (ow_of_has hz1 hz1n (by simp; omega) (by omega)).kn ky (by decide)
    · dsimp only
      rw [map_take1 (d := (0, nilT)) hk']
      exact ((((htr.les l7).kn kz (by decide)).app fun u ps hu => hu.appG (α := TmC) appy)).append (.cons e2 e3 (((rk.les l7).kn kz ⟨by decide⟩).appG (α := TmC) appy) .nil)
    · intro y hy
      rw [take_succ_getD (d := (0, nilT)) hk'] at hy
      rcases List.mem_append.mp hy with hy | hy
      · exact hsm y hy
      · simp only [List.mem_singleton] at hy; subst hy; exact hc24
end
end Go.Proofs.YthbodgnoadlbcaaGreatDoor.Asl
