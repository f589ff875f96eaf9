/- The program's scan: a part, a term. -/
import Derived.Test.YthbodgnoadlbcaaDoorK14
import Derived.Test.YthbodgnoadlbcaaDoorB9
namespace Go.Proofs.YthbodgnoadlbcaaDoor.Asl
open Go.RowKit Go.Proofs.YthbodgnoadlbcaaDoorW.PrintLast
set_option linter.unusedVariables false
set_option linter.unusedSimpArgs false
attribute [local irreducible] WP WL andThen inBlock noGoto atEnd ACall DA DL DX PO Hold nodeOk termS partS bodyS
set_option maxHeartbeats 4000000
set_option synthInstance.maxHeartbeats 400000
set_option synthInstance.maxSize 10000
theorem splice_end {l cs z : List AV} {k : Nat} (h : l.length = k) (hz : z.length = cs.length) : splice (l ++ z) k cs = l ++ cs := by
  subst h
  unfold splice
  simp [hz]
section
variable {E : Env} {ops : Array Oper} {L : List Oper} {Q : Exit → Slots → Store → Prop} {S : Slots} {σ σ₀ : Store} {d : Option Tmp} {ty : TypeId} {pos : String} {af : Array Edge} {x y : Operand}
/-- A row of the term that is nothing, a constant. -/
theorem wc_oneZ {t e : TypeId} {bytes : Nat} {z : Value} (ht : Un E.P t (.slice e)) (he : Ty E.P e true 3 bytes z) (hz : z.cells.size = 3) (hz1 : ∀ v ∈ z.cells.toList, v.oneCell' = true) (hd : okd E d = true)
    (k : ∀ i σ', Grow σ σ' → New σ i → Has σ' i ⟨.own, 3, [I 0, I 0, nilS], []⟩ → WL E ops L Q (S.put d (.sl i 0 1)) σ') : WL E ops (⟨d, .buildSlice t 1 #[(0, .const (.agg #[.int .i64 0, .int .i64 0, .slice none 0 0]))], ty, pos, af, none⟩ :: L) Q S σ := by
  refine wc_buildSlice (rs := [(0, .lit (.agg #[.int .i64 0, .int .i64 0, .slice none 0 0]))]) (cs := [I 0, I 0, nilS]) ht.eq he hz hz1 (by decide) (by simp [evParts, Slots.ev]) ?_ ?_ hd k
  · intro r hr
    simp only [List.mem_cons, List.not_mem_nil, or_false] at hr
    subst hr
    exact ⟨rfl, by simp, by simp [AV.cells, AV.one]⟩
  · simp only [fillA, AV.cells]
    unfold splice
    simp
/-- An append of an empty term, which is then stored. -/
theorem wc_appendTmZ (m : Nat) {t e : TypeId} {s u : AV} {xs : List Tm} {tm : Tm} {j : Nat} {agg : Bool} {bytes : Nat} {z : Value} (hx : S.ev x = some s) (hy : S.ev y = some (.sl j 0 1)) (ht : Un E.P t (.slice e)) (he : Ty E.P e agg 3 bytes z) (hz : z.cells.size = 3) (hb0 : 0 < bytes) (hb : bytes ≤ 4096)
    (h : RepD σ (fun i => σ₀.length ≤ i ∧ i < m) s xs) (hn : xs = [] → s = nilS) (hu : RepD σ (fun i => m ≤ i) u tm.ps) (hm0 : σ₀.length ≤ m) (h0 : σ₀.length ≤ σ.length) (hj : Has σ j ⟨.own, 3, [I 0, I 0, nilS], []⟩) (hone : One u) (hlen : xs.length < 4294967296) (hmay : ∀ id n, s = .sl id 0 n → E.may id) (hd : okd E d = true)
    (k : ∀ i' l σ', l.length = xs.length * 3 → App σ₀ σ s (.sl i' 0 (xs.length + 1)) σ' → σ.length ≤ i' → Has σ' i' ⟨.own, 3, l ++ [I 0, I 0, nilS], []⟩ → (∀ σ'', Upd σ' i' ⟨.own, 3, l ++ [I tm.op, I tm.n, u], []⟩ σ'' → RepD σ'' (fun i => σ₀.length ≤ i) (.sl i' 0 (xs.length + 1)) (xs ++ [tm])) → WL E ops L Q (S.put d (.sl i' 0 (xs.length + 1))) σ') :
    WL E ops (⟨d, .call ⟨.builtin .append, #[x, y], #[t, t]⟩, ty, pos, af, none⟩ :: L) Q S σ := by
  have hap : Appends E.P σ 3 1 (.sl j 0 1) [I 0, I 0, nilS] := Appends.row hj.get (.inr rfl) rfl rfl (by decide)
  have hlim : ∀ n, n ≤ 4294967296 → n * bytes ≤ 140737488355328 := fun n hn => by
    have := Nat.mul_le_mul hn hb
    omega
  have hul := hu.lt
  generalize hs : s = s0 at h
  cases h with
  | nil =>
    have := hn rfl
    subst this
    refine wc_append_nil hx hy ht.eq he hz hb0 hap (by decide) (hlim _ (by simp)) hd fun i σ' hg hnw hh => ?_
    have hnl := hnw.le
    refine k i [] σ' rfl ⟨fun q o _ ho => hg.keep q o ho, hg.len, .inr ⟨_, _, rfl, hnw.le⟩⟩ hnl hh fun σ'' uu => ?_
    refine (RepD.single (id' := i) (t := tm) hul (fun q o hq ho => by rw [uu.eq, List.getElem?_set_ne (by omega)]; exact hg.keep q o ho) (fun q hq => by omega) (instHasUpd (g := uu))).mono (fun _ _ _ h => h) fun q hq => ?_
    rcases hq with hq | rfl <;> omega
  | @row _ id l0 _ ss Fs h1 h2 h3 h4 h5 h6 h7 h8 h9 =>
    subst hs
    have hrow : RepD σ (fun i => σ₀.length ≤ i ∧ i < m) (.sl id 0 xs.length) xs := .row ss Fs h1 h2 h3 h4 h5 h6 h7 h8 h9
    have hrl := hrow.lt
    refine wc_append hx hy ht.eq he hz hb0 h2 rfl h3 hap (hmay _ _ rfl) (hlim _ (by omega)) hd fun i σ₁ σ' hu1 hg hnw hh => ?_
    have hkeep : ∀ (q : Nat) (o : Ob), q ≠ id → σ[q]? = some o → σ'[q]? = some o := fun q o hq ho => hg.keep q o (by rw [hu1.eq, List.getElem?_set_ne (Ne.symm hq)]; exact ho)
    have hnl := hnw.le
    have hl1 := Upd.len hu1
    have hgl := hg.len
    refine k i l0 σ' h3 ⟨fun q o hq ho => hkeep q o ?_ ho, by omega, .inr ⟨_, _, rfl, by omega⟩⟩ (by omega) hh fun σ'' uu => ?_
    · rcases hq with hq | hq
      · have := h1.1; omega
      · intro e; subst e; exact hq _ rfl
    have hr := RepD.snoc (t := tm) hrl h2 hul (fun q ha hb => by omega) (fun q o hF hq ho => by
      have hql := Has.lt ⟨ho⟩
      rw [uu.eq, List.getElem?_set_ne (by omega)]; exact hkeep q o hq ho) (fun q hq => by
      rcases hq with hq | hq
      · have := hq.2; omega
      · have := hq.2; omega) (instHasUpd (g := uu)) hlen
    have hl2 : (xs ++ [tm]).length = xs.length + 1 := by simp
    rw [hl2] at hr
    refine hr.mono (fun _ _ _ h => h) fun q hq => ?_
    rcases hq with hq | hq | rfl
    · exact hq.1.1
    · have := hq.1; omega
    · omega
end
/-- What a scan of a term leaves. -/
def RetScan (σ : Store) (i : Nat) (x : Tm × Sc) : AV → Store → Prop := fun v σ' => ∃ u, v = .agg [I x.1.op, I x.1.n, u] ∧ RTsD σ σ' u x.1.ps ∧ (x.1.ps = [] → u = nilS) ∧ Has σ' i (ScO x.2) ∧ LeB i σ σ'
section
variable {E : Env} {ops : Array Oper} {l : List Oper} {Q : Exit → Slots → Store → Prop} {S : Slots} {σ : Store} {d : Option Tmp} {ty : TypeId} {pos : String} {af : Array Edge} {x y : Operand}
theorem wc_callScan {args : Array Operand} {ats : Array TypeId} {f : FuncId} {rs caps : List AV} {i : Nat} {z : Tm × Sc} {r0 : Sc} (hf : S.ev x = some (.fn f caps)) (hc : Callable E.P f) (hargs : evs S args.toList = some rs)
    (h : ACall E.P E.base f (rs ++ caps) σ (fun j => j = i) (RetScan σ i z)) (ho : Has σ i (ScO r0)) (hm : E.may i) (hd : okd E d = true) (k : ∀ u σ₁ σ', One u → RTsD σ σ' u z.1.ps → Grow σ σ₁ → Upd σ₁ i (ScO z.2) σ' → WL E ops l Q (S.put d (.agg [I z.1.op, I z.1.n, u])) σ') :
    WL E ops (⟨d, .call ⟨.value x, args, ats⟩, ty, pos, af, none⟩ :: l) Q S σ :=
  wl_call hf hc hargs h (fun j hj => by subst hj; exact ⟨hm, _, ho.get, .inl rfl⟩) hd fun r' σ' hK => by
    obtain ⟨u, e, h1, _, h3, h4⟩ := hK
    subst e
    obtain ⟨σ₁, g1, u1⟩ := h4.keep.split ho h3
    exact k u σ₁ σ' h1.new.rts.one h1 g1 u1
end
section
variable {base : Nat}
/-- The contract of a scan of terms of at most f nodes. -/
def CTS (base : Nat) (nb : Nat) (f : Nat) : Prop := ∀ (i : Nat) (r : Sc) (L : Int) (σ : Store) [Has σ i (ScO r)], r.bad = false → r.ok nb L → L < f → ACall Tryd.prog base F_impl_scan_term [.pt i 0] σ (fun j => j = i) (RetScan σ i (termS f r))
/-- What a part leaves: the scan, the term's parts. -/
def RetPart (σ₀ σ : Store) (i it : Nat) (op n : Int) (s : AV) (x : List Tm × Sc) : AV → Store → Prop := fun v σ' => v = .tup [] ∧ Has σ' i (ScO x.2) ∧ ∃ s', Has σ' it ⟨.own, 1, [I op, I n, s'], []⟩ ∧ RepD σ' (fun q => σ₀.length ≤ q) s' x.1 ∧ One s' ∧ (x.1 = [] → s' = nilS) ∧ σ.length ≤ σ'.length ∧ ∀ (q : Nat) (o : Ob), q ≠ i → q ≠ it → (∀ z, s ≠ .sl q 0 z) → σ[q]? = some o → σ'[q]? = some o
theorem c_part {nb f : Nat} (hT : CTS base nb f) (hnb : nb < 4294967281) (σ₀ : Store) (i it j0 : Nat) (r : Sc) (L : Int) (op n : Int) (s : AV) (xs : List Tm) (σ : Store) [hi : Has σ i (ScO r)] [hj : Has σ j0 ⟨.own, 1, [.pt i 0], []⟩] [ht : Has σ it ⟨.own, 1, [I op, I n, s], []⟩]
    (hr : RepD σ (fun q => σ₀.length ≤ q) s xs) (hn : xs = [] → s = nilS) (hxs : xs.length ≤ 2) (hd1 : i ≠ it) (hd2 : i ≠ j0) (hd3 : it ≠ j0) (hi0 : i < σ₀.length) (hit : it < σ₀.length) (hj0 : j0 < σ₀.length) (h0 : σ₀.length ≤ σ.length) (hok : r.ok nb L) (hL : L < f) :
    ACall Tryd.prog base F_impl_scan_term_1 [.pt j0 0, .pt it 0] σ (fun q => q = i ∨ q = it ∨ ∃ z, s = .sl q 0 z) (RetPart σ₀ σ i it op n s (partS (termS f) (xs, r))) := by
  have os : One s := by have := hr.rep; cases this <;> exact ⟨rfl⟩
  refine acall2 fun_impl_scan_term_1 rfl tmps_impl_scan_term_1 rfl fun N B w₀ ρ₀ => ?_
  repeat' (first
    | (refine wc_callSc rfl inferInstance rfl (c_must i [32] r _) inferInstance (.inl (.inl rfl)) rfl ?_; intro _ _ _ _)
    | refine wc_holdR 1 ?_
    | refine wp_seqA ?_
    | refine wp_region_seq ?_
    | refine thru_seq_next ?_
    | refine wl_nil ?_
    | refine wc_load1 rfl inferInstance (at_has (.inl rfl) rfl rfl) rfl ?_
    | fail)
  rename_i σ1 σ2 g1 u2
  have u2k : ∀ (q : Nat) (o : Ob), q ≠ i → σ[q]? = some o → σ2[q]? = some o := fun q o hq ho => by rw [u2.eq, List.getElem?_set_ne (Ne.symm hq)]; exact g1.keep q o ho
  have hl2 : σ.length ≤ σ2.length := by have := Upd.len u2; have := g1.len; omega
  have hi2 : Has σ2 i (ScO (r.must [32])) := instHasUpd (g := u2)
  have hj2 : Has σ2 j0 ⟨.own, 1, [.pt i 0], []⟩ := ⟨u2k _ _ (Ne.symm hd2) hj.get⟩
  have ht2 : Has σ2 it ⟨.own, 1, [I op, I n, s], []⟩ := ⟨u2k _ _ (Ne.symm hd1) ht.get⟩
  have hr2 : RepD σ2 (fun q => σ₀.length ≤ q) s xs := hr.mono (fun q o hq ho => u2k q o (by omega) ho) (fun _ h => h)
  have rts2 : RTs σ2 s xs := ⟨hr2.rep.mono (fun _ _ _ h => h) (fun _ _ => trivial)⟩
  have hok2 := hok.must [32]
  clear u2
  refine hold_go ?_
  repeat' (first
    | refine at_next (res0 rfl) ?_
    | refine wp_region_seq ?_
    | refine thru_seq_next ?_
    | refine wp_skipA ?_
    | refine wl_nil ?_
    | refine wl_pop rfl (po_fieldAddr rfl inferInstance) ?_
    | refine wc_load1 rfl inferInstance (at_has (.inl rfl) rfl rfl) rfl ?_
    | refine wl_pop rfl (po_not rfl) ?_
    | refine wl_pop rfl (po_nilCheck rfl) ?_
    | refine wp_condA rfl (fun _ => ?_) (fun _ => ?_)
    | fail)
  · rename_i hb
    have hb' : (r.must [32]).bad = false := by simpa using hb
    refine wc_drawnXp (t := 2) i [6, 7, 8, 9, 10] mixed_ rfl rfl ?_
    refine dx_pure 0 rfl rfl (by kernel_rfl) (po_fieldAddr rfl inferInstance) ?_
    refine dx_load1 1 rfl rfl (by kernel_rfl) rfl inferInstance (at_has (h := ht2) (.inl rfl) rfl rfl) ht2.lt hi2 (Ne.symm hd1) ?_
    refine dx_load1 2 rfl rfl (by kernel_rfl) rfl inferInstance (at_has (h := hj2) (.inl rfl) rfl rfl) hj2.lt hi2 (Ne.symm hd2) ?_
    refine dx_pure 4 rfl rfl (by kernel_rfl) (pc_lenT rfl rts2 inferInstance) ?_
    refine dx_twoB 3 5 rfl rfl (by kernel_rfl) hi2 (.inl (.inl rfl)) ?_ ?_
    · intro N' B' w' r' may' hmay
      refine wc_callScan rfl inferInstance rfl (hT i (r.must [32]) L σ2 hb' hok2 hL) hi2 (hmay _ (.inl rfl)) rfl ?_
      intro u σa σb ou ru ga ub
      have kb : ∀ (q : Nat) (o : Ob), q ≠ i → σ2[q]? = some o → σb[q]? = some o := fun q o hq ho => by rw [ub.eq, List.getElem?_set_ne (Ne.symm hq)]; exact ga.keep q o ho
      have lb : σ2.length ≤ σb.length := by have := Upd.len ub; have := ga.len; omega
      refine wl_nil ⟨rfl, lb, ?_⟩
      refine dx_new 5 rfl (by kernel_rfl) ?_
      intro N'' B'' w'' r'' may'' hmay''
      refine wc_oneZ inferInstance inferInstance rfl (by decide) rfl ?_
      intro j σc gc nc hc
      have ljc := nc.le
      refine wl_nil ⟨rfl, gc.len, ?_⟩
      have hiC : Has σc i (ScO (termS f (r.must [32])).2) := ⟨gc.keep _ _ (instHasUpd (g := ub) : Has σb i (ScO (termS f (r.must [32])).2)).get⟩
      have htC : Has σc it ⟨.own, 1, [I op, I n, s], []⟩ := ⟨gc.keep _ _ (kb _ _ (Ne.symm hd1) ht2.get)⟩
      have kC : ∀ (q : Nat) (o : Ob), q ≠ i → σ2[q]? = some o → σc[q]? = some o := fun q o hq ho => gc.keep q o (kb q o hq ho)
      obtain ⟨σM, hσM⟩ : ∃ σM, σM = σ2 := ⟨_, rfl⟩
      have R1 : RepD σc (fun q => σ₀.length ≤ q ∧ q < σM.length) s xs := by subst hσM; exact hr2.lt.mono (fun q o hq ho => kC q o (by omega) ho) (fun q h => h)
      have RU : RepD σc (fun q => σM.length ≤ q) u (termS f (r.must [32])).1.ps := by subst hσM; exact ru.rep.mono (fun q o hq ho => gc.keep q o ho) (fun q h => h)
      have zM : σ₀.length ≤ σM.length := by subst hσM; omega
      have zN : σ₀.length ≤ σc.length := by have := gc.len; omega
      have zC : σ2.length ≤ σc.length := by have := gc.len; omega
      refine dx_last 6 rfl (by decide) (by kernel_rfl) ?_
      refine wc_appendTmZ (σ₀ := σ₀) (tm := (termS f (r.must [32])).1) σM.length rfl rfl inferInstance inferInstance rfl (by decide) (by decide) R1 hn RU zM zN hc ou (by omega) (fun q z e => .inl (.inr (.inr ⟨z, e⟩))) rfl ?_
      intro i' l σd hll app hnew hd hfin
      refine wl_nil (dl_in ?_)
      refine dl_pure 7 rfl rfl (by kernel_rfl) (pc_indexAddr rfl rfl inferInstance inferInstance (by omega)) ?_
      refine dl_pure 9 rfl rfl (by kernel_rfl) (po_fieldAddr rfl inferInstance) ?_
      have xi := app.keep i _ (.inl hi0) hiC.get
      have xt := app.keep it _ (.inl hit) htC.get
      have e1 : partS (termS f) (xs, r) = (xs ++ [(termS f (r.must [32])).1], (termS f (r.must [32])).2) := by unfold partS; rw [if_neg (by rw [hb']; decide)]
      refine dl_two 8 10 rfl rfl (by decide) (by decide) (by kernel_rfl) ?_ ?_
      · refine wc_storeA rfl rfl inferInstance hd rfl inferInstance (by simp only [List.length_append, List.length_cons, List.length_nil]; omega) (.inr (by omega)) ?_
        intro σe ue
        rw [Nat.zero_add, splice_end (z := [I 0, I 0, nilS]) (cs := [I (termS f (r.must [32])).1.op, I (termS f (r.must [32])).1.n, u]) hll rfl] at ue
        have rf := hfin σe ue
        have hiE : Has σe i (ScO (termS f (r.must [32])).2) := ⟨by rw [ue.eq, List.getElem?_set_ne (by omega)]; exact xi⟩
        have htE : Has σe it ⟨.own, 1, [I op, I n, s], []⟩ := ⟨by rw [ue.eq, List.getElem?_set_ne (by omega)]; exact xt⟩
        refine wl_nil (dl_in ?_)
        refine dl_last 10 rfl (by decide) (by kernel_rfl) ?_
        refine wc_store1 rfl rfl inferInstance htE ⟨rfl⟩ (Nat.le_of_ble_eq_true rfl) (.inl (.inr (.inl rfl))) ?_
        intro σf uf
        refine wl_nil (dl_in ?_)
        refine dl_done (by kernel_rfl) ?_
        repeat' (first
          | refine at_next (res0 rfl) ?_
          | fail)
        rw [e1]
        refine ⟨rfl, ⟨by rw [uf.eq, List.getElem?_set_ne (by omega)]; exact hiE.get⟩, .sl i' 0 (xs.length + 1), instHasUpd (g := uf), rf.mono (fun q o hq ho => by rw [uf.eq, List.getElem?_set_ne (by omega)]; exact ho) (fun _ h => h), ⟨rfl⟩, by simp, ?_, ?_⟩
        · have := Upd.len uf; have := Upd.len ue; have := app.len; omega
        · intro q o h1 h2 h3 ho
          have hql := Has.lt ⟨ho⟩
          rw [uf.eq, List.getElem?_set_ne (by omega), ue.eq, List.getElem?_set_ne (by omega)]
          exact app.keep q o (.inr h3) (kC q o h1 (u2k q o h1 ho))
      · have xd : Has σd it ⟨.own, 1, [I op, I n, s], []⟩ := ⟨xt⟩
        refine wc_store1 rfl rfl inferInstance xd ⟨rfl⟩ (Nat.le_of_ble_eq_true rfl) (.inl (.inr (.inl rfl))) ?_
        intro σe ue
        have hdE : Has σe i' ⟨.own, 3, l ++ [I 0, I 0, nilS], []⟩ := ⟨by rw [ue.eq, List.getElem?_set_ne (by omega)]; exact hd.get⟩
        refine wl_nil (dl_in ?_)
        refine dl_last 8 rfl (by decide) (by kernel_rfl) ?_
        refine wc_storeA rfl rfl inferInstance hdE rfl inferInstance (by simp only [List.length_append, List.length_cons, List.length_nil]; omega) (.inr (by omega)) ?_
        intro σf uf
        rw [Nat.zero_add, splice_end (z := [I 0, I 0, nilS]) (cs := [I (termS f (r.must [32])).1.op, I (termS f (r.must [32])).1.n, u]) hll rfl] at uf
        have rf := hfin (σd.set i' ⟨.own, 3, l ++ [I (termS f (r.must [32])).1.op, I (termS f (r.must [32])).1.n, u], []⟩) ⟨hd.lt, rfl⟩
        have htF : Has σf it ⟨.own, 1, [I op, I n, .sl i' 0 (xs.length + 1)], []⟩ := ⟨by rw [uf.eq, List.getElem?_set_ne (by omega)]; exact (instHasUpd (g := ue) : Has σe it ⟨.own, 1, [I op, I n, .sl i' 0 (xs.length + 1)], []⟩).get⟩
        refine wl_nil (dl_in ?_)
        refine dl_done (by kernel_rfl) ?_
        repeat' (first
          | refine at_next (res0 rfl) ?_
          | fail)
        rw [e1]
        refine ⟨rfl, ⟨by rw [uf.eq, List.getElem?_set_ne (by omega), ue.eq, List.getElem?_set_ne (by omega)]; exact xi⟩, .sl i' 0 (xs.length + 1), htF, rf.mono (fun q o hq ho => ?_) (fun _ h => h), ⟨rfl⟩, by simp, ?_, ?_⟩
        · rw [uf.eq, ue.eq]
          by_cases e : q = i'
          · subst e
            have := hd.lt
            rw [List.getElem?_set_self (by omega)] at ho
            rw [List.getElem?_set_self (by rw [List.length_set]; omega)]
            exact ho
          · rw [List.getElem?_set_ne (Ne.symm e)] at ho
            rw [List.getElem?_set_ne (Ne.symm e), List.getElem?_set_ne (by omega)]
            exact ho
        · have := Upd.len uf; have := Upd.len ue; have := app.len; omega
        · intro q o h1 h2 h3 ho
          have hql := Has.lt ⟨ho⟩
          rw [uf.eq, List.getElem?_set_ne (by omega), ue.eq, List.getElem?_set_ne (by omega)]
          exact app.keep q o (.inr h3) (kC q o h1 (u2k q o h1 ho))
    · intro N' B' w' r' may' hmay
      refine wc_oneZ inferInstance inferInstance rfl (by decide) rfl ?_
      intro j σM gM nM hM
      have ljM := nM.le
      have lM := gM.len
      refine wl_nil ⟨rfl, gM.len, ?_⟩
      have hiM : Has σM i (ScO (r.must [32])) := ⟨gM.keep _ _ hi2.get⟩
      refine dx_one 3 rfl (by kernel_rfl) hiM (.inl (.inl rfl)) ?_
      intro N'' B'' w'' r'' may'' hmay''
      refine wc_callScan rfl inferInstance rfl (hT i (r.must [32]) L σM hb' hok2 hL) hiM (hmay'' _ (.inl rfl)) rfl ?_
      intro u σa σc ou ru ga ub
      have kb : ∀ (q : Nat) (o : Ob), q ≠ i → σM[q]? = some o → σc[q]? = some o := fun q o hq ho => by rw [ub.eq, List.getElem?_set_ne (Ne.symm hq)]; exact ga.keep q o ho
      have lb : σM.length ≤ σc.length := by have := Upd.len ub; have := ga.len; omega
      refine wl_nil ⟨rfl, lb, ?_⟩
      have hc : Has σc j ⟨.own, 3, [I 0, I 0, nilS], []⟩ := ⟨kb _ _ (by omega) hM.get⟩
      have hiC : Has σc i (ScO (termS f (r.must [32])).2) := instHasUpd (g := ub)
      have htC : Has σc it ⟨.own, 1, [I op, I n, s], []⟩ := ⟨kb _ _ (Ne.symm hd1) (gM.keep _ _ ht2.get)⟩
      have kC : ∀ (q : Nat) (o : Ob), q ≠ i → σ2[q]? = some o → σc[q]? = some o := fun q o hq ho => kb q o hq (gM.keep q o ho)
      have R1 : RepD σc (fun q => σ₀.length ≤ q ∧ q < σM.length) s xs := hr2.lt.mono (fun q o hq ho => kC q o (by omega) ho) (fun q h => ⟨h.1, by have := h.2; omega⟩)
      have RU : RepD σc (fun q => σM.length ≤ q) u (termS f (r.must [32])).1.ps := ru.rep
      have zM : σ₀.length ≤ σM.length := by omega
      have zN : σ₀.length ≤ σc.length := by omega
      have zC : σ2.length ≤ σc.length := by omega
      refine dx_last 6 rfl (by decide) (by kernel_rfl) ?_
      refine wc_appendTmZ (σ₀ := σ₀) (tm := (termS f (r.must [32])).1) σM.length rfl rfl inferInstance inferInstance rfl (by decide) (by decide) R1 hn RU zM zN hc ou (by omega) (fun q z e => .inl (.inr (.inr ⟨z, e⟩))) rfl ?_
      intro i' l σd hll app hnew hd hfin
      refine wl_nil (dl_in ?_)
      refine dl_pure 7 rfl rfl (by kernel_rfl) (pc_indexAddr rfl rfl inferInstance inferInstance (by omega)) ?_
      refine dl_pure 9 rfl rfl (by kernel_rfl) (po_fieldAddr rfl inferInstance) ?_
      have xi := app.keep i _ (.inl hi0) hiC.get
      have xt := app.keep it _ (.inl hit) htC.get
      have e1 : partS (termS f) (xs, r) = (xs ++ [(termS f (r.must [32])).1], (termS f (r.must [32])).2) := by unfold partS; rw [if_neg (by rw [hb']; decide)]
      refine dl_two 8 10 rfl rfl (by decide) (by decide) (by kernel_rfl) ?_ ?_
      · refine wc_storeA rfl rfl inferInstance hd rfl inferInstance (by simp only [List.length_append, List.length_cons, List.length_nil]; omega) (.inr (by omega)) ?_
        intro σe ue
        rw [Nat.zero_add, splice_end (z := [I 0, I 0, nilS]) (cs := [I (termS f (r.must [32])).1.op, I (termS f (r.must [32])).1.n, u]) hll rfl] at ue
        have rf := hfin σe ue
        have hiE : Has σe i (ScO (termS f (r.must [32])).2) := ⟨by rw [ue.eq, List.getElem?_set_ne (by omega)]; exact xi⟩
        have htE : Has σe it ⟨.own, 1, [I op, I n, s], []⟩ := ⟨by rw [ue.eq, List.getElem?_set_ne (by omega)]; exact xt⟩
        refine wl_nil (dl_in ?_)
        refine dl_last 10 rfl (by decide) (by kernel_rfl) ?_
        refine wc_store1 rfl rfl inferInstance htE ⟨rfl⟩ (Nat.le_of_ble_eq_true rfl) (.inl (.inr (.inl rfl))) ?_
        intro σf uf
        refine wl_nil (dl_in ?_)
        refine dl_done (by kernel_rfl) ?_
        repeat' (first
          | refine at_next (res0 rfl) ?_
          | fail)
        rw [e1]
        refine ⟨rfl, ⟨by rw [uf.eq, List.getElem?_set_ne (by omega)]; exact hiE.get⟩, .sl i' 0 (xs.length + 1), instHasUpd (g := uf), rf.mono (fun q o hq ho => by rw [uf.eq, List.getElem?_set_ne (by omega)]; exact ho) (fun _ h => h), ⟨rfl⟩, by simp, ?_, ?_⟩
        · have := Upd.len uf; have := Upd.len ue; have := app.len; omega
        · intro q o h1 h2 h3 ho
          have hql := Has.lt ⟨ho⟩
          rw [uf.eq, List.getElem?_set_ne (by omega), ue.eq, List.getElem?_set_ne (by omega)]
          exact app.keep q o (.inr h3) (kC q o h1 (u2k q o h1 ho))
      · have xd : Has σd it ⟨.own, 1, [I op, I n, s], []⟩ := ⟨xt⟩
        refine wc_store1 rfl rfl inferInstance xd ⟨rfl⟩ (Nat.le_of_ble_eq_true rfl) (.inl (.inr (.inl rfl))) ?_
        intro σe ue
        have hdE : Has σe i' ⟨.own, 3, l ++ [I 0, I 0, nilS], []⟩ := ⟨by rw [ue.eq, List.getElem?_set_ne (by omega)]; exact hd.get⟩
        refine wl_nil (dl_in ?_)
        refine dl_last 8 rfl (by decide) (by kernel_rfl) ?_
        refine wc_storeA rfl rfl inferInstance hdE rfl inferInstance (by simp only [List.length_append, List.length_cons, List.length_nil]; omega) (.inr (by omega)) ?_
        intro σf uf
        rw [Nat.zero_add, splice_end (z := [I 0, I 0, nilS]) (cs := [I (termS f (r.must [32])).1.op, I (termS f (r.must [32])).1.n, u]) hll rfl] at uf
        have rf := hfin (σd.set i' ⟨.own, 3, l ++ [I (termS f (r.must [32])).1.op, I (termS f (r.must [32])).1.n, u], []⟩) ⟨hd.lt, rfl⟩
        have htF : Has σf it ⟨.own, 1, [I op, I n, .sl i' 0 (xs.length + 1)], []⟩ := ⟨by rw [uf.eq, List.getElem?_set_ne (by omega)]; exact (instHasUpd (g := ue) : Has σe it ⟨.own, 1, [I op, I n, .sl i' 0 (xs.length + 1)], []⟩).get⟩
        refine wl_nil (dl_in ?_)
        refine dl_done (by kernel_rfl) ?_
        repeat' (first
          | refine at_next (res0 rfl) ?_
          | fail)
        rw [e1]
        refine ⟨rfl, ⟨by rw [uf.eq, List.getElem?_set_ne (by omega), ue.eq, List.getElem?_set_ne (by omega)]; exact xi⟩, .sl i' 0 (xs.length + 1), htF, rf.mono (fun q o hq ho => ?_) (fun _ h => h), ⟨rfl⟩, by simp, ?_, ?_⟩
        · rw [uf.eq, ue.eq]
          by_cases e : q = i'
          · subst e
            have := hd.lt
            rw [List.getElem?_set_self (by omega)] at ho
            rw [List.getElem?_set_self (by rw [List.length_set]; omega)]
            exact ho
          · rw [List.getElem?_set_ne (Ne.symm e)] at ho
            rw [List.getElem?_set_ne (Ne.symm e), List.getElem?_set_ne (by omega)]
            exact ho
        · have := Upd.len uf; have := Upd.len ue; have := app.len; omega
        · intro q o h1 h2 h3 ho
          have hql := Has.lt ⟨ho⟩
          rw [uf.eq, List.getElem?_set_ne (by omega), ue.eq, List.getElem?_set_ne (by omega)]
          exact app.keep q o (.inr h3) (kC q o h1 (u2k q o h1 ho))
  · rename_i hb
    have hb' : (r.must [32]).bad = true := by simpa using hb
    have e1 : partS (termS f) (xs, r) = (xs, r.must [32]) := by unfold partS; rw [if_pos hb']
    rw [e1]
    exact ⟨rfl, hi2, s, ht2, hr2, os, hn, hl2, fun q o h1 _ _ ho => u2k q o h1 ho⟩
end
end Go.Proofs.YthbodgnoadlbcaaDoor.Asl
