/- The graph of a term, as the program says it. -/
import Derived.Test.YthbodgnoadlbcaaGreatDoorK10
import Derived.Test.YthbodgnoadlbcaaGreatDoorK9
import Derived.Test.YthbodgnoadlbcaaGreatDoorS2
namespace Go.Proofs.YthbodgnoadlbcaaGreatDoor.Asl
open Go.RowKit Go.Proofs.YthbodgnoadlbcaaGreatDoorW.PrintLast
set_option linter.unusedVariables false
set_option linter.unusedSimpArgs false
set_option maxHeartbeats 4000000
set_option synthInstance.maxHeartbeats 400000
set_option synthInstance.maxSize 10000
structure GI (σ2 σb σ : Store) (i10 mi : Nat) (sv gv : AV) (xs : List TmC) (S : List Tm) (M : List (ByteArray × AV)) (us : List AV) (g : Gr) : Prop where
  le : LeS σ2 σ
  lb : σb.length ≤ σ.length
  so : OW σ2 σ sv xs
  tr : TRl (NA sv) σ xs S
  mp : Has σ mi (MapOb M)
  hb : Has σ i10 ⟨.own, 1, [gv], []⟩
  go : OW σb σ gv us
  gr : ORs σb σ us g
section
variable {σ2 σb σ σ' : Store} {i10 mi : Nat} {sv sv' gv : AV} {xs : List TmC} {S : List Tm} {M M' : List (ByteArray × AV)} {us : List AV} {g : Gr}
theorem GI.les (h : GI σ2 σb σ i10 mi sv gv xs S M us g) (k : LeS σ σ') : GI σ2 σb σ' i10 mi sv gv xs S M us g :=
  ⟨h.le.trans k, Nat.le_trans h.lb k.len, h.so.les k, h.tr.les k, ⟨k.keep _ _ h.mp.get⟩, ⟨k.keep _ _ h.hb.get⟩, h.go.les k, h.gr.les k⟩
theorem GI.appS (h : GI σ2 σb σ i10 mi sv gv xs S M us g) (a : App σ2 σ sv sv' σ') {x : TmC} {y : Tm} (ho : OW σ2 σ' sv' (xs ++ [x])) (h1 : x.op = y.op) (h2 : x.n = y.n) (h3 : RTsG (NA sv) σ x.s y.ps) : GI σ2 σb σ' i10 mi sv' gv (xs ++ [x]) (S ++ [y]) M us g := by
  have kn := a.kn h.so
  refine ⟨a.les (Nat.le_refl _) h.le, Nat.le_trans h.lb a.len, ho, (h.tr.app fun u ps hu => hu.app (α := TmC) a).append (.cons h1 h2 (h3.app (α := TmC) a) .nil), ⟨kn.keep _ _ (by show 0 ≠ Enc.e TmC; decide) h.mp.get⟩, ⟨kn.keep _ _ (by show 1 ≠ Enc.e TmC; decide) h.hb.get⟩, h.go.kn kn (by decide), h.gr.kn kn (by decide)⟩
theorem GI.putM (h : GI σ2 σb σ i10 mi sv gv xs S M us g) (hm : σ2.length ≤ mi) (u : Upd σ mi (MapOb M') σ') : GI σ2 σb σ' i10 mi sv gv xs S M' us g ∧ KN σ 0 σ' := by
  have kn : KN σ 0 σ' := ⟨fun j o he ho => by
    have : mi ≠ j := fun q => by subst q; rw [h.mp.get] at ho; cases ho; exact he rfl
    rw [u.eq, List.getElem?_set_ne this]; exact ho⟩
  refine ⟨⟨⟨fun i o ho => ?_⟩, by have := Upd.len u; have := h.lb; omega, h.so.kn kn (by decide), h.tr.kn kn (by decide), instHasUpd (g := u), ⟨kn.keep _ _ (by show 1 ≠ 0; decide) h.hb.get⟩, h.go.kn kn (by decide), h.gr.kn kn (by decide)⟩, kn⟩
  have hi : i < σ2.length := Has.lt ⟨ho⟩
  rw [u.eq, List.getElem?_set_ne (by omega)]
  exact h.le.keep i o ho
theorem GI.appM {σh : Store} {w w' : AV} {ms : List Mv} (h : GI σ2 σb σ i10 mi sv gv xs S M us g) (hl : σ2.length ≤ σh.length) (hw : OW σh σ w ms) (hn : ∀ j n m, w = .sl j 0 n → AV.sl j 0 m ∉ us) (a : App σh σ w w' σ') :
    GI σ2 σb σ' i10 mi sv gv xs S M us g ∧ ∀ j n m, w' = .sl j 0 n → AV.sl j 0 m ∉ us := by
  have kn : KN σ 2 σ' := a.kn hw
  refine ⟨⟨a.les hl h.le, Nat.le_trans h.lb a.len, h.so.kn kn (by decide), h.tr.kn kn (by decide), ⟨kn.keep _ _ (by show 0 ≠ 2; decide) h.mp.get⟩, ⟨kn.keep _ _ (by show 1 ≠ 2; decide) h.hb.get⟩, h.go.kn kn (by decide), a.ors h.gr hn⟩, ?_⟩
  intro j n m e hm
  rcases a.fresh with e' | ⟨q, z, e', hq⟩
  · exact hn j n m (e' ▸ e) hm
  · rw [e'] at e; cases e
    have := h.gr.lt hm; omega
end
theorem ow_ne_nil {α : Type} [Enc α] {σ₀ σ : Store} {s : AV} {l : List α} (h : OW σ₀ σ s l) (hl : l ≠ []) : s ≠ Asl.nilS := by
  rcases h.rep with ⟨h1, _⟩ | ⟨i, h1, _⟩
  · exact absurd h1 hl
  · rw [h1]; intro e; cases e
attribute [local irreducible] WP WL andThen inBlock noGoto atEnd ACall DA DL DX PO Hold nodeOk Tm.shape Tm.ok Tm.txt
section
variable {base : Nat}
theorem wc_callMv {E : Env} {ops : Array Oper} {l : List Oper} {Q : Exit → Slots → Store → Prop} {S : Slots} {σ : Store} {d : Option Tmp} {ty : TypeId} {pos : String} {af : Array Edge} {x : Operand} {args : Array Operand} {ats : Array TypeId} {f : FuncId} {rs caps : List AV} {G : Nat → Prop} {L : List Stp} (hf : S.ev x = some (.fn f caps)) (hc : Callable E.P f) (hargs : evs S args.toList = some rs)
    (h : ACall E.P E.base f (rs ++ caps) σ (fun _ => False) (RetMv G σ L)) (hd : okd E d = true) (hall : ∀ y ∈ L, y.2.cnt ≤ 24) (k : ∀ a v ls σ', One a → One v → OW σ σ' a (L.map Prod.fst) → OW σ σ' v ls → TRl G σ' ls (L.map Prod.snd) → Grow σ σ' → WL E ops l Q (S.put d (.tup [a, v, Bo true])) σ') :
    WL E ops (⟨d, .call ⟨.value x, args, ats⟩, ty, pos, af, none⟩ :: l) Q S σ :=
  wc_call hf hc hargs h hd fun r' σ' h => by obtain ⟨h1, h2, h3⟩ := h; obtain ⟨a, v, ls, e, q1, q2, q3⟩ := h2 hall; subst e; exact k a v ls σ' q1.one q2.one q1 q2 q3 h1
theorem wc_callMv0 {E : Env} {ops : Array Oper} {l : List Oper} {Q : Exit → Slots → Store → Prop} {S : Slots} {σ : Store} {d : Option Tmp} {ty : TypeId} {pos : String} {af : Array Edge} {x : Operand} {args : Array Operand} {ats : Array TypeId} {f : FuncId} {rs caps : List AV} {G : Nat → Prop} {L : List Stp} (hf : S.ev x = some (.fn f caps)) (hc : Callable E.P f) (hargs : evs S args.toList = some rs)
    (h : ACall E.P E.base f (rs ++ caps) σ (fun _ => False) (RetMv G σ L)) (hd : okd E d = true) (hall : ¬ ∀ y ∈ L, y.2.cnt ≤ 24) (k : ∀ σ', Grow σ σ' → WL E ops l Q (S.put d (.tup [nilS, nilS, Bo false])) σ') :
    WL E ops (⟨d, .call ⟨.value x, args, ats⟩, ty, pos, af, none⟩ :: l) Q S σ :=
  wc_call hf hc hargs h hd fun r' σ' h => by obtain ⟨h1, h2, h3⟩ := h; have e := h3 hall; subst e; exact k σ' h1
theorem c_built (t : Tm) (ds : List Tm) (hd1 : defsOk ds = true) (q1 : t.shape = true) (q2 : t.callLt ds.length = true) (q3 : t.cnt ≤ 24) (σ : Store) (s d : AV) (j : Nat) [hj : Has σ j ⟨.own, 1, [d], []⟩] [hs : RTs σ s t.ps] [hd : RTs σ d ds] :
    ACall Tryz.prog base F_impl_built_impl_Term [.agg [I t.op, I t.n, s], .fn F_impl_textOf [], .fn F_impl_GraphOf_1 [.pt j 0]] σ (fun _ => False) (RetGO σ (graphL ds t)) := by
  have := hs.one
  have := hd.one
  refine acall3 fun_impl_built_impl_Term rfl tmps_impl_built_impl_Term rfl fun N B w₀ ρ₀ => ?_
  repeat' (first
    | refine wc_holdR 1 ?_
    | refine wp_seqA ?_
    | refine wp_region_seq ?_
    | refine thru_seq_next ?_
    | refine wl_nil ?_
    | refine wl_pop rfl (po_assign rfl) ?_
    | (refine wc_boxA rfl inI rfl ?_; intro _ _ _ _ _)
    | (refine wc_allocA (cs := [_]) inI rfl inI rfl ?_; intro _ _ _ _ _)
    | fail)
  rename_i i3 σ1 g1 n1 h1 i6 σ2 g2 n2 h2
  have l2 : LeS σ σ2 := inI
  have hs2 : RTs σ2 s t.ps := inI
  have h32 : Has σ2 i3 ⟨.own, 1, [I t.op, I t.n, s], []⟩ := inI
  have hsone : One s := inI
  refine wc_cut (ι := Nat × Nat) [(1, .fn F_impl_textOf []), (2, .fn F_impl_GraphOf_1 [.pt j 0]), (6, .pt i6 0)] (fun x => [(8, .sl x.1 0 1), (9, .mp x.2)]) (fun x σ' => LeS σ2 σ' ∧ σ2.length ≤ x.1 ∧ σ2.length ≤ x.2 ∧ Has σ' x.1 (Row [(⟨t.op, t.n, s, hsone.eq⟩ : TmC)]) ∧ Has σ' x.2 (MapOb [(ofL t.txt, I 0)])) ?_ ?_
  · refine wc_drawn [9] mixed_ rfl ?_
    refine da_takeC 0 rfl rfl (by kernel_rfl) (pc_loadnL rfl inI (at_has (cs := [_, _, _]) (.inl rfl) rfl rfl) inI) ?_
    refine da_takeC 3 rfl rfl (by kernel_rfl) (po_move rfl) ?_
    refine da_takeC 4 rfl rfl (by kernel_rfl) (pc_loadnL rfl inI (at_has (cs := [_, _, _]) (.inl rfl) rfl rfl) inI) ?_
    refine da_some [1, 2, 5] (by kernel_rfl) (by simp) ?_
    intro q hq
    rcases (by simpa using hq : q = 1 ∨ q = 2 ∨ q = 5) with rfl | rfl | rfl
    · refine ⟨_, rfl, fun N' B' w' r' => ?_⟩
      refine wc_oneTmC rfl inI inI rfl (by decide) rfl ?_
      intro iA σd3 gd3 nA hA
      have zA : σ2.length ≤ iA := Nat.le_trans (LeS.len inI) nA.le
      refine wl_nil ⟨rfl, gd3.len, ?_⟩
      refine da_some [2, 5] (by kernel_rfl) (by simp) ?_
      intro q hq
      rcases (by simpa using hq : q = 2 ∨ q = 5) with rfl | rfl
      · refine ⟨_, rfl, fun N' B' w' r' => ?_⟩
        refine wc_makeMap (κ := ByteArray) rfl ?_
        intro iM σd4 gd4 nM hM
        have zM : σ2.length ≤ iM := Nat.le_trans (LeS.len inI) nM.le
        refine wl_nil ⟨rfl, gd4.len, ?_⟩
        refine da_some [5] (by kernel_rfl) (by simp) ?_
        intro q hq
        obtain rfl : q = 5 := by simpa using hq
        refine ⟨_, rfl, fun N' B' w' r' => ?_⟩
        refine wc_callR rfl inI rfl (c_textOf t q1 (by omega) _ _ inI) rfl ?_
        intro σd5 gd5
        refine wl_nil ⟨rfl, gd5.len, ?_⟩
        refine da_takeC 8 rfl rfl (by kernel_rfl) (po_assign rfl) ?_
        refine da_some [6] (by kernel_rfl) (by simp) ?_
        intro q hq
        obtain rfl : q = 6 := by simpa using hq
        refine ⟨_, rfl, fun N' B' w' r' => ?_⟩
        refine wc_mapNew (κ := ByteArray) (.inr rfl) rfl rfl rfl Un.eq Un.eq rfl inI rfl (.inr zM) ?_
        intro σd6 ud
        have hMz : Has σd6 iM (MapOb [(ofL t.txt, I 0)]) := instHasUpd (g := ud)
        refine wl_nil ⟨rfl, by have := Upd.len ud; omega, ?_⟩
        refine da_takeC 7 rfl rfl (by kernel_rfl) (po_move rfl) ?_
        refine da_last 9 rfl (by decide) (by kernel_rfl) ?_
        refine wl_pop rfl (po_assign rfl) ?_
        refine wl_nil (dl_in ?_)
        refine dl_done (by kernel_rfl) ?_
        repeat' (first
          | refine thru_seq_next ?_
          | fail)
        exact ⟨(iA, iM), ⟨inI, zA, zM, inI, inI⟩, (by repeat' (first | exact sub_nil | refine sub_cons rfl ?_ | refine sub_int rfl (by first | rfl | omega | (push_cast; omega) | simp) ?_ | refine sub_eq rfl (by assumption) ?_))⟩
      · refine ⟨_, rfl, fun N' B' w' r' => ?_⟩
        refine wc_callR rfl inI rfl (c_textOf t q1 (by omega) _ _ inI) rfl ?_
        intro σd4 gd4
        refine wl_nil ⟨rfl, gd4.len, ?_⟩
        refine da_takeC 8 rfl rfl (by kernel_rfl) (po_assign rfl) ?_
        refine da_some [2] (by kernel_rfl) (by simp) ?_
        intro q hq
        obtain rfl : q = 2 := by simpa using hq
        refine ⟨_, rfl, fun N' B' w' r' => ?_⟩
        refine wc_makeMap (κ := ByteArray) rfl ?_
        intro iM σd5 gd5 nM hM
        have zM : σ2.length ≤ iM := Nat.le_trans (LeS.len inI) nM.le
        refine wl_nil ⟨rfl, gd5.len, ?_⟩
        refine da_some [6] (by kernel_rfl) (by simp) ?_
        intro q hq
        obtain rfl : q = 6 := by simpa using hq
        refine ⟨_, rfl, fun N' B' w' r' => ?_⟩
        refine wc_mapNew (κ := ByteArray) (.inr rfl) rfl rfl rfl Un.eq Un.eq rfl inI rfl (.inr zM) ?_
        intro σd6 ud
        have hMz : Has σd6 iM (MapOb [(ofL t.txt, I 0)]) := instHasUpd (g := ud)
        refine wl_nil ⟨rfl, by have := Upd.len ud; omega, ?_⟩
        refine da_takeC 7 rfl rfl (by kernel_rfl) (po_move rfl) ?_
        refine da_last 9 rfl (by decide) (by kernel_rfl) ?_
        refine wl_pop rfl (po_assign rfl) ?_
        refine wl_nil (dl_in ?_)
        refine dl_done (by kernel_rfl) ?_
        repeat' (first
          | refine thru_seq_next ?_
          | fail)
        exact ⟨(iA, iM), ⟨inI, zA, zM, inI, inI⟩, (by repeat' (first | exact sub_nil | refine sub_cons rfl ?_ | refine sub_int rfl (by first | rfl | omega | (push_cast; omega) | simp) ?_ | refine sub_eq rfl (by assumption) ?_))⟩
    · refine ⟨_, rfl, fun N' B' w' r' => ?_⟩
      refine wc_makeMap (κ := ByteArray) rfl ?_
      intro iM σd3 gd3 nM hM
      have zM : σ2.length ≤ iM := Nat.le_trans (LeS.len inI) nM.le
      refine wl_nil ⟨rfl, gd3.len, ?_⟩
      refine da_some [1, 5] (by kernel_rfl) (by simp) ?_
      intro q hq
      rcases (by simpa using hq : q = 1 ∨ q = 5) with rfl | rfl
      · refine ⟨_, rfl, fun N' B' w' r' => ?_⟩
        refine wc_oneTmC rfl inI inI rfl (by decide) rfl ?_
        intro iA σd4 gd4 nA hA
        have zA : σ2.length ≤ iA := Nat.le_trans (LeS.len inI) nA.le
        refine wl_nil ⟨rfl, gd4.len, ?_⟩
        refine da_some [5] (by kernel_rfl) (by simp) ?_
        intro q hq
        obtain rfl : q = 5 := by simpa using hq
        refine ⟨_, rfl, fun N' B' w' r' => ?_⟩
        refine wc_callR rfl inI rfl (c_textOf t q1 (by omega) _ _ inI) rfl ?_
        intro σd5 gd5
        refine wl_nil ⟨rfl, gd5.len, ?_⟩
        refine da_takeC 8 rfl rfl (by kernel_rfl) (po_assign rfl) ?_
        refine da_some [6] (by kernel_rfl) (by simp) ?_
        intro q hq
        obtain rfl : q = 6 := by simpa using hq
        refine ⟨_, rfl, fun N' B' w' r' => ?_⟩
        refine wc_mapNew (κ := ByteArray) (.inr rfl) rfl rfl rfl Un.eq Un.eq rfl inI rfl (.inr zM) ?_
        intro σd6 ud
        have hMz : Has σd6 iM (MapOb [(ofL t.txt, I 0)]) := instHasUpd (g := ud)
        refine wl_nil ⟨rfl, by have := Upd.len ud; omega, ?_⟩
        refine da_takeC 7 rfl rfl (by kernel_rfl) (po_move rfl) ?_
        refine da_last 9 rfl (by decide) (by kernel_rfl) ?_
        refine wl_pop rfl (po_assign rfl) ?_
        refine wl_nil (dl_in ?_)
        refine dl_done (by kernel_rfl) ?_
        repeat' (first
          | refine thru_seq_next ?_
          | fail)
        exact ⟨(iA, iM), ⟨inI, zA, zM, inI, inI⟩, (by repeat' (first | exact sub_nil | refine sub_cons rfl ?_ | refine sub_int rfl (by first | rfl | omega | (push_cast; omega) | simp) ?_ | refine sub_eq rfl (by assumption) ?_))⟩
      · refine ⟨_, rfl, fun N' B' w' r' => ?_⟩
        refine wc_callR rfl inI rfl (c_textOf t q1 (by omega) _ _ inI) rfl ?_
        intro σd4 gd4
        refine wl_nil ⟨rfl, gd4.len, ?_⟩
        refine da_some [1, 6] (by kernel_rfl) (by simp) ?_
        intro q hq
        rcases (by simpa using hq : q = 1 ∨ q = 6) with rfl | rfl
        · refine ⟨_, rfl, fun N' B' w' r' => ?_⟩
          refine wc_oneTmC rfl inI inI rfl (by decide) rfl ?_
          intro iA σd5 gd5 nA hA
          have zA : σ2.length ≤ iA := Nat.le_trans (LeS.len inI) nA.le
          refine wl_nil ⟨rfl, gd5.len, ?_⟩
          refine da_takeC 8 rfl rfl (by kernel_rfl) (po_assign rfl) ?_
          refine da_some [6] (by kernel_rfl) (by simp) ?_
          intro q hq
          obtain rfl : q = 6 := by simpa using hq
          refine ⟨_, rfl, fun N' B' w' r' => ?_⟩
          refine wc_mapNew (κ := ByteArray) (.inr rfl) rfl rfl rfl Un.eq Un.eq rfl inI rfl (.inr zM) ?_
          intro σd6 ud
          have hMz : Has σd6 iM (MapOb [(ofL t.txt, I 0)]) := instHasUpd (g := ud)
          refine wl_nil ⟨rfl, by have := Upd.len ud; omega, ?_⟩
          refine da_takeC 7 rfl rfl (by kernel_rfl) (po_move rfl) ?_
          refine da_last 9 rfl (by decide) (by kernel_rfl) ?_
          refine wl_pop rfl (po_assign rfl) ?_
          refine wl_nil (dl_in ?_)
          refine dl_done (by kernel_rfl) ?_
          repeat' (first
            | refine thru_seq_next ?_
            | fail)
          exact ⟨(iA, iM), ⟨inI, zA, zM, inI, inI⟩, (by repeat' (first | exact sub_nil | refine sub_cons rfl ?_ | refine sub_int rfl (by first | rfl | omega | (push_cast; omega) | simp) ?_ | refine sub_eq rfl (by assumption) ?_))⟩
        · refine ⟨_, rfl, fun N' B' w' r' => ?_⟩
          refine wc_mapNew (κ := ByteArray) (.inr rfl) rfl rfl rfl Un.eq Un.eq rfl inI rfl (.inr zM) ?_
          intro σd5 ud
          have hMz : Has σd5 iM (MapOb [(ofL t.txt, I 0)]) := instHasUpd (g := ud)
          refine wl_nil ⟨rfl, by have := Upd.len ud; omega, ?_⟩
          refine da_takeC 7 rfl rfl (by kernel_rfl) (po_move rfl) ?_
          refine da_some [1] (by kernel_rfl) (by simp) ?_
          intro q hq
          obtain rfl : q = 1 := by simpa using hq
          refine ⟨_, rfl, fun N' B' w' r' => ?_⟩
          refine wc_oneTmC rfl inI inI rfl (by decide) rfl ?_
          intro iA σd6 gd6 nA hA
          have zA : σ2.length ≤ iA := Nat.le_trans (LeS.len inI) nA.le
          refine wl_nil ⟨rfl, gd6.len, ?_⟩
          refine da_takeC 8 rfl rfl (by kernel_rfl) (po_assign rfl) ?_
          refine da_last 9 rfl (by decide) (by kernel_rfl) ?_
          refine wl_pop rfl (po_assign rfl) ?_
          refine wl_nil (dl_in ?_)
          refine dl_done (by kernel_rfl) ?_
          repeat' (first
            | refine thru_seq_next ?_
            | fail)
          exact ⟨(iA, iM), ⟨inI, zA, zM, inI, inI⟩, (by repeat' (first | exact sub_nil | refine sub_cons rfl ?_ | refine sub_int rfl (by first | rfl | omega | (push_cast; omega) | simp) ?_ | refine sub_eq rfl (by assumption) ?_))⟩
    · refine ⟨_, rfl, fun N' B' w' r' => ?_⟩
      refine wc_callR rfl inI rfl (c_textOf t q1 (by omega) _ _ inI) rfl ?_
      intro σd3 gd3
      refine wl_nil ⟨rfl, gd3.len, ?_⟩
      refine da_some [1, 2] (by kernel_rfl) (by simp) ?_
      intro q hq
      rcases (by simpa using hq : q = 1 ∨ q = 2) with rfl | rfl
      · refine ⟨_, rfl, fun N' B' w' r' => ?_⟩
        refine wc_oneTmC rfl inI inI rfl (by decide) rfl ?_
        intro iA σd4 gd4 nA hA
        have zA : σ2.length ≤ iA := Nat.le_trans (LeS.len inI) nA.le
        refine wl_nil ⟨rfl, gd4.len, ?_⟩
        refine da_takeC 8 rfl rfl (by kernel_rfl) (po_assign rfl) ?_
        refine da_some [2] (by kernel_rfl) (by simp) ?_
        intro q hq
        obtain rfl : q = 2 := by simpa using hq
        refine ⟨_, rfl, fun N' B' w' r' => ?_⟩
        refine wc_makeMap (κ := ByteArray) rfl ?_
        intro iM σd5 gd5 nM hM
        have zM : σ2.length ≤ iM := Nat.le_trans (LeS.len inI) nM.le
        refine wl_nil ⟨rfl, gd5.len, ?_⟩
        refine da_some [6] (by kernel_rfl) (by simp) ?_
        intro q hq
        obtain rfl : q = 6 := by simpa using hq
        refine ⟨_, rfl, fun N' B' w' r' => ?_⟩
        refine wc_mapNew (κ := ByteArray) (.inr rfl) rfl rfl rfl Un.eq Un.eq rfl inI rfl (.inr zM) ?_
        intro σd6 ud
        have hMz : Has σd6 iM (MapOb [(ofL t.txt, I 0)]) := instHasUpd (g := ud)
        refine wl_nil ⟨rfl, by have := Upd.len ud; omega, ?_⟩
        refine da_takeC 7 rfl rfl (by kernel_rfl) (po_move rfl) ?_
        refine da_last 9 rfl (by decide) (by kernel_rfl) ?_
        refine wl_pop rfl (po_assign rfl) ?_
        refine wl_nil (dl_in ?_)
        refine dl_done (by kernel_rfl) ?_
        repeat' (first
          | refine thru_seq_next ?_
          | fail)
        exact ⟨(iA, iM), ⟨inI, zA, zM, inI, inI⟩, (by repeat' (first | exact sub_nil | refine sub_cons rfl ?_ | refine sub_int rfl (by first | rfl | omega | (push_cast; omega) | simp) ?_ | refine sub_eq rfl (by assumption) ?_))⟩
      · refine ⟨_, rfl, fun N' B' w' r' => ?_⟩
        refine wc_makeMap (κ := ByteArray) rfl ?_
        intro iM σd4 gd4 nM hM
        have zM : σ2.length ≤ iM := Nat.le_trans (LeS.len inI) nM.le
        refine wl_nil ⟨rfl, gd4.len, ?_⟩
        refine da_some [1, 6] (by kernel_rfl) (by simp) ?_
        intro q hq
        rcases (by simpa using hq : q = 1 ∨ q = 6) with rfl | rfl
        · refine ⟨_, rfl, fun N' B' w' r' => ?_⟩
          refine wc_oneTmC rfl inI inI rfl (by decide) rfl ?_
          intro iA σd5 gd5 nA hA
          have zA : σ2.length ≤ iA := Nat.le_trans (LeS.len inI) nA.le
          refine wl_nil ⟨rfl, gd5.len, ?_⟩
          refine da_takeC 8 rfl rfl (by kernel_rfl) (po_assign rfl) ?_
          refine da_some [6] (by kernel_rfl) (by simp) ?_
          intro q hq
          obtain rfl : q = 6 := by simpa using hq
          refine ⟨_, rfl, fun N' B' w' r' => ?_⟩
          refine wc_mapNew (κ := ByteArray) (.inr rfl) rfl rfl rfl Un.eq Un.eq rfl inI rfl (.inr zM) ?_
          intro σd6 ud
          have hMz : Has σd6 iM (MapOb [(ofL t.txt, I 0)]) := instHasUpd (g := ud)
          refine wl_nil ⟨rfl, by have := Upd.len ud; omega, ?_⟩
          refine da_takeC 7 rfl rfl (by kernel_rfl) (po_move rfl) ?_
          refine da_last 9 rfl (by decide) (by kernel_rfl) ?_
          refine wl_pop rfl (po_assign rfl) ?_
          refine wl_nil (dl_in ?_)
          refine dl_done (by kernel_rfl) ?_
          repeat' (first
            | refine thru_seq_next ?_
            | fail)
          exact ⟨(iA, iM), ⟨inI, zA, zM, inI, inI⟩, (by repeat' (first | exact sub_nil | refine sub_cons rfl ?_ | refine sub_int rfl (by first | rfl | omega | (push_cast; omega) | simp) ?_ | refine sub_eq rfl (by assumption) ?_))⟩
        · refine ⟨_, rfl, fun N' B' w' r' => ?_⟩
          refine wc_mapNew (κ := ByteArray) (.inr rfl) rfl rfl rfl Un.eq Un.eq rfl inI rfl (.inr zM) ?_
          intro σd5 ud
          have hMz : Has σd5 iM (MapOb [(ofL t.txt, I 0)]) := instHasUpd (g := ud)
          refine wl_nil ⟨rfl, by have := Upd.len ud; omega, ?_⟩
          refine da_takeC 7 rfl rfl (by kernel_rfl) (po_move rfl) ?_
          refine da_some [1] (by kernel_rfl) (by simp) ?_
          intro q hq
          obtain rfl : q = 1 := by simpa using hq
          refine ⟨_, rfl, fun N' B' w' r' => ?_⟩
          refine wc_oneTmC rfl inI inI rfl (by decide) rfl ?_
          intro iA σd6 gd6 nA hA
          have zA : σ2.length ≤ iA := Nat.le_trans (LeS.len inI) nA.le
          refine wl_nil ⟨rfl, gd6.len, ?_⟩
          refine da_takeC 8 rfl rfl (by kernel_rfl) (po_assign rfl) ?_
          refine da_last 9 rfl (by decide) (by kernel_rfl) ?_
          refine wl_pop rfl (po_assign rfl) ?_
          refine wl_nil (dl_in ?_)
          refine dl_done (by kernel_rfl) ?_
          repeat' (first
            | refine thru_seq_next ?_
            | fail)
          exact ⟨(iA, iM), ⟨inI, zA, zM, inI, inI⟩, (by repeat' (first | exact sub_nil | refine sub_cons rfl ?_ | refine sub_int rfl (by first | rfl | omega | (push_cast; omega) | simp) ?_ | refine sub_eq rfl (by assumption) ?_))⟩
  rintro ⟨iA, iM⟩ σ3 ⟨l3, zA, zM, hA, hM⟩
  dsimp only at zA zM hA hM ⊢
  have l03 : LeS σ σ3 := l2.trans l3
  repeat' (first
    | refine wl_pop rfl (pc_build0 (cs := [_]) inI inI rfl) ?_
    | refine wp_seqA ?_
    | refine wp_region_seq ?_
    | refine thru_seq_next ?_
    | refine wp_blockA ?_
    | refine wl_nil ?_
    | refine wl_pop rfl (po_assign rfl) ?_
    | (refine wc_storeA rfl rfl inI inI rfl inI (Nat.le_of_ble_eq_true rfl) (.inr (may_new _)) ?_; intro _ _)
    | (refine wc_allocA (cs := [_]) inI rfl inI rfl ?_; intro _ _ _ _ _)
    | fail)
  rename_i i10 σ4 g4 n4 h4 σ5 u5
  have h5 : Has σ5 i10 ⟨.own, 1, [nilS], []⟩ := instHasUpd (g := u5)
  have l25 : LeS σ2 σ5 := inI
  have l35 : LeS σ3 σ5 := inI
  have z1 := l2.len
  have z3 := l3.len
  have y4 := n4.le
  have h2i : σ2.length ≤ i10 := by omega
  have hA5 : Has σ5 iA (Row [(⟨t.op, t.n, s, hsone.eq⟩ : TmC)]) := ⟨l35.keep _ _ hA.get⟩
  have hM5 : Has σ5 iM (MapOb [(ofL t.txt, I 0)]) := ⟨l35.keep _ _ hM.get⟩
  have h65 : Has σ5 i6 ⟨.own, 1, [nilS], []⟩ := ⟨l25.keep _ _ h2.get⟩
  have hi6 := h2.lt
  have h0 : GI σ2 σ5 σ5 i10 iM (.sl iA 0 1) nilS [⟨t.op, t.n, s, hsone.eq⟩] [t] (atF 0 [t]) [] [] :=
    ⟨l25, Nat.le_refl _, ow_of_has hA5 zA rfl (by decide), .cons rfl rfl (rtsG_old hs2 l25 (fun j n e => by cases e; omega)) .nil, hM5, h5, OW.nilS _ _, ORs.nil _ _⟩
  refine wc_loop [(1, _), (2, _), (6, _), (9, _), (10, _)] (fun x : AV × Nat => [(8, x.1), (11, I x.2)]) (fun x σ' => One x.1 ∧ ∃ gv xs S us g, GI σ2 σ5 σ' i10 iM x.1 gv xs S (atF 0 S) us g ∧ StOk ds S ∧ g.length = x.2 ∧ x.2 ≤ S.length ∧ growN ds (61 - x.2) (S, g) = graphL ds t) (fun x => 61 - x.2) (.sl iA 0 1, 0) ⟨inI, nilS, _, [t], [], [], h0, ⟨fun u hu => by simp at hu; subst hu; exact ⟨q1, q2, q3⟩, by simp⟩, rfl, by simp, rfl⟩ (by repeat' (first | exact sub_nil | refine sub_cons rfl ?_ | refine sub_int rfl (by first | rfl | omega | (push_cast; omega) | simp) ?_ | refine sub_eq rfl (by assumption) ?_)) ?_
  rintro ⟨sv, k⟩ σ' ⟨o1, gv, xs, S, us, g, hJ, hS, hgk, hk, hN⟩
  dsimp only at o1 hJ hgk hk hN ⊢
  have hxl := hJ.tr.len
  have hSl := hS.le
  have hr1 : RW σ' sv xs := hJ.so.rw
  have hJle := hJ.le
  have hJ0 : LeS σ σ' := l2.trans hJ.le
  have hi8 := hJ.hb
  have hgo := hJ.go.one
  have h66 : Has σ' i6 ⟨.own, 1, [nilS], []⟩ := ⟨hJ.le.keep _ _ h2.get⟩
  repeat' (first
    | refine wc_holdR 6 ?_
    | refine wc_holdR 24 ?_
    | refine wl_pop rfl (pc_lenRow rfl inI inI) ?_
    | refine wp_seqA ?_
    | refine wp_region_seq ?_
    | refine thru_seq_next ?_
    | refine thru_seq ?_
    | refine exit_here ?_
    | refine wp_skipA ?_
    | refine wp_exitA ?_
    | refine wp_blockA ?_
    | refine wl_nil ?_
    | refine wl_pop rfl (po_move rfl) ?_
    | refine wl_pop rfl (po_binOp rfl rfl rfl) ?_
    | refine wp_condP rfl (fun _ => ?_) (fun _ => ?_)
    | fail)
  rotate_left
  · rename_i hk1
    obtain rfl : k = S.length := by omega
    have hfin : graphL ds t = some g := by
      rw [← hN]
      have : 61 - S.length = (60 - S.length) + 1 := by omega
      rw [this]; simp only [growN]; rw [if_neg (by omega)]
    have hgo9 := hJ.go
    have hgr9 := hJ.gr
    have z6 : i6 < σ5.length := by have := l25.len; omega
    refine hold_go ?_
    repeat' (first
      | refine wc_loadn rfl inI (at_has (cs := [_]) (.inl rfl) rfl rfl) rfl ?_
      | refine at_ret (res_cell2 rfl rfl inI (at_has (cs := [_]) (.inl rfl) rfl rfl) rfl) ?_
      | refine wp_region_seq ?_
      | refine thru_seq_next ?_
      | refine wp_retA ?_
      | refine wl_nil ?_
      | refine wl_pop rfl (po_assign rfl) ?_
      | (refine wc_storeA rfl rfl inI inI rfl inI (Nat.le_of_ble_eq_true rfl) (.inr (may_new _)) ?_; intro _ _)
      | fail)
    rename_i σ7 u7
    have z2 := h2.lt
    refine ⟨gv, us, by rw [hfin]; rfl, (hgo9.keep fun q o hq _ ho => ?_).down (by have := l25.len; omega), hfin ▸ (hgr9.keep fun q o hq _ ho => ?_).down (by have := l25.len; omega), ⟨fun q o ho => ?_⟩⟩
    · rw [u7.eq, List.getElem?_set_ne (by omega)]; exact ho
    · rw [u7.eq, List.getElem?_set_ne (by omega)]; exact ho
    · have hq : q < σ.length := Has.lt ⟨ho⟩
      have := n2.le
      have := g1.len
      rw [u7.eq, List.getElem?_set_ne (by omega)]; exact hJ0.keep q o ho
  rename_i hk1
  have hk' : k < S.length := by omega
  have hkx : k < xs.length := by omega
  obtain ⟨e1, e2, rS⟩ := hJ.tr.at hk'
  obtain ⟨a1, a2, a3⟩ := hS.ok (S.getD k nilT) (by simp [List.getD_eq_getElem?_getD, hk'])
  have hdG : RTsG (NA sv) σ' d ds := rtsG_old hd hJ0 (fun j n e => Nat.le_trans z1 (ow_ids hJ.so j n e))
  have hjj : Has σ' j ⟨.own, 1, [d], []⟩ := ⟨hJ0.keep _ _ hj.get⟩
  have hcall : ACall Tryz.prog base F_impl_GraphOf_1 [.agg [I (xs.getD k Enc.dflt).op, I (xs.getD k Enc.dflt).n, (xs.getD k Enc.dflt).s], .pt j 0] σ' (fun _ => False) (RetMv (NA sv) σ' ((S.getD k nilT).steps ds)) := by
    rw [e1, e2]
    exact c_GraphOf_1 hd1 _ a1 a2 a3 σ' _ d j (na_new hJ.so) (hs := rS) (hd := hdG)
  have hL := Tm.steps_ok hd1 a1 a2 a3
  have hLl := Tm.steps_len hd1 a3
  have hgr1 : growN ds (61 - k) (S, g) = ((lookL S ((S.getD k nilT).steps ds)).map fun y => (y.1, g ++ [tidyL y.2])).bind (growN ds (60 - k)) := by
    have : 61 - k = (60 - k) + 1 := by omega
    rw [this]; simp only [growN]; rw [if_pos (by omega)]
    simp only [grow1, hgk]
  rw [hN] at hgr1
  generalize (S.getD k nilT).steps ds = L at *
  have hone : One (xs.getD k Enc.dflt).s := ⟨(xs.getD k Enc.dflt).one⟩
  refine hold_go ?_
  by_cases hall : ∀ y ∈ L, y.2.cnt ≤ 24
  rotate_left
  · have hno := look_great hS hL hall
    rw [hno] at hgr1
    repeat' (first
      | refine wl_pop rfl (pc_ldTmC rfl inI inI (by omega) inI) ?_
      | (refine wc_callMv0 rfl inI rfl hcall rfl hall ?_; intro _ _)
      | refine wl_pop rfl (pc_indexRow rfl rfl inI inI inI (by omega)) ?_
      | refine at_ret (res_cell2 rfl rfl inI (at_has (cs := [_]) (.inl rfl) rfl rfl) rfl) ?_
      | refine wl_pop rfl (pc_build0 (cs := [_]) inI inI rfl) ?_
      | refine wp_seqA ?_
      | refine wp_region_seq ?_
      | refine thru_seq_next ?_
      | refine thru_seq_ret ?_
      | refine thru_block_ret ?_
      | refine wp_retA ?_
      | refine wl_nil ?_
      | refine wl_pop rfl (po_move rfl) ?_
      | refine wl_pop rfl (po_assign rfl) ?_
      | refine wl_pop rfl (po_not rfl) ?_
      | (refine wc_storeA rfl rfl inI inI rfl inI (Nat.le_of_ble_eq_true rfl) (.inr (may_new _)) ?_; intro _ _)
      | refine wl_pop rfl (po_extract rfl rfl) ?_
      | refine wp_condT rfl ?_
      | fail)
    rename_i σ7 g7 σ8 u8
    have z2 := h2.lt
    refine ⟨nilS, [], by rw [hgr1]; rfl, OW.nilS _ _, by rw [hgr1]; exact ORs.nil _ _, ⟨fun q o ho => ?_⟩⟩
    have hq : q < σ.length := Has.lt ⟨ho⟩
    have := n2.le
    have := g1.len
    rw [u8.eq, List.getElem?_set_ne (by omega)]; exact g7.keep q o (hJ0.keep q o ho)
  repeat' (first
    | refine wl_pop rfl (pc_ldTmC rfl inI inI (by omega) inI) ?_
    | (refine wc_callMv rfl inI rfl hcall rfl hall ?_; intro _ _ _ _ _ _ _ _ _ _)
    | (refine wc_row0 (α := Mv) inI inI rfl rfl (by decide) rfl ?_; intro _ _ _ _ _)
    | refine wl_pop rfl (pc_indexRow rfl rfl inI inI inI (by omega)) ?_
    | refine wl_pop rfl (pc_lenRow rfl inI inI) ?_
    | refine wp_seqA ?_
    | refine wp_region_seq ?_
    | refine thru_seq_next ?_
    | refine wp_skipA ?_
    | refine wp_blockA ?_
    | refine wl_nil ?_
    | refine wl_pop rfl (po_move rfl) ?_
    | refine wl_pop rfl (po_assign rfl) ?_
    | refine wl_pop rfl (po_not rfl) ?_
    | refine wl_pop rfl (po_extract rfl rfl) ?_
    | refine wp_condF rfl ?_
    | fail)
  rename_i a v ls σ6 oa ov owa owv trv g6 i8 σ7 g7 n7 h7
  have hll := trv.len
  rw [List.length_map] at hll
  have l67 : LeS σ' σ7 := inI
  have hJ7 := hJ.les l67
  have hva : NeS sv v := nes_old (fun j n e => by
    rcases hJ.so.rep with ⟨_, e3⟩ | ⟨q, e3, _, hh⟩
    · rw [e] at e3; cases e3
    · rw [e] at e3; cases e3; exact hh.lt) owv
  have hus : ∀ j n m, AV.sl i8 0 0 = .sl j 0 n → AV.sl j 0 m ∉ us := fun j n m e hm => by
    cases e
    have := hJ.gr.lt hm
    have := n7.le
    have := g6.len
    omega
  have l26 : σ2.length ≤ σ6.length := by have := hJ.le.len; have := g6.len; omega
  have y67 := g7.len
  have hvb := owv.bound
  refine wc_loop [(1, _), (2, _), (6, _), (9, _), (10, _), (11, _), (12, _), (49, _), (50, _)] (fun x : AV × AV × Nat => [(8, x.1), (15, x.2.1), (51, I x.2.2)]) (fun x σ'' => One x.1 ∧ x.2.1 ≠ nilS ∧ x.2.2 ≤ L.length ∧ σ6.length ≤ σ''.length ∧ ∃ xs S' ms, GI σ2 σ5 σ'' i10 iM x.1 gv xs S' (atF 0 S') us g ∧ lookL S (L.take x.2.2) = some (S', ms) ∧ OW σ' σ'' a (L.map Prod.fst) ∧ OW σ' σ'' v ls ∧ NeS x.1 v ∧ TRl (NA x.1) σ'' ls (L.map Prod.snd) ∧ OW σ6 σ'' x.2.1 ms ∧ ∀ j n m, x.2.1 = .sl j 0 n → AV.sl j 0 m ∉ us) (fun x => L.length - x.2.2) (sv, .sl i8 0 0, 0) ⟨o1, (by intro h; cases h), Nat.zero_le _, y67, xs, S, [], hJ7, rfl, owa.les inI, owv.les inI, hva, trv.les inI, ow_of_has h7 n7.le rfl (by decide), hus⟩ (by repeat' (first | exact sub_nil | refine sub_cons rfl ?_ | refine sub_int rfl (by first | rfl | omega | (push_cast; omega) | simp) ?_ | refine sub_eq rfl (by assumption) ?_)) ?_
  have hgr0 := hJ.gr
  have hlb0 := hJ.lb
  clear hJ hJ7 hJle hi8 hgo hr1 rS hdG hcall e1 e2 o1 hxl hk1 hkx hus hva trv owa owv hone
  clear xs
  rintro ⟨sv, w, i⟩ σ'' ⟨o1, hwn, hi, hlen, xs, S', ms, hJ, hlk, owa, owv, hne, trv, how, hus⟩
  dsimp only at o1 hwn hi hJ hlk hne trv how hus ⊢
  have hi8 := hJ.hb
  have hgo := hJ.go.one
  have how1 := how.one
  obtain ⟨hS', hSS', hmsl⟩ : StOk ds S' ∧ S.length ≤ S'.length ∧ ms.length = (L.take i).length := lookL_ok hS (fun y hy => hL y (List.mem_of_mem_take hy)) hlk
  have hS'l := hS'.le
  have hml : ms.length ≤ L.length := by rw [hmsl]; exact List.length_take_le' _ _
  repeat' (first
    | refine wc_holdR 12 ?_
    | refine wp_seqA ?_
    | refine wp_region_seq ?_
    | refine thru_seq_next ?_
    | refine thru_seq ?_
    | refine exit_here ?_
    | refine wp_skipA ?_
    | refine wp_exitA ?_
    | refine wp_blockA ?_
    | refine wl_nil ?_
    | refine wl_pop rfl (po_binOp rfl rfl rfl) ?_
    | refine wp_condP rfl (fun _ => ?_) (fun _ => ?_)
    | fail)
  rotate_left
  · rename_i hi1
    obtain rfl : i = L.length := by omega
    rw [List.take_length] at hlk
    rw [hlk] at hgr1
    rcases how.rep with ⟨_, hn0⟩ | ⟨iw, rfl, hiw, hhw⟩
    · exact absurd hn0 hwn
    have y6 := g6.len
    have hlt5 : i10 < σ''.length := hi8.lt
    have h45 := h5.lt
    have hne5 : i10 ≠ iw := by omega
    refine wc_drawnX (t := 15) iw [5, 6, 7] mixed_ rfl rfl ?_
    refine dx_pure 0 rfl rfl (by kernel_rfl) (po_fieldAddr rfl inI) ?_
    refine dx_pure 2 rfl rfl (by kernel_rfl) (po_move rfl) ?_
    refine dx_load1 1 rfl rfl (by kernel_rfl) rfl inI (at_has (cs := [_]) (.inl rfl) rfl rfl) hlt5 hhw hne5 ?_
    refine dx_one 3 rfl (by kernel_rfl) hhw (.inr (by have := hJ0.len; omega)) ?_
    intro N' B' w₀' ρ₀' may' hmay'
    refine wl_call rfl inI rfl (c_tidy σ'' _ how).len (fun q ⟨n, hq⟩ => ?_) rfl ?_
    · cases hq; exact ⟨hmay' _ (.inl rfl), _, hhw.get, .inl rfl⟩
    rintro r σ12 ⟨⟨h12, k12⟩, l12⟩
    refine wl_nil ⟨rfl, l12, ?_⟩
    clear hmay'
    have kn12 : KN σ'' 2 σ12 := ⟨fun q o he ho => k12 q o (fun n e => by cases e; rw [hhw.get] at ho; cases ho; exact he rfl) ho⟩
    have hJ12 : GI σ2 σ5 σ12 i10 iM sv gv xs S' (atF 0 S') us g :=
      ⟨⟨fun q o ho => k12 q o (fun n e => by cases e; have := Has.lt (σ := σ2) (i := iw) ⟨ho⟩; omega) (hJ.le.keep q o ho)⟩, by have := hJ.lb; omega, hJ.so.kn kn12 (by decide), hJ.tr.kn kn12 (by decide), ⟨kn12.keep _ _ (by show 0 ≠ 2; decide) hJ.mp.get⟩, ⟨kn12.keep _ _ (by show 1 ≠ 2; decide) hJ.hb.get⟩, hJ.go.kn kn12 (by decide), hJ.gr.keep fun q o hq ⟨n, hn⟩ ho => k12 q o (fun m e => hus q m n e hn) ho⟩
    have hone12 := h12.one
    refine dx_new 4 rfl (by kernel_rfl) ?_
    intro N7 B7 w7 r7 may7 hmay7
    refine wc_oneAV rfl inI inI rfl (by decide) rfl ?_
    intro iv σ13 g13 n13 h13
    refine wl_nil ⟨rfl, g13.len, ?_⟩
    clear hmay7
    have hJ13 := hJ12.les (inI : LeS σ12 σ13)
    have y13 := g13.len
    refine dx_last 5 rfl (by decide) (by kernel_rfl) ?_
    refine wc_append1 (α := AV) (σ₀ := σ5) rfl rfl inI inI rfl (by decide) (by decide) hJ13.go inI (one_av inI) (by have := hJ13.gr.len; omega) (fun q hq => .inr (by have := l25.len; omega)) (by have := hJ13.lb; omega) rfl ?_
    intro gv' σ14 happ mk14 how14 ov'
    refine wl_nil (dl_in ?_)
    refine dl_last 6 rfl (by decide) (by kernel_rfl) ?_
    refine wl_pop rfl (po_fieldAddr rfl inI) ?_
    refine wl_nil (dl_in ?_)
    have hgi : ∀ n, gv ≠ .sl i10 0 n := fun n e => by have := ow_ids hJ13.go i10 n e; omega
    have h14 : Has σ14 i10 ⟨.own, 1, [gv], []⟩ := happ.has hJ13.hb hgi
    refine dl_last 7 rfl (by decide) (by kernel_rfl) ?_
    refine wc_store1 rfl rfl inI inI inI (Nat.le_of_ble_eq_true rfl) (.inr (by omega)) ?_
    intro σ15 u15
    refine wl_nil (dl_in ?_)
    refine dl_done (by kernel_rfl) ?_
    repeat' (first
      | refine wp_region_seq ?_
      | refine thru_seq_next ?_
      | refine thru_block_next ?_
      | refine wl_nil ?_
      | refine wl_pop rfl (po_move rfl) ?_
      | refine wl_pop rfl (po_assign rfl) ?_
      | refine wl_pop rfl (pc_add rfl rfl (by omega) (by omega)) ?_
      | fail)
    have kn14 : KN σ13 1 σ14 := happ.kn hJ13.go
    have kn15 : KN σ14 1 σ15 := kn_upd u15 h14
    have z15 := Upd.len u15
    have z14 := happ.len
    have hG : GI σ2 σ5 σ15 i10 iM sv gv' xs S' (atF 0 S') (us ++ [r]) (g ++ [tidyL ms]) := by
      refine ⟨⟨fun q o ho => ?_⟩, by have := hJ13.lb; omega, (hJ13.so.kn kn14 (by decide)).kn kn15 (by decide), (hJ13.tr.kn kn14 (by decide)).kn kn15 (by decide), ⟨kn15.keep _ _ (by show 0 ≠ 1; decide) (kn14.keep _ _ (by show 0 ≠ 1; decide) hJ13.mp.get)⟩, instHasUpd (g := u15), how14.keep fun q o hq _ ho => ?_, hgr0.snoc ((hJ13.gr.kn kn14 (by decide)).kn kn15 (by decide)) hlb0 ((((h12.les (inI : LeS σ12 σ13)).kn kn14 (by decide)).kn kn15 (by decide)).down y6)⟩
      · have hq : q < σ2.length := Has.lt ⟨ho⟩
        rw [u15.eq, List.getElem?_set_ne (by omega)]
        exact happ.keep q o (.inl (by have := l25.len; omega)) (hJ13.le.keep q o ho)
      · rw [u15.eq, List.getElem?_set_ne (by omega)]; exact ho
    refine ⟨(sv, k + 1), by dsimp only; omega, ⟨o1, gv', xs, S', us ++ [r], g ++ [tidyL ms], hG, hS', by simp; omega, by dsimp only; omega, ?_⟩, (by repeat' (first | exact sub_nil | refine sub_cons rfl ?_ | refine sub_int rfl (by first | rfl | omega | (push_cast; omega) | simp) ?_ | refine sub_eq rfl (by assumption) ?_))⟩
    dsimp only
    rw [hgr1, show 61 - (k + 1) = 60 - k by omega]
    rfl
  rename_i hi1
  have hi' : i < L.length := by omega
  have hil : i < ls.length := by omega
  have hgs : (L.map Prod.snd).getD i nilT = (L.getD i (0, nilT)).2 := by simp [List.getD_eq_getElem?_getD, hi']
  have hgf : (L.map Prod.fst).getD i 0 = (L.getD i (0, nilT)).1 := by simp [List.getD_eq_getElem?_getD, hi']
  obtain ⟨e2, e3, rk⟩ := trv.at (k := i) (by rw [List.length_map]; exact hi')
  rw [hgs] at e2 e3 rk
  have hy := hL (L.getD i (0, nilT)) (by simp [List.getD_eq_getElem?_getD, hi'])
  have hy24 := hall (L.getD i (0, nilT)) (by simp [List.getD_eq_getElem?_getD, hi'])
  have hlk1 := lookL_take (S := S) hi'
  rw [hlk] at hlk1
  have hfl : (L.map Prod.fst).length = L.length := List.length_map _
  generalize hyy : L.getD i (0, nilT) = y at *
  have hone : One (ls.getD i Enc.dflt).s := ⟨(ls.getD i Enc.dflt).one⟩
  have hrv : RW σ'' v ls := owv.rw
  have l0'' : LeS σ σ'' := l2.trans hJ.le
  have h66 : Has σ'' i6 ⟨.own, 1, [nilS], []⟩ := ⟨hJ.le.keep _ _ h2.get⟩
  refine hold_go ?_
  repeat' (first
    | refine wl_pop rfl (pc_indexRow rfl rfl inI inI inI (by omega)) ?_
    | refine wl_pop rfl (pc_ldTmC rfl inI inI (by omega) inI) ?_
    | refine wc_holdR 13 ?_
    | refine wp_seqA ?_
    | refine wp_region_seq ?_
    | refine thru_seq_next ?_
    | refine wl_nil ?_
    | refine wl_pop rfl (po_move rfl) ?_
    | refine wl_pop rfl (po_assign rfl) ?_
    | (refine wc_storeA rfl rfl inI inI rfl inI (Nat.le_of_ble_eq_true rfl) (.inr (may_new _)) ?_; intro _ _)
    | (refine wc_allocA (cs := [_, _, _]) inI rfl inI rfl ?_; intro _ _ _ _ _)
    | fail)
  rename_i i12 σ9 g9 n9 h9 σ10 u10
  have h10 : Has σ10 i12 ⟨.own, 1, [I (ls.getD i Enc.dflt).op, I (ls.getD i Enc.dflt).n, (ls.getD i Enc.dflt).s], []⟩ := instHasUpd (g := u10)
  have l10 : LeS σ'' σ10 := inI
  have hct : ACall Tryz.prog base F_impl_textOf [.agg [I (ls.getD i Enc.dflt).op, I (ls.getD i Enc.dflt).n, (ls.getD i Enc.dflt).s]] σ10 (fun _ => False) (Ret σ10 (Str (ofL y.2.txt))) := by
    rw [e2, e3]
    exact c_textOf _ hy.2.1 (by have := hy.2.2.2; omega) _ _ ⟨(rk.les l10).rep.mono (fun _ _ _ h => h) (fun _ _ => trivial)⟩
  clear u10 h9
  have h06 : σ.length ≤ σ6.length := by have := l2.len; omega
  refine hold_go ?_
  repeat' (first
    | (refine wc_callR rfl inI rfl hct rfl ?_; intro _ _)
    | refine wc_holdR 14 ?_
    | refine wp_seqA ?_
    | refine wp_region_seq ?_
    | refine thru_seq_next ?_
    | refine wl_nil ?_
    | refine wl_pop rfl (po_move rfl) ?_
    | refine wl_pop rfl (po_assign rfl) ?_
    | refine wc_loadn rfl inI (at_has (cs := [_, _, _]) (.inl rfl) rfl rfl) rfl ?_
    | fail)
  rename_i σ11 g11
  have l11 : LeS σ'' σ11 := inI
  have gi11 := hJ.les l11
  have hmp := gi11.mp
  have hxl := gi11.tr.len
  have len11 : σ6.length ≤ σ11.length := Nat.le_trans hlen l11.len
  have h11 : Has σ11 i12 ⟨.own, 1, [I (ls.getD i Enc.dflt).op, I (ls.getD i Enc.dflt).n, (ls.getD i Enc.dflt).s], []⟩ := inI
  have rk11 : RTsG (NA sv) σ11 (ls.getD i Enc.dflt).s y.2.ps := rk.les l11
  have h611 : Has σ11 i6 ⟨.own, 1, [nilS], []⟩ := ⟨l11.keep _ _ h66.get⟩
  have owa11 := owa.les l11
  have owv11 := owv.les l11
  have trv11 := trv.les l11
  have how11 := how.les l11
  have rw11 : RW σ11 sv xs := gi11.so.rw
  refine hold_go ?_
  by_cases hkn : idxT S' y.2.txt < S'.length
  · have hlk2 : lookL S (L.take (i + 1)) = some (S', ms ++ [(y.1, (idxT S' y.2.txt : Int))]) := by rw [hlk1]; simp [look1, hkn]
    have hmg : mget (ofL y.2.txt) (atF 0 S') = some (I ((idxT S' y.2.txt : Nat) : Int)) := by rw [atF_get, if_pos hkn, Nat.zero_add]
    have h0x : LeS σ σ11 := l2.trans gi11.le
    have owax : OW σ' σ11 a (L.map Prod.fst) := owa11
    have rwax : RW σ11 a (L.map Prod.fst) := owax.rw
    have howx : OW σ6 σ11 w ms := how11
    repeat' (first
      | refine wl_pop rfl (pc_lookupOk (κ := ByteArray) (r := I ((idxT S' y.2.txt : Nat) : Int)) (b := true) rfl rfl Un.eq Un.eq rfl inI hmp inI (by rw [hmg]; rfl) (by rw [hmg]; rfl)) ?_
      | refine wl_pop rfl (pc_indexRow rfl rfl inI inI inI (by omega)) ?_
      | refine wl_pop rfl (pc_ldInt rfl inI inI (by omega) inI) ?_
      | refine wl_pop rfl (pc_buildMv rfl rfl inI inI rfl) ?_
      | (refine wc_oneMv rfl inI inI rfl (by decide) rfl ?_; intro _ _ _ _ _)
      | refine wp_seqA ?_
      | refine wp_region_seq ?_
      | refine thru_seq_next ?_
      | refine wp_skipA ?_
      | refine wl_nil ?_
      | refine wl_pop rfl (po_move rfl) ?_
      | refine wl_pop rfl (po_assign rfl) ?_
      | refine wl_pop rfl (po_not rfl) ?_
      | refine wl_pop rfl (po_extract rfl rfl) ?_
      | refine wp_condF rfl ?_
      | fail)
    rename_i iq σm gm nm hm
    have lxm : LeS σ11 σm := inI
    have ylm := lxm.len
    refine wc_append1 (α := Mv) (σ₀ := σ6) rfl rfl inI inI rfl (by decide) (by decide) (howx.les lxm) hm (one_mv _ _) (by omega) (fun j hj => .inr (Nat.le_trans h06 hj)) (by omega) rfl ?_
    intro w' σn appM mkM hown on
    repeat' (first
      | refine wp_region_seq ?_
      | refine thru_seq_next ?_
      | refine thru_block_next ?_
      | refine wl_nil ?_
      | refine wl_pop rfl (po_move rfl) ?_
      | refine wl_pop rfl (po_assign rfl) ?_
      | refine wl_pop rfl (pc_add rfl rfl (by omega) (by omega)) ?_
      | fail)
    obtain ⟨hG, hus'⟩ := (gi11.les lxm).appM l26 (howx.les lxm) hus appM
    have kn2 : KN σm 2 σn := appM.kn (howx.les lxm)
    have hown2 := hown
    rw [hgf] at hown2
    exact ⟨(sv, w', i + 1), by dsimp only; omega, ⟨o1, ow_ne_nil hown (by simp), by dsimp only; omega, by have := appM.len; have := lxm.len; have := len11; omega, _, _, _, hG, hlk2, (owax.les lxm).kn kn2 (by decide), (OW.les (owv11) lxm).kn kn2 (by decide), hne, (TRl.les (trv11) lxm).kn kn2 (by decide), hown2, hus'⟩, (by repeat' (first | exact sub_nil | refine sub_cons rfl ?_ | refine sub_int rfl (by first | rfl | omega | (push_cast; omega) | simp) ?_ | refine sub_eq rfl (by assumption) ?_))⟩
  · have hmg : mget (ofL y.2.txt) (atF 0 S') = none := by rw [atF_get, if_neg hkn]
    have hlk3 : lookL S (L.take (i + 1)) = if S'.length = 60 ∨ 24 < y.2.cnt then none else some (S' ++ [y.2], ms ++ [(y.1, (S'.length : Int))]) := by rw [hlk1]; simp [look1, hkn]
    repeat' (first
      | refine wl_pop rfl (pc_lookupOk (κ := ByteArray) (r := I 0) (b := false) rfl rfl Un.eq Un.eq rfl inI hmp inI (by rw [hmg]; rfl) (by rw [hmg]; rfl)) ?_
      | refine wc_holdR 19 ?_
      | refine wl_pop rfl (pc_lenRow rfl inI inI) ?_
      | refine at_ret (res_cell2 rfl rfl inI (at_has (cs := [_]) (.inl rfl) rfl rfl) rfl) ?_
      | refine wl_pop rfl (pc_build0 (cs := [_]) inI inI rfl) ?_
      | refine wp_seqA ?_
      | refine wp_region_seq ?_
      | refine thru_seq_next ?_
      | refine thru_seq_ret ?_
      | refine thru_block_ret ?_
      | refine wp_skipA ?_
      | refine wp_retA ?_
      | refine wl_nil ?_
      | refine wl_pop rfl (po_move rfl) ?_
      | refine wl_pop rfl (po_assign rfl) ?_
      | refine wl_pop rfl (po_binOp rfl rfl rfl) ?_
      | refine wl_pop rfl (po_not rfl) ?_
      | (refine wc_storeA rfl rfl inI inI rfl inI (Nat.le_of_ble_eq_true rfl) (.inr (may_new _)) ?_; intro _ _)
      | refine wl_pop rfl (po_extract rfl rfl) ?_
      | refine wp_condT rfl ?_
      | refine wp_condP rfl (fun _ => ?_) (fun _ => ?_)
      | fail)
    · rename_i h60 σ12 u12
      rw [if_pos (by omega)] at hlk3
      rw [lookL_none hlk3] at hgr1
      have z2 := h2.lt
      refine ⟨nilS, [], by rw [hgr1]; rfl, OW.nilS _ _, by rw [hgr1]; exact ORs.nil _ _, ⟨fun q o ho => ?_⟩⟩
      have hq : q < σ.length := Has.lt ⟨ho⟩
      have := n2.le
      have := g1.len
      rw [u12.eq, List.getElem?_set_ne (by omega)]; exact l11.keep q o (l0''.keep q o ho)
    rename_i h60
    have hlk2 : lookL S (L.take (i + 1)) = some (S' ++ [y.2], ms ++ [(y.1, (xs.length : Int))]) := by rw [hlk3, if_neg (by omega), hxl]
    refine hold_go ?_
    have zM' : σ.length ≤ iM := by have := l2.len; omega
    repeat' (first
      | (refine wc_mapNew (κ := ByteArray) (.inl rfl) rfl rfl rfl Un.eq Un.eq rfl hmp hmg (.inr zM') ?_; intro _ _)
      | refine wc_holdR 20 ?_
      | refine wp_region_seq ?_
      | refine thru_seq_next ?_
      | refine wl_nil ?_
      | refine wl_pop rfl (po_move rfl) ?_
      | fail)
    rename_i σ12 u12
    obtain ⟨gi12, kn0⟩ := gi11.putM zM u12
    have q12 := Upd.len u12
    have hd12 : iM ≠ i12 := by
      intro e
      have h1 := h11.get
      rw [← e, hmp.get] at h1
      cases h1
    have h12 : Has σ12 i12 ⟨.own, 1, [I (ls.getD i Enc.dflt).op, I (ls.getD i Enc.dflt).n, (ls.getD i Enc.dflt).s], []⟩ := ⟨kn0.keep _ _ (by show 1 ≠ 0; decide) h11.get⟩
    have l012 : LeS σ σ12 := l2.trans gi12.le
    refine hold_go ?_
    repeat' (first
      | (refine wc_oneTmC rfl inI inI rfl (by decide) rfl ?_; intro _ _ _ _ _)
      | refine wp_region_seq ?_
      | refine wl_pop rfl (po_move rfl) ?_
      | refine wc_loadn rfl inI (at_has (cs := [_, _, _]) (.inl rfl) rfl rfl) rfl ?_
      | fail)
    rename_i i13 σ13 g13 n13 h13
    have gi13 := gi12.les (inI : LeS σ12 σ13)
    have y13 := g13.len
    refine wc_append1 (α := TmC) (σ₀ := σ2) rfl rfl inI inI rfl (by decide) (by decide) gi13.so h13 (one_tmc _) (by omega) (fun q hq => .inr (Nat.le_trans l2.len hq)) gi13.le.len rfl ?_
    intro sv' σ14 app14 mk14 ow14 o14
    have rk13 : RTsG (NA sv) σ13 (ls.getD i Enc.dflt).s y.2.ps := (rk11.kn kn0 ⟨by decide⟩).les (inI : LeS σ12 σ13)
    have gi14 := gi13.appS app14 ow14 (y := y.2) e2 e3 rk13
    have kn3 : KN σ13 3 σ14 := app14.kn gi13.so
    have hM' : atF 0 S' ++ [(ofL y.2.txt, I ((xs.length : Nat) : Int))] = atF 0 (S' ++ [y.2]) := by rw [atF_snoc, Nat.zero_add, hxl]
    rw [hM'] at gi14
    have len14 : σ6.length ≤ σ14.length := by have := app14.len; omega
    have l1213 : LeS σ12 σ13 := inI
    have h0x : LeS σ σ14 := l2.trans gi14.le
    have owax : OW σ' σ14 a (L.map Prod.fst) := (((owa11.kn kn0 (by decide)).les l1213).kn kn3 (by decide))
    have rwax : RW σ14 a (L.map Prod.fst) := owax.rw
    have howx : OW σ6 σ14 w ms := (((how11.kn kn0 (by decide)).les l1213).kn kn3 (by decide))
    repeat' (first
      | refine wl_pop rfl (pc_indexRow rfl rfl inI inI inI (by omega)) ?_
      | refine wl_pop rfl (pc_ldInt rfl inI inI (by omega) inI) ?_
      | refine wl_pop rfl (pc_buildMv rfl rfl inI inI rfl) ?_
      | (refine wc_oneMv rfl inI inI rfl (by decide) rfl ?_; intro _ _ _ _ _)
      | refine wp_region_seq ?_
      | refine thru_seq_next ?_
      | refine wl_nil ?_
      | refine wl_pop rfl (po_move rfl) ?_
      | refine wl_pop rfl (po_assign rfl) ?_
      | fail)
    rename_i iq σm gm nm hm
    have lxm : LeS σ14 σm := inI
    have ylm := lxm.len
    refine wc_append1 (α := Mv) (σ₀ := σ6) rfl rfl inI inI rfl (by decide) (by decide) (howx.les lxm) hm (one_mv _ _) (by omega) (fun j hj => .inr (Nat.le_trans h06 hj)) (by omega) rfl ?_
    intro w' σn appM mkM hown on
    repeat' (first
      | refine wp_region_seq ?_
      | refine thru_seq_next ?_
      | refine thru_block_next ?_
      | refine wl_nil ?_
      | refine wl_pop rfl (po_move rfl) ?_
      | refine wl_pop rfl (po_assign rfl) ?_
      | refine wl_pop rfl (pc_add rfl rfl (by omega) (by omega)) ?_
      | fail)
    obtain ⟨hG, hus'⟩ := (gi14.les lxm).appM l26 (howx.les lxm) hus appM
    have kn2 : KN σm 2 σn := appM.kn (howx.les lxm)
    have hown2 := hown
    rw [hgf] at hown2
    exact ⟨(sv', w', i + 1), by dsimp only; omega, ⟨o14, ow_ne_nil hown (by simp), by dsimp only; omega, by have := appM.len; have := lxm.len; have := len14; omega, _, _, _, hG, hlk2, (owax.les lxm).kn kn2 (by decide), (OW.les (app14.ow ((owv11.kn kn0 (by decide)).les l1213) (fun j n m e => hne.ne j n 0 m e)) lxm).kn kn2 (by decide), app14.nes (((owv11.kn kn0 (by decide)).les l1213).rw) hne, (TRl.les (((trv11.kn kn0 (by decide)).les l1213).app fun u ps hu => hu.app (α := TmC) app14) lxm).kn kn2 (by decide), hown2, hus'⟩, (by repeat' (first | exact sub_nil | refine sub_cons rfl ?_ | refine sub_int rfl (by first | rfl | omega | (push_cast; omega) | simp) ?_ | refine sub_eq rfl (by assumption) ?_))⟩
theorem c_GraphOf (t : Tm) (ds : List Tm) (σ : Store) (s d : AV) [hs : RTs σ s t.ps] [hd : RTs σ d ds] : ACall Tryz.prog base F_impl_GraphOf [.agg [I t.op, I t.n, s], d] σ (fun _ => False) (RetGO σ (graphO ds t)) := by
  have := hs.one
  have := hd.one
  refine acall2 fun_impl_GraphOf rfl tmps_impl_GraphOf rfl fun N B w₀ ρ₀ => ?_
  by_cases h1 : defsOk ds = true
  · by_cases h2 : t.fits ds.length = true
    · have hO : graphO ds t = graphL ds t := by unfold graphO; rw [if_pos (by simp [h1, h2])]
      obtain ⟨a1, a2, a3⟩ := fits_get h2
      rw [hO]
      repeat' (first
        | (refine wc_callR rfl inI rfl (h1 ▸ c_DefsOk ds _ _) rfl ?_; intro _ _)
        | refine wl_pop rfl (pc_lenT rfl inI inI) ?_
        | (refine wc_callR rfl inI rfl (h2 ▸ c_TermFits _ t _ _) rfl ?_; intro _ _)
        | (refine wc_callGO rfl inI rfl (c_built t ds h1 a1 a2 a3 _ _ d _) rfl ?_; intro _ _ _ _ _ _ _)
        | refine at_ret (res_cell2 rfl rfl inI (at_has (cs := [_]) (.inl rfl) rfl rfl) rfl) ?_
        | refine wp_seqA ?_
        | refine wp_region_seq ?_
        | refine thru_seq_next ?_
        | refine wp_skipA ?_
        | refine wp_retA ?_
        | refine wl_nil ?_
        | refine wl_pop rfl (po_move rfl) ?_
        | refine wl_pop rfl (po_assign rfl) ?_
        | refine wc_load1 rfl inI (at_has (.inl rfl) rfl rfl) rfl ?_
        | refine wc_loadn rfl inI (at_has (cs := [_, _, _]) (.inl rfl) rfl rfl) rfl ?_
        | refine wl_pop rfl (po_not rfl) ?_
        | (refine wc_storeA rfl rfl inI inI rfl inI (Nat.le_of_ble_eq_true rfl) (.inr (may_new _)) ?_; intro _ _)
        | refine wl_pop rfl (po_extract rfl rfl) ?_
        | refine wl_pop rfl (po_makeFunc rfl rfl) ?_
        | (refine wc_boxA rfl inI rfl ?_; intro _ _ _ _ _)
        | (refine wc_box1 rfl inI rfl ?_; intro _ _ _ _ _)
        | (refine wc_allocA (cs := [_]) inI rfl inI rfl ?_; intro _ _ _ _ _)
        | refine wl_pop rfl (po_pick rfl rfl) ?_
        | refine wc_guardT_false rfl rfl rfl ?_
        | refine wp_condF rfl ?_
        | fail)
      rename_i σ3 g3 u us σ4 o4 ow4 or4 g4 σ5 u5
      have l3 : LeS σ σ3 := inI
      have l5 : LeS σ σ5 := inI
      exact ⟨u, us, rfl, (inI : OW σ3 σ5 u us).down l3.len, (inI : ORs σ3 σ5 us ((graphL ds t).getD [])).down l3.len, l5.grow⟩
    · have h2' : t.fits ds.length = false := by simpa using h2
      have hO : graphO ds t = none := by unfold graphO; rw [if_neg (by simp [h2'])]
      repeat' (first
        | (refine wc_callR rfl inI rfl (h1 ▸ c_DefsOk ds _ _) rfl ?_; intro _ _)
        | refine wl_pop rfl (pc_lenT rfl inI inI) ?_
        | (refine wc_callR rfl inI rfl (h2' ▸ c_TermFits _ t _ _) rfl ?_; intro _ _)
        | refine at_ret (res_cell2 rfl rfl inI (at_has (cs := [_]) (.inl rfl) rfl rfl) rfl) ?_
        | refine wl_pop rfl (pc_build0 (cs := [_]) inI inI rfl) ?_
        | refine wp_seqA ?_
        | refine wp_region_seq ?_
        | refine thru_seq_next ?_
        | refine thru_seq_ret ?_
        | refine wp_retA ?_
        | refine wl_nil ?_
        | refine wl_pop rfl (po_move rfl) ?_
        | refine wl_pop rfl (po_assign rfl) ?_
        | refine wc_load1 rfl inI (at_has (.inl rfl) rfl rfl) rfl ?_
        | refine wc_loadn rfl inI (at_has (cs := [_, _, _]) (.inl rfl) rfl rfl) rfl ?_
        | refine wl_pop rfl (po_not rfl) ?_
        | (refine wc_storeA rfl rfl inI inI rfl inI (Nat.le_of_ble_eq_true rfl) (.inr (may_new _)) ?_; intro _ _)
        | (refine wc_boxA rfl inI rfl ?_; intro _ _ _ _ _)
        | (refine wc_box1 rfl inI rfl ?_; intro _ _ _ _ _)
        | (refine wc_allocA (cs := [_]) inI rfl inI rfl ?_; intro _ _ _ _ _)
        | refine wl_pop rfl (po_pick rfl rfl) ?_
        | refine wc_guardT_false rfl rfl rfl ?_
        | refine wp_condT rfl ?_
        | fail)
      exact ret_go_none hO inI
  · have h1' : defsOk ds = false := by simpa using h1
    have hO : graphO ds t = none := by unfold graphO; rw [if_neg (by simp [h1'])]
    repeat' (first
      | (refine wc_callR rfl inI rfl (h1' ▸ c_DefsOk ds _ _) rfl ?_; intro _ _)
      | refine at_ret (res_cell2 rfl rfl inI (at_has (cs := [_]) (.inl rfl) rfl rfl) rfl) ?_
      | refine wl_pop rfl (pc_build0 (cs := [_]) inI inI rfl) ?_
      | refine wp_seqA ?_
      | refine wp_region_seq ?_
      | refine thru_seq_next ?_
      | refine thru_seq_ret ?_
      | refine wp_retA ?_
      | refine wl_nil ?_
      | refine wl_pop rfl (po_move rfl) ?_
      | refine wl_pop rfl (po_assign rfl) ?_
      | refine wc_load1 rfl inI (at_has (.inl rfl) rfl rfl) rfl ?_
      | refine wl_pop rfl (po_not rfl) ?_
      | (refine wc_storeA rfl rfl inI inI rfl inI (Nat.le_of_ble_eq_true rfl) (.inr (may_new _)) ?_; intro _ _)
      | (refine wc_boxA rfl inI rfl ?_; intro _ _ _ _ _)
      | (refine wc_box1 rfl inI rfl ?_; intro _ _ _ _ _)
      | (refine wc_allocA (cs := [_]) inI rfl inI rfl ?_; intro _ _ _ _ _)
      | refine wl_pop rfl (po_pick rfl rfl) ?_
      | refine wc_guardF_false rfl rfl rfl rfl ?_
      | refine wp_condT rfl ?_
      | fail)
    exact ret_go_none hO inI
end
end Go.Proofs.YthbodgnoadlbcaaGreatDoor.Asl
