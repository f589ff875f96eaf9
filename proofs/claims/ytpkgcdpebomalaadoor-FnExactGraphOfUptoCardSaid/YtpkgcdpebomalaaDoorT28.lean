/- Copies of terms; the steps handed out: each behind a copy. -/
import Derived.Test.YtpkgcdpebomalaaDoorT27
import Derived.Test.YtpkgcdpebomalaaDoorT20
import Derived.Test.YtpkgcdpebomalaaDoorT23
namespace Go.Proofs.YtpkgcdpebomalaaDoor.Asl
open Go.RowKit Go.Proofs.YtpkgcdpebomalaaDoorW.PrintLast
set_option linter.unusedVariables false
set_option linter.unusedSimpArgs false
attribute [local irreducible] WP WL andThen inBlock noGoto atEnd ACall DA DL PO Hold nodeOk Tm.shape Tm.ok
set_option maxHeartbeats 4000000
set_option synthInstance.maxHeartbeats 400000
set_option synthInstance.maxSize 10000
theorem swN_00 (k : Int) : swN k 0 0 = k := by unfold swN; split <;> omega
theorem swA_00 (x : Int) : swA x 0 0 = x := by unfold swA swN; repeat' split
                                               all_goals omega
mutual
theorem Tm.sw_00 : ∀ t : Tm, t.sw 0 0 = t
  | .node op n ps => by simp only [Tm.sw, Tm.sws_00 ps, swN_00, swA_00, ite_self]
theorem Tm.sws_00 : ∀ ps : List Tm, Tm.sws 0 0 ps = ps
  | [] => rfl
  | p :: ps => by simp only [Tm.sws, Tm.sw_00 p, Tm.sws_00 ps]
end
section
variable {base : Nat}
end
/-! Steps whose terms lie apart. -/
structure SRDk (σ₀ σ : Store) (l : List StC) (L : List Stp) (k : Nat) : Prop where
  ex : ∃ Fs : Nat → Nat → Prop, (∀ j, j < k → ∀ i, Fs j i → σ₀.length ≤ i) ∧ (∀ j j' i, j < k → j' < k → Fs j i → Fs j' i → j = j') ∧
    ∀ (j : Nat) (x : StC) (y : Stp), j < k → l[j]? = some x → L[j]? = some y → x.act = y.1 ∧ x.op = y.2.op ∧ x.n = y.2.n ∧ RepD σ (Fs j) x.s y.2.ps
theorem SRDk.keep {σ₀ σ σ' : Store} {l : List StC} {L : List Stp} {k : Nat} (h : SRDk σ₀ σ l L k) (hk : ∀ (i : Nat) (o : Ob), σ₀.length ≤ i → σ[i]? = some o → σ'[i]? = some o) : SRDk σ₀ σ' l L k := by
  obtain ⟨Fs, h1, h2, h3⟩ := h.ex
  exact ⟨Fs, h1, h2, fun j x y hj hx hy => ⟨(h3 j x y hj hx hy).1, (h3 j x y hj hx hy).2.1, (h3 j x y hj hx hy).2.2.1, (h3 j x y hj hx hy).2.2.2.mono (fun i o hi ho => hk i o (h1 j hj i hi) ho) (fun _ h => h)⟩⟩
theorem SRDk.down {σ σ₁ σ' : Store} {l : List StC} {L : List Stp} {k : Nat} (h : SRDk σ₁ σ' l L k) (hl : σ.length ≤ σ₁.length) : SRDk σ σ' l L k := by
  obtain ⟨Fs, h1, h2, h3⟩ := h.ex
  exact ⟨Fs, fun j hj i hi => Nat.le_trans hl (h1 j hj i hi), h2, h3⟩
theorem SRDk.zero (σ₀ σ : Store) (l : List StC) (L : List Stp) : SRDk σ₀ σ l L 0 := ⟨fun _ _ => False, fun j hj => by omega, fun j j' i hj => by omega, fun j x y hj => by omega⟩
theorem SRDk.step {σ₀ σ σ₁ σ' : Store} {l : List StC} {L : List Stp} {k : Nat} {x : StC} {y : Stp} (h : SRDk σ₀ σ l L k) (hy : L[k]? = some y) (e1 : x.act = y.1) (e2 : x.op = y.2.op) (e3 : x.n = y.2.n) (hr : RTsD σ σ₁ x.s y.2.ps) (h0 : σ₀.length ≤ σ.length) (hk : ∀ (i : Nat) (o : Ob), σ₀.length ≤ i → σ[i]? = some o → σ'[i]? = some o) (hk2 : ∀ (i : Nat) (o : Ob), σ₀.length ≤ i → σ₁[i]? = some o → σ'[i]? = some o) :
    SRDk σ₀ σ' (l.set k x) L (k + 1) := by
  obtain ⟨Fs, h1, h2, h3⟩ := h.ex
  refine ⟨fun j i => if j = k then σ.length ≤ i else Fs j i ∧ i < σ.length, ?_, ?_, ?_⟩
  · intro j hj i hi
    by_cases e : j = k
    · rw [if_pos e] at hi; omega
    · rw [if_neg e] at hi; exact h1 j (by omega) i hi.1
  · intro j j' i hj hj' hi hi'
    by_cases e : j = k <;> by_cases e' : j' = k
    · omega
    · rw [if_pos e] at hi; rw [if_neg e'] at hi'; omega
    · rw [if_neg e] at hi; rw [if_pos e'] at hi'; omega
    · rw [if_neg e] at hi; rw [if_neg e'] at hi'; exact h2 j j' i (by omega) (by omega) hi.1 hi'.1
  · intro j x' y' hj hx hy'
    by_cases e : j = k
    · subst e
      rw [hy] at hy'; cases hy'
      rw [List.getElem?_set] at hx
      rw [if_pos rfl] at hx
      split at hx
      · cases hx
        simp only [if_true]
        exact ⟨e1, e2, e3, hr.rep.mono (fun i o hi ho => hk2 i o (Nat.le_trans h0 hi) ho) (fun _ h => h)⟩
      · cases hx
    · rw [List.getElem?_set_ne (Ne.symm e)] at hx
      obtain ⟨a1, a2, a3, a4⟩ := h3 j x' y' (by omega) hx hy'
      simp only [if_neg e]
      exact ⟨a1, a2, a3, a4.lt.mono (fun i o hi ho => hk i o (h1 j (by omega) i hi.1) ho) (fun _ h => h)⟩
class SRD (σ₀ : outParam Store) (σ : Store) (l : List StC) (L : outParam (List Stp)) : Prop where
  len : l.length = L.length
  rep : SRDk σ₀ σ l L L.length
theorem SRD.sr {σ₀ σ : Store} {l : List StC} {L : List Stp} (h : SRD σ₀ σ l L) : SR (fun _ => True) σ l L := by
  obtain ⟨Fs, h1, h2, h3⟩ := h.rep.ex
  have key : ∀ (l : List StC) (L : List Stp), l.length = L.length → (∀ (j : Nat) (x : StC) (y : Stp), l[j]? = some x → L[j]? = some y → x.act = y.1 ∧ x.op = y.2.op ∧ x.n = y.2.n ∧ RTsG (fun _ => True) σ x.s y.2.ps) → SRl (fun _ => True) σ l L := by
    intro l
    induction l with
    | nil => intro L hl _; obtain rfl : L = [] := List.length_eq_zero_iff.mp hl.symm; exact .nil
    | cons x l ih =>
      intro L hl hh
      cases L with
      | nil => simp at hl
      | cons y L =>
        obtain ⟨a1, a2, a3, a4⟩ := hh 0 x y rfl rfl
        exact .cons a1 a2 a3 a4 (ih L (by simpa using hl) fun j x y hx hy => hh (j + 1) x y (by simpa using hx) (by simpa using hy))
  exact ⟨key l L h.len fun j x y hx hy => by
    obtain ⟨a1, a2, a3, a4⟩ := h3 j x y (get_lt hy) hx hy
    exact ⟨a1, a2, a3, ⟨a4.rep.mono (fun _ _ _ h => h) (fun _ _ => trivial)⟩⟩⟩
instance instSRofSRD {σ₀ σ : Store} {l : List StC} {L : List Stp} [h : SRD σ₀ σ l L] : SR (fun _ => True) σ l L := h.sr
theorem SRD.keep {σ₀ σ σ' : Store} {l : List StC} {L : List Stp} (h : SRD σ₀ σ l L) (hk : ∀ (i : Nat) (o : Ob), σ₀.length ≤ i → σ[i]? = some o → σ'[i]? = some o) : SRD σ₀ σ' l L := ⟨h.len, h.rep.keep hk⟩
instance instSRDGrow {σ₀ σ σ' : Store} {l : List StC} {L : List Stp} [g : Grow σ σ'] [h : SRD σ₀ σ l L] : SRD σ₀ σ' l L := h.keep fun i o _ ho => g.keep i o ho
instance instSRDUpd {σ₀ σ σ' : Store} {i : Nat} {o o' : Ob} {l : List StC} {L : List Stp} [u : Upd σ i o' σ'] [k : Has σ₀ i o] [h : SRD σ₀ σ l L] : SRD σ₀ σ' l L :=
  h.keep fun j x hj ho => by have := k.lt; rw [u.eq, List.getElem?_set_ne (by omega)]; exact ho
/-- Steps, or none. -/
def RetSO (σ : Store) (o : Option (List Stp)) : AV → Store → Prop := fun r σ' => ∃ u l, r = .tup [u, Bo o.isSome] ∧ OW σ σ' u l ∧ SRD σ σ' l (o.getD []) ∧ Grow σ σ'
theorem ret_so_none {σ σ' : Store} {o : Option (List Stp)} (h : o = none) (g : LeS σ σ') : RetSO σ o (.tup [nilS, Bo false]) σ' := by
  subst h; exact ⟨nilS, [], rfl, OW.nilS _ _, ⟨rfl, SRDk.zero _ _ _ _⟩, g.grow⟩
theorem ret_so {σ σ₁ σ₂ σ' : Store} {o : Option (List Stp)} {u : AV} {l : List StC} {L : List Stp} (h : o = some L) (h1 : OW σ₁ σ' u l) (k1 : σ.length ≤ σ₁.length) (h2 : l.length = L.length) (h3 : SRDk σ₂ σ' l L L.length) (k2 : σ.length ≤ σ₂.length) (g : LeS σ σ') : RetSO σ o (.tup [u, Bo true]) σ' := by
  subst h; exact ⟨u, l, rfl, h1.down k1, ⟨h2, h3.down k2⟩, g.grow⟩
section
variable {E : Env} {ops : Array Oper} {l : List Oper} {Q : Exit → Slots → Store → Prop} {S : Slots} {σ σ₀ : Store} {d : Option Tmp} {ty : TypeId} {pos : String} {af : Array Edge} {g : Option (Nat × Bool)} {x y : Operand} {t : TypeId} {bytes : Nat} {z : Value} {i k : Nat}
theorem wc_callSO {args : Array Operand} {ats : Array TypeId} {f : FuncId} {rs caps : List AV} {o : Option (List Stp)} (hf : S.ev x = some (.fn f caps)) (hc : Callable E.P f) (hargs : evs S args.toList = some rs)
    (h : ACall E.P E.base f (rs ++ caps) σ (fun _ => False) (RetSO σ o)) (hd : okd E d = true) (k : ∀ u xs σ', One u → OW σ σ' u xs → SRD σ σ' xs (o.getD []) → Grow σ σ' → WL E ops l Q (S.put d (.tup [u, Bo o.isSome])) σ') :
    WL E ops (⟨d, .call ⟨.value x, args, ats⟩, ty, pos, af, none⟩ :: l) Q S σ :=
  wc_call hf hc hargs h hd fun r' σ' h => by obtain ⟨u, xs, e, h1, h2, hg⟩ := h; subst e; exact k u xs σ' h1.one h1 h2 hg
theorem splice_st {l : List StC} {k : Nat} {a b : Int} {s : AV} (hs : s.one = true) (h : k < l.length) : splice (rowCells l) (0 + k * 4 + 1) [I a, I b, s] = rowCells (l.set k ⟨(l.getD k Enc.dflt).act, a, b, s, hs⟩) := by
  rw [← rowCells_set (α := StC) _ h]
  have hl := rowCells_length l
  have e2 : Enc.e StC = 4 := rfl
  rw [e2] at hl ⊢
  have h2 := congrArg (·[0]?) (rowCells_cut (l := l) (k := k) (x := l.getD k Enc.dflt) (by simp [List.getD_eq_getElem?_getD, h]))
  simp only [cutL, e2, List.getElem?_take, List.getElem?_drop] at h2
  rw [if_pos (by omega)] at h2
  apply List.ext_getElem?
  intro j
  have e3 : (Enc.enc (⟨(l.getD k Enc.dflt).act, a, b, s, hs⟩ : StC)) = [I (l.getD k Enc.dflt).act, I a, I b, s] := rfl
  have e4 : (Enc.enc (l.getD k Enc.dflt) : List AV)[0]? = some (I (l.getD k Enc.dflt).act) := rfl
  rw [e4] at h2
  rw [splice_get (by simp; omega), splice_get (by rw [e3]; simp; omega), e3]
  simp only [List.length_cons, List.length_nil]
  by_cases h0 : j = k * 4
  · subst h0
    rw [if_pos (by omega), if_neg (by omega), if_pos (by omega), Nat.sub_self]
    rw [Nat.add_zero] at h2; exact h2
  · by_cases h1 : j < k * 4
    · rw [if_pos (by omega), if_pos h1]
    · by_cases h3 : j < k * 4 + 4
      · rw [if_neg (by omega), if_pos (by omega), if_neg h1, if_pos (by omega), show j - k * 4 = j - (0 + k * 4 + 1) + 1 by omega]; rfl
      · rw [if_neg (by omega), if_neg (by omega), if_neg h1, if_neg (by omega)]
theorem wc_stStT {l' : List StC} {a b : Int} {s : AV} [h1 : One s] (hx : S.ev x = some (.pt i (0 + k * 4 + 1))) (hy : S.ev y = some (.agg [I a, I b, s])) (ht : Ty E.P t true 3 bytes z) (ho : Has σ i (Row l')) (hk : k < l'.length) (hm : E.may i)
    (kk : ∀ σ', Upd σ i (Row (l'.set k ⟨(l'.getD k Enc.dflt).act, a, b, s, h1.eq⟩)) σ' → WL E ops l Q S σ') : WL E ops (⟨none, .store t x y, ty, pos, af, none⟩ :: l) Q S σ :=
  wc_store hx hy ht ho rfl rfl (by intro c hc; simp only [AV.cells, List.mem_cons, List.not_mem_nil, or_false] at hc; rcases hc with rfl | rfl | rfl; rfl; rfl; exact h1.eq) (by have := rowCells_length l'; have e2 : Enc.e StC = 4 := rfl; rw [e2] at this; omega) (splice_st h1.eq hk) hm kk
theorem pc_loStT {xs : List StC} {g : Option (Nat × Bool)} (hx : S.ev x = some (.pt i (0 + k * 4 + 1))) (ht : Ty E.P t true 3 bytes z) (h : Has σ₀ i (Row xs)) (hk : k < xs.length) (hl : LeS σ₀ σ) : PO E S σ σ₀.length ⟨d, .load t x, ty, pos, af, g⟩ (.agg [I (xs.getD k Enc.dflt).op, I (xs.getD k Enc.dflt).n, (xs.getD k Enc.dflt).s]) :=
  pc_loadnL hx ht (at_sub3 (at_own h hk)) hl
end
def Tm.askO (ds : List Tm) (t : Tm) : Option (List Stp) := if (defsOk ds && t.fits ds.length) = true then some (t.steps ds) else none
theorem fits_get {t : Tm} {m : Int} (h : t.fits m = true) : t.shape = true ∧ t.callLt m = true ∧ t.cnt ≤ 24 := by
  unfold Tm.fits Tm.ok at h
  simp only [Bool.and_eq_true, decide_eq_true_eq] at h
  exact ⟨h.1.1.2, h.2, h.1.1.1⟩
section
variable {base : Nat}
theorem c_l3Asked (t : Tm) (ds : List Tm) (σ : Store) (s d : AV) [hs : RTs σ s t.ps] [hd : RTs σ d ds] : ACall Tryd.prog base F_spec_l3Asked [.agg [I t.op, I t.n, s], d] σ (fun _ => False) (Ret σ (Bo (defsOk ds && t.fits ds.length))) := by
  have := hs.one
  have := hd.one
  refine acall2 fun_spec_l3Asked rfl tmps_spec_l3Asked rfl fun N B w₀ ρ₀ => ?_
  repeat' (first
    | (refine wc_callR rfl inferInstance rfl (c_sDefsOk ds _ _) rfl ?_; intro _ _)
    | (refine wc_callR rfl inferInstance rfl (c_sTermFits _ t _ _) rfl ?_; intro _ _)
    | refine wp_seqA ?_
    | refine wp_region_seq ?_
    | refine thru_seq_next ?_
    | refine wp_retA ?_
    | refine wl_nil ?_
    | refine wl_pop rfl (po_move rfl) ?_
    | refine wl_pop rfl (po_assign rfl) ?_
    | refine wc_loadn rfl inferInstance (at_has (cs := [_, _, _]) (.inl rfl) rfl rfl) rfl ?_
    | (refine wc_boxA rfl inferInstance rfl ?_; intro _ _ _ _ _)
    | refine wl_pop rfl (po_pick rfl rfl) ?_
    | refine wc_guardT_true rfl rfl rfl ?_
    | refine wc_guardF_true rfl rfl rfl rfl ?_
    | refine wc_guard rfl rfl rfl rfl (fun _ => ?_) (fun _ => ?_)
    | refine wl_pop rfl (pc_lenT rfl inferInstance inferInstance) ?_
    | refine at_ret (res1 rfl rfl) ?_
    | fail)
  all_goals refine ret_ inferInstance (congrArg Bo ?_)
  all_goals simp_all
end
end Go.Proofs.YtpkgcdpebomalaaDoor.Asl
