/- What the drawn law FnTermSwap draws; terms alike. -/
import Derived.Test.YtpkgcdpebomalaaDD
import Derived.Test.YtpkgcdpebomalaaT21
namespace Go.Proofs.Ytpkgcdpebomalaa.Asl
open Go.RowKit
set_option linter.unusedVariables false
set_option linter.unusedSimpArgs false
attribute [local irreducible] WP WL andThen inBlock noGoto atEnd ACall DA DL PO Hold Tm.ok
set_option maxHeartbeats 4000000
theorem res_cell3 {P : Program} {fn : Func} {S : Slots} {σ : Store} {c u v : Tmp} {t : TypeId} {id off size bytes : Nat} {z : Value} {cs : List AV} {y y2 : AV} (h : fn.results = #[.cell c t, .tmp u, .tmp v]) (hx : S.get c = some (.pt id off)) (ht : Ty P t true size bytes z) (ha : At σ id off size cs) (hy : S.get u = some y) (hz : S.get v = some y2) : ResOK P fn S σ (.tup [.agg cs, y, y2]) := by
  obtain ⟨o, ho, hl, hcs, hn⟩ := ha.get
  intro E a w ρ hP hc
  obtain ⟨ad, q, h0, h1, h2⟩ := hc.readCell hP hx ht ho hl hcs hn
  refine ⟨.tuple #[q, a.tmps.getD u undef, a.tmps.getD v undef], ?_, .tup (.cons h2 (.cons (hc.getD hy) (.cons (hc.getD hz) .nil)))⟩
  simp [results, h, h0, h1]
section
variable {base : Nat}
def RetTS (σ : Store) : AV → Store → Prop := fun r σ' => ∃ (t : Tm) (u : AV) (m1 m2 : Int), r = .tup [.agg [I t.op, I t.n, u], I m1, I m2] ∧ RTs σ' u t.ps ∧ -10 ≤ m1 ∧ m1 ≤ 10 ∧ -10 ≤ m2 ∧ m2 ≤ 10 ∧ Grow σ σ'
theorem wc_callTS {E : Env} {ops : Array Oper} {l : List Oper} {Q : Exit → Slots → Store → Prop} {S : Slots} {σ : Store} {d : Option Tmp} {ty : TypeId} {pos : String} {af : Array Edge} {x : Operand} {args : Array Operand} {ats : Array TypeId} {f : FuncId} {rs caps : List AV} (hf : S.ev x = some (.fn f caps)) (hc : Callable E.P f) (hargs : evs S args.toList = some rs)
    (h : ACall E.P E.base f (rs ++ caps) σ (fun _ => False) (RetTS σ)) (hd : okd E d = true) (k : ∀ (t : Tm) (u : AV) (m1 m2 : Int) σ', One u → RTs σ' u t.ps → Grow σ σ' → WL E ops l Q (S.put d (.tup [.agg [I t.op, I t.n, u], I m1, I m2])) σ') :
    WL E ops (⟨d, .call ⟨.value x, args, ats⟩, ty, pos, af, none⟩ :: l) Q S σ :=
  wc_call hf hc hargs h hd fun r' σ' h => by obtain ⟨t, u, m1, m2, e, h1, _, _, _, _, h4⟩ := h; subst e; exact k t u m1 m2 σ' h1.one h1 h4
end
/-! Exchanged twice. -/
theorem swN_inv {k a b : Int} : swN (swN k a b) a b = k := by
  unfold swN; repeat' split
  all_goals omega
theorem swN_rng {k a b : Int} (ha : 0 ≤ a ∧ a ≤ 3) (hb : 0 ≤ b ∧ b ≤ 3) (hk : 0 ≤ k ∧ k ≤ 3) : 0 ≤ swN k a b ∧ swN k a b ≤ 3 := by
  unfold swN; repeat' split
  all_goals omega
theorem swA_inv {x a b : Int} (ha : 0 ≤ a) (hb : 0 ≤ b) : swA (swA x a b) a b = x := by
  unfold swA swN; repeat' split
  all_goals omega
mutual
theorem Tm.sw_inv {a b : Int} (ha : 0 ≤ a) (hb : 0 ≤ b) : ∀ t : Tm, (t.sw a b).sw a b = t
  | .node op n ps => by
    simp only [Tm.sw]
    rw [Tm.sws_inv ha hb ps]
    congr 1
    by_cases h1 : op = 1
    · simp only [h1, if_true]; exact swA_inv ha hb
    · by_cases h4 : op = 4
      · simp only [h4, if_true]; exact swN_inv
      · simp only [h1, h4, if_false]
theorem Tm.sws_inv {a b : Int} (ha : 0 ≤ a) (hb : 0 ≤ b) : ∀ ps : List Tm, Tm.sws a b (Tm.sws a b ps) = ps
  | [] => rfl
  | p :: ps => by simp only [Tm.sws]; rw [Tm.sw_inv ha hb p, Tm.sws_inv ha hb ps]
end
end Go.Proofs.Ytpkgcdpebomalaa.Asl
