/- The reader: opened; an act. -/
import Derived.Test.YtcmkkmlgdkhmiaaD1
import Derived.Test.YtcmkkmlgdkhmiaaB6
namespace Go.Proofs.Ytcmkkmlgdkhmiaa.Asl
open Go.RowKit
set_option linter.unusedVariables false
attribute [local irreducible] WP WL andThen inBlock noGoto atEnd ACall DA DL PO Hold
set_option maxHeartbeats 4000000
/-- A reader that is new. -/
def RetOpen (σ : Store) : AV → Store → Prop := fun r σ' => ∃ i s, r = .pt i 0 ∧ New σ i ∧ Has σ' i (RdO s 0) ∧ (∃ g, Bk σ' i s g) ∧ Grow σ σ'
theorem Bk.new {σ₀ σ : Store} {i : Nat} {s : AV} {g : List UInt8} (h : RW σ₀ s g) (n : New σ₀ i) (h' : RW σ s g) : Bk σ i s g := ⟨h', fun ⟨off, m, e⟩ => by
  rcases h.2 with ⟨_, a, c, e2⟩ | ⟨_, _, o, e2, ho, _⟩
  · rw [e2] at e; cases e
  · have := Has.lt (σ := σ₀) ⟨ho⟩
    have := n.le
    rw [e2]
    simp only [AV.id]
    omega⟩
theorem one_cells {v : AV} (h : v.one = true) : v.cells = [v] := by
  cases v with
  | lit v => cases v <;> simp_all [AV.one, AV.cells]
  | agg l => simp [AV.one] at h
  | tup l => simp [AV.one] at h
  | _ => rfl
section
variable {E : Env} {ops : Array Oper} {l : List Oper} {Q : Exit → Slots → Store → Prop} {S : Slots} {σ σ₀ : Store} {d : Option Tmp} {ty : TypeId} {pos : String} {af : Array Edge} {g : Option (Nat × Bool)} {n0 : Nat} {x0 x1 x2 : Operand} {t e : TypeId}
theorem pc_buildRd {bytes : Nat} {z : Value} {s : AV} [h1 : One s] (hx : S.ev x0 = some s) (hst : StructAt E.P t [(0, 1), (1, 1)]) (ht : Ty E.P t true 2 bytes z) (hz : z.cells.toList = [.slice none 0 0, .int .i64 0]) :
    PO E S σ n0 ⟨d, .build t #[(0, x0)], ty, pos, af, g⟩ (.agg [s, I 0]) := by
  have hzs : z.cells.size = 2 := by rw [← Array.length_toList, hz]; rfl
  have hc := one_cells h1.eq
  refine po_build (rs := [(0, s)]) hst ht (by simp [evParts, hx]) ?_ ?_
  · intro r hr
    simp only [List.mem_cons, List.not_mem_nil, or_false] at hr
    subst hr
    exact ⟨0, 1, rfl, by simp [hc], by omega⟩
  · rw [hz]; simp only [fillA, hc]; rfl
theorem pc_tm2 {bytes : Nat} {z : Value} {a b : Int} (hx : S.ev x0 = some (I a)) (hy : S.ev x1 = some (I b)) (hst : StructAt E.P t [(0, 1), (1, 1), (2, 1)]) (ht : Ty E.P t true 3 bytes z) (hz : z.cells.toList = [.int .i64 0, .int .i64 0, .slice none 0 0]) :
    PO E S σ n0 ⟨d, .build t #[(0, x0), (1, x1)], ty, pos, af, g⟩ (.agg [I a, I b, nilS]) := by
  have hzs : z.cells.size = 3 := by rw [← Array.length_toList, hz]; rfl
  refine po_build (rs := [(0, I a), (1, I b)]) hst ht (by simp [evParts, hx, hy]) ?_ ?_
  · intro r hr
    simp only [List.mem_cons, List.not_mem_nil, or_false] at hr
    rcases hr with rfl | rfl
    · exact ⟨0, 1, rfl, rfl, by omega⟩
    · exact ⟨1, 1, rfl, rfl, by omega⟩
  · rw [hz]; rfl
theorem pc_tm3 {bytes : Nat} {z : Value} {a b : Int} {s : AV} [h1 : One s] (hx : S.ev x0 = some (I a)) (hy : S.ev x1 = some (I b)) (hs : S.ev x2 = some s) (hst : StructAt E.P t [(0, 1), (1, 1), (2, 1)]) (ht : Ty E.P t true 3 bytes z) (hz : z.cells.toList = [.int .i64 0, .int .i64 0, .slice none 0 0]) :
    PO E S σ n0 ⟨d, .build t #[(0, x0), (1, x1), (2, x2)], ty, pos, af, g⟩ (.agg [I a, I b, s]) := by
  have hzs : z.cells.size = 3 := by rw [← Array.length_toList, hz]; rfl
  have hc := one_cells h1.eq
  refine po_build (rs := [(0, I a), (1, I b), (2, s)]) hst ht (by simp [evParts, hx, hy, hs]) ?_ ?_
  · intro r hr
    simp only [List.mem_cons, List.not_mem_nil, or_false] at hr
    rcases hr with rfl | rfl | rfl
    · exact ⟨0, 1, rfl, rfl, by omega⟩
    · exact ⟨1, 1, rfl, rfl, by omega⟩
    · exact ⟨2, 1, rfl, by simp [hc], by omega⟩
  · rw [hz]; simp only [fillA, hc]; rfl
theorem pc_tm02 {bytes : Nat} {z : Value} {a : Int} {s : AV} [h1 : One s] (hx : S.ev x0 = some (I a)) (hs : S.ev x2 = some s) (hst : StructAt E.P t [(0, 1), (1, 1), (2, 1)]) (ht : Ty E.P t true 3 bytes z) (hz : z.cells.toList = [.int .i64 0, .int .i64 0, .slice none 0 0]) :
    PO E S σ n0 ⟨d, .build t #[(0, x0), (2, x2)], ty, pos, af, g⟩ (.agg [I a, I 0, s]) := by
  have hzs : z.cells.size = 3 := by rw [← Array.length_toList, hz]; rfl
  have hc := one_cells h1.eq
  refine po_build (rs := [(0, I a), (2, s)]) hst ht (by simp [evParts, hx, hs]) ?_ ?_
  · intro r hr
    simp only [List.mem_cons, List.not_mem_nil, or_false] at hr
    rcases hr with rfl | rfl
    · exact ⟨0, 1, rfl, rfl, by omega⟩
    · exact ⟨2, 1, rfl, by simp [hc], by omega⟩
  · rw [hz]; simp only [fillA, hc]; rfl
end
theorem rw_take {σ : Store} {s : AV} {g : List UInt8} {n : Nat} (h : RW σ s g) (hn : n ≤ g.length) (hn0 : 0 < n) : RW σ (.sl s.id s.off n) (g.take n) := by
  obtain ⟨o, h1, h2, h3, h4, h5⟩ := h.inner (by omega)
  have hl : (g.take n).length = n := by rw [List.length_take]; omega
  refine ⟨by have := h.bound; omega, .inr ⟨_, _, o, by rw [hl], h2, h3, h4, fun k x hx => ?_⟩⟩
  rw [List.getElem?_take] at hx
  split at hx
  · exact h5 k x hx
  · cases hx
section
variable {base : Nat}
theorem c_l91Do (i : Nat) (s : AV) (g : List UInt8) (p : Int) (σ : Store) [hi : Has σ i (RdO s p)] [hb : Bk σ i s g] (hp : 0 ≤ p) (hp2 : p ≤ 999999000) : ACall Try.prog base F_spec_l91Do [.pt i 0] σ (fun j => j = i) (RetRd σ i s p 2 (QP (-4) 4)) := by
  have := hb.rw.one
  refine acall1 fun_spec_l91Do rfl tmps_spec_l91Do rfl fun N B w₀ ρ₀ => ?_
  repeat' (first
    | (refine wc_callP rfl inferInstance rfl (c_pick i s g _ _ _ (hb := hb.le inferInstance) (by omega) (by omega)) inferInstance (.inl rfl) rfl ?_; intro _ _ _ _ _ _ _ _ _ _)
    | refine wp_seqA ?_
    | refine wp_region_seq ?_
    | refine thru_seq_next ?_
    | refine thru_seq_ret ?_
    | refine wp_skipA ?_
    | refine wp_retA ?_
    | refine wl_nil ?_
    | refine wl_pop rfl (po_move rfl) ?_
    | refine wl_pop rfl (po_assign rfl) ?_
    | refine wl_pop rfl (pc_sub rfl rfl (by omega) (by omega)) ?_
    | refine wl_pop rfl (po_binOp rfl rfl rfl) ?_
    | refine wp_condP rfl (fun _ => ?_) (fun _ => ?_)
    | refine at_ret (res1 rfl rfl) ?_
    | fail)
  all_goals
    rename_i v1 p1 σa σb k1 k2 k3 k4 ga ua hx v2 p2 σc σd q1 q2 q3 q4 gc uc
    exact ⟨⟨p2, by omega, by omega, inferInstance⟩, inferInstance, _, rfl, by omega, by omega⟩
theorem c_l6Open (s : AV) (g : List UInt8) (σ : Store) [hs : RW σ s g] (hg : g.length ≤ 1048576) : ACall Try.prog base F_spec_l6Open [s] σ (fun _ => False) (RetOpen σ) := by
  have := hs.one
  refine acall1 fun_spec_l6Open rfl tmps_spec_l6Open rfl fun N B w₀ ρ₀ => ?_
  repeat' (first
    | refine wl_pop rfl (pc_lenRow rfl hs inferInstance) ?_
    | refine wp_seqA ?_
    | refine wp_region_seq ?_
    | refine thru_seq_next ?_
    | refine wp_skipA ?_
    | refine wl_nil ?_
    | refine wl_pop rfl (po_move rfl) ?_
    | refine wl_pop rfl (po_assign rfl) ?_
    | refine wl_pop rfl (po_binOp rfl rfl rfl) ?_
    | refine wp_condP rfl (fun _ => ?_) (fun _ => ?_)
    | fail)
  · obtain ⟨o, e1, e2, e3, e4, _⟩ := hs.inner (by omega)
    have ho : Has σ s.id o := ⟨e2⟩
    have hr := rw_take hs (n := 2000) (by omega) (by decide)
    generalize s.id = q at *
    generalize s.off = u at *
    subst e1
    repeat' (first
      | refine wl_pop rfl (pc_sliceHi (b := 2000) rfl rfl inferInstance inferInstance ho e3 e4 (by omega)) ?_
      | refine wl_pop rfl (pc_buildRd rfl inferInstance inferInstance rfl) ?_
      | refine wp_seqA ?_
      | refine wp_region_seq ?_
      | refine thru_seq_next ?_
      | refine wp_retA ?_
      | refine wl_nil ?_
      | refine wl_pop rfl (po_move rfl) ?_
      | refine wl_pop rfl (po_assign rfl) ?_
      | (refine wc_boxA rfl inferInstance rfl ?_; intro _ _ _ _ _)
      | refine at_ret (res1 rfl rfl) ?_
      | fail)
    rename_i i1 σ1 g1 n1 h1
    exact ⟨i1, _, rfl, n1, h1, ⟨_, Bk.new hr n1 inferInstance⟩, g1⟩
  · repeat' (first
      | refine wl_pop rfl (pc_buildRd rfl inferInstance inferInstance rfl) ?_
      | refine thru_seq_next ?_
      | refine wp_retA ?_
      | refine wl_nil ?_
      | refine wl_pop rfl (po_assign rfl) ?_
      | (refine wc_boxA rfl inferInstance rfl ?_; intro _ _ _ _ _)
      | refine at_ret (res1 rfl rfl) ?_
      | fail)
    rename_i i1 σ1 g1 n1 h1
    exact ⟨i1, _, rfl, n1, h1, ⟨_, Bk.new hs n1 inferInstance⟩, g1⟩
end
end Go.Proofs.Ytcmkkmlgdkhmiaa.Asl
