/- The reader: definitions. -/
import Derived.Test.YtcmkkmlgdkhmiaaD3
namespace Go.Proofs.Ytcmkkmlgdkhmiaa.Asl
open Go.RowKit
set_option linter.unusedVariables false
set_option linter.unusedSimpArgs false
attribute [local irreducible] WP WL andThen inBlock noGoto atEnd ACall DA DL PO Hold
set_option maxHeartbeats 4000000
section
variable {E : Env} {ops : Array Oper} {l : List Oper} {Q : Exit → Slots → Store → Prop} {S : Slots} {σ σ₀ : Store} {d : Option Tmp} {ty : TypeId} {pos : String} {af : Array Edge} {x y : Operand}
theorem wc_appendTmS (m : Nat) {t e : TypeId} {s u : AV} {xs : List Tm} {tm : Tm} {j : Nat} {agg : Bool} {bytes : Nat} {z : Value} (hx : S.ev x = some s) (hy : S.ev y = some (.sl j 0 1)) (ht : Un E.P t (.slice e)) (he : Ty E.P e agg 3 bytes z) (hz : z.cells.size = 3) (hb0 : 0 < bytes) (hb : bytes ≤ 4096)
    (h : RepD σ (fun i => σ₀.length ≤ i ∧ i < m) s xs) (hn : ∀ a c, s = .lit (.slice a 0 c) → s = nilS) (hu : RepD σ (fun i => m ≤ i) u tm.ps) (hm0 : σ₀.length ≤ m) (h0 : σ₀.length ≤ σ.length) (hj : Has σ j ⟨.own, 3, [I tm.op, I tm.n, u], []⟩) (hone : One u) (hlen : xs.length < 4294967296) (hmay : ∀ id, σ₀.length ≤ id → E.may id) (hd : okd E d = true)
    (k : ∀ s' σ', App σ₀ σ s s' σ' → Mk σ σ₀ σ σ' → RepD σ' (fun i => σ₀.length ≤ i) s' (xs ++ [tm]) → One s' → WL E ops l Q (S.put d s') σ') :
    WL E ops (⟨d, .call ⟨.builtin .append, #[x, y], #[t, t]⟩, ty, pos, af, none⟩ :: l) Q S σ := by
  have hap : Appends E.P σ 3 1 (.sl j 0 1) [I tm.op, I tm.n, u] := Appends.row hj.get (.inr rfl) rfl rfl (by simpa [AV.one] using hone.eq)
  have hlim : ∀ n, n ≤ 4294967296 → n * bytes ≤ 140737488355328 := fun n hn => by
    have := Nat.mul_le_mul hn hb
    omega
  have hul := hu.lt
  generalize hs : s = s0 at h
  cases h with
  | nil =>
    have := hn _ _ hs
    subst this
    refine wc_append_nil hx hy ht.eq he hz hb0 hap (by decide) (hlim _ (by simp)) hd fun i σ' hg hnw hh => ?_
    have hr : RepD σ' (fun i => σ₀.length ≤ i) (.sl i 0 ([tm] : List Tm).length) [tm] := by
      refine (RepD.single (id' := i) hul (fun q o _ ho => hg.keep q o ho) (fun q hq => by have := hnw.le; omega) hh).mono (fun _ _ _ h => h) fun q hq => ?_
      rcases hq with hq | rfl
      · omega
      · exact Nat.le_trans h0 hnw.le
    have ha : App σ₀ σ nilS (.sl i 0 1) σ' := ⟨fun q o _ ho => hg.keep q o ho, hg.len, .inr ⟨_, _, rfl, hnw.le⟩⟩
    exact k _ σ' ha ha.turned hr ⟨rfl⟩
  | @row _ id l0 _ ss Fs h1 h2 h3 h4 h5 h6 h7 h8 h9 =>
    subst hs
    have hrow : RepD σ (fun i => σ₀.length ≤ i ∧ i < m) (.sl id 0 xs.length) xs := .row ss Fs h1 h2 h3 h4 h5 h6 h7 h8 h9
    have hrl := hrow.lt
    refine wc_append hx hy ht.eq he hz hb0 h2 rfl h3 hap (hmay _ h1.1) (hlim _ (by omega)) hd fun i σ₁ σ' hu1 hg hnw hh => ?_
    have hkeep : ∀ (q : Nat) (o : Ob), q ≠ id → σ[q]? = some o → σ'[q]? = some o := fun q o hq ho => hg.keep q o (by rw [hu1.eq, List.getElem?_set_ne (Ne.symm hq)]; exact ho)
    have hr := RepD.snoc hrl h2 hul (fun q ha hb => by omega) (fun q o _ hq ho => hkeep q o hq ho) (fun q hq => by
      have := hnw.le
      rcases hq with hq | hq
      · have := hq.2; omega
      · have := hq.2; omega) hh hlen
    have hl2 : (xs ++ [tm]).length = xs.length + 1 := by simp
    rw [hl2] at hr
    have ha : App σ₀ σ (.sl id 0 xs.length) (.sl i 0 (xs.length + 1)) σ' := by
      refine ⟨fun q o hq ho => hkeep q o ?_ ho, ?_, .inr ⟨_, _, rfl, hnw.le⟩⟩
      · rcases hq with hq | hq
        · have := h1.1; omega
        · intro e; subst e; exact hq _ rfl
      · have := Upd.len hu1
        have := hg.len
        omega
    refine k _ σ' ha ha.turned (hr.mono (fun _ _ _ h => h) fun q hq => ?_) ⟨rfl⟩
    rcases hq with hq | hq | rfl
    · exact hq.1.1
    · have := hq.1; omega
    · exact Nat.le_trans h0 hnw.le
end
theorem App.leB {i : Nat} {σ₀ σ σ' : Store} {s s' : AV} (h : App σ₀ σ s s' σ') (k : LeB i σ₀ σ) : LeB i σ₀ σ' :=
  ⟨⟨fun j o hj ho => h.keep j o (.inl (Has.lt ⟨ho⟩)) (k.keep.keep j o hj ho)⟩, Nat.le_trans k.len h.len⟩
theorem RepD.setLeaf {σ σ' : Store} {F : Nat → Prop} {id : Nat} {l : List AV} {xs : List Tm} {k : Nat} {op n : Int} (h : RepD σ F (.sl id 0 xs.length) xs) (hl : Has σ id ⟨.own, 3, l, []⟩) (hk : k < xs.length) (u : Upd σ id ⟨.own, 3, splice l (0 + k * 3) [I op, I n, nilS], []⟩ σ') :
    RepD σ' F (.sl id 0 (xs.set k (.node op n [])).length) (xs.set k (.node op n [])) := by
  rw [Nat.zero_add] at u
  generalize hv : AV.sl id 0 xs.length = v at h
  cases h with
  | nil => cases hv
  | @row _ id0 l0 _ ss Fs h1 h2 h3 h4 h5 h6 h7 h8 h9 =>
    cases hv
    have el : l0 = l := by
      have := h2.get.symm.trans hl.get
      simpa using this
    subst el
    have hsl : (splice l0 (k * 3) [I op, I n, nilS]).length = l0.length := splice_length (by simp; omega)
    refine RepD.row (ss.set k nilS) Fs h1 instHasUpd (by rw [hsl, List.length_set]; exact h3) (by simpa using h4) (by simpa using h5) (by simpa using h6) (by simpa using h7) ?_ ?_
    · intro j t' s' ht hs
      by_cases e : k = j
      · subst e
        rw [List.getElem?_set_self hk] at ht
        rw [List.getElem?_set_self (by omega)] at hs
        cases ht; cases hs
        exact cutL_splice_eq (by simp; omega) rfl
      · rw [List.getElem?_set_ne e] at ht hs
        have := get_lt ht
        rw [cutL_splice_ne (by simp; omega) (by simp; omega)]
        exact h8 j t' s' ht hs
    · intro j t' s' ht hs
      by_cases e : k = j
      · subst e
        rw [List.getElem?_set_self hk] at ht
        rw [List.getElem?_set_self (by omega)] at hs
        cases ht; cases hs
        exact .nil
      · rw [List.getElem?_set_ne e] at ht hs
        have hj := get_lt ht
        exact (h9 j t' s' ht hs).mono (fun x o hx ho => by rw [u.eq, List.getElem?_set_ne (Ne.symm (h6 j hj x hx).2)]; exact ho) (fun _ h => h)
theorem RepD.sl {σ : Store} {F : Nat → Prop} {s : AV} {xs : List Tm} (h : RepD σ F s xs) (hne : xs ≠ []) : ∃ id, s = .sl id 0 xs.length := by
  cases h with
  | nil => exact absurd rfl hne
  | row => exact ⟨_, rfl⟩
theorem RepD.cells {σ : Store} {F : Nat → Prop} {id n : Nat} {xs : List Tm} (h : RepD σ F (.sl id 0 n) xs) : ∃ l, Has σ id ⟨.own, 3, l, []⟩ ∧ l.length = xs.length * 3 ∧ F id := by
  cases h with
  | row ss Fs h1 h2 h3 => exact ⟨_, h2, h3, h1⟩
theorem RepD.atC {i : Nat} {σ₀ σ σ' : Store} {s : AV} {xs : List Tm} (h : RepD σ (fun y => σ₀.length ≤ y) s xs) (l : LeB i σ σ') (hi : i < σ₀.length) : RepD σ' (fun y => σ₀.length ≤ y) s xs :=
  h.mono (fun j o hj ho => l.keep.keep j o (by omega) ho) (fun _ h => h)
theorem RepD.atB {i : Nat} {σ₀ σ σ' : Store} {s : AV} {xs : List Tm} (h : RepD σ (fun y => σ₀.length ≤ y) s xs) (l : LeB i σ σ') (hi : i < σ₀.length) : RepD σ' (fun y => σ₀.length ≤ y ∧ y < σ.length) s xs :=
  h.lt.mono (fun j o hj ho => l.keep.keep j o (by omega) ho) (fun _ h => h)
theorem KG_le4 : ∀ d, d ≤ 4 → KG d ≤ 186 := by
  intro d h
  have : d = 0 ∨ d = 1 ∨ d = 2 ∨ d = 3 ∨ d = 4 := by omega
  rcases this with rfl | rfl | rfl | rfl | rfl <;> decide
section
variable {base : Nat}
theorem c_good (i : Nat) (s : AV) (g : List UInt8) (p z m : Int) (b : Bool) (σ : Store) [Has σ i (RdO s p)] [Bk σ i s g] (hm0 : 0 ≤ m) (hm : m ≤ 100) (hz : 0 ≤ z) (hz4 : z ≤ 4) (hp : 0 ≤ p) (hp2 : p ≤ 999998000) :
    ACall Try.prog base F_spec_l91Good [.pt i 0, I z, I m, Bo b] σ (fun j => j = i) (RetRd σ i s p 186 (QT σ)) := by
  have h := KG_le4 z.toNat (by omega)
  refine (c_l91Good (base := base) m hm0 hm z.toNat b i s g p z σ (by omega) (by omega) hp (by omega)).mono ?_
  rintro r σ' ⟨⟨p', h1, h2, h3⟩, h4⟩
  exact ⟨⟨p', h1, by omega, h3⟩, h4⟩
/-- A list of terms that is drawn. -/
def QTs (σ : Store) (n : Nat) : AV → Store → Prop := fun r σ' => ∃ xs : List Tm, xs.length ≤ n ∧ RTsD σ σ' r xs
theorem c_l91Defs (i : Nat) (s : AV) (g : List UInt8) (p : Int) (σ : Store) [hi : Has σ i (RdO s p)] [hb : Bk σ i s g] (hp : 0 ≤ p) (hp2 : p ≤ 999990000) : ACall Try.prog base F_spec_l91Defs [.pt i 0] σ (fun j => j = i) (RetRd σ i s p 1000 (QTs σ 3)) := by
  have := hb.rw.one
  have hi0 := hi.lt
  refine acall1 fun_spec_l91Defs rfl tmps_spec_l91Defs rfl fun N B w₀ ρ₀ => ?_
  repeat' (first
    | (refine wc_callP rfl inferInstance rfl (c_pick i s g _ _ _ (hb := hb.le inferInstance) (by omega) (by omega)) inferInstance (.inl rfl) rfl ?_; intro _ _ _ _ _ _ _ _ _ _)
    | (refine wc_buildSlice (cs := []) Un.eq inferInstance rfl (by decide) (by decide) rfl (by simp) rfl rfl ?_; intro _ _ _ _ _)
    | refine wp_seqA ?_
    | refine wp_region_seq ?_
    | refine thru_seq_next ?_
    | refine wp_blockA ?_
    | refine wl_nil ?_
    | refine wl_pop rfl (po_move rfl) ?_
    | refine wl_pop rfl (po_assign rfl) ?_
    | fail)
  rename_i m0 p0 σ1 σ2 a1 a2 a3 a4 g1 u1 i3 σ3 g3 n3 h3
  have hle3 : LeB i σ σ3 := inferInstance
  have hi3 := n3.le
  have hl3 := hle3.len
  have hl2 : σ.length ≤ σ2.length := (inferInstance : LeB i σ σ2).len
  refine wc_loop [(0, _), (3, _)] (fun x : Nat × AV × Int => [(4, x.2.1), (5, I x.1)]) (fun x σ' => (x.1 : Int) ≤ m0 ∧ x.2.1.id = x.2.1.id ∧ p ≤ x.2.2 ∧ x.2.2 ≤ p + 1 + 187 * x.1 ∧ LeB i σ σ' ∧ Has σ' i (RdO s x.2.2) ∧ ∃ (id : Nat) (xs : List Tm), x.2.1 = .sl id 0 xs.length ∧ xs.length = x.1 ∧ RepD σ' (fun y => σ.length ≤ y) x.2.1 xs) (fun x => (m0 - x.1).toNat) (0, .sl i3 0 0, p0) ⟨by dsimp only; omega, rfl, by dsimp only; omega, by dsimp only; omega, hle3, inferInstance, i3, [], rfl, rfl, RepD.row (ps := []) [] (fun _ _ => False) (by omega) h3 rfl (by simp) rfl (fun k hk => by simp at hk) (fun k k' x hk => by simp at hk) (fun k t s ht => by simp at ht) (fun k t s ht => by simp at ht)⟩ (by repeat' (first | exact sub_nil | refine sub_cons rfl ?_ | refine sub_int rfl (by first | rfl | omega | (push_cast; omega) | simp) ?_ | refine sub_eq rfl (by assumption) ?_)) ?_
  rintro ⟨k, v, q⟩ σ4 ⟨b1, _, b2, b3, hle4, hi4, id, xs, e1, e2, hrep⟩
  dsimp only at b1 b2 b3 hi4 e1 e2 hrep ⊢
  subst e1
  have hl4 := hle4.len
  have hr1 := hrep.one
  obtain ⟨l, hl, hll, hF⟩ := hrep.cells
  have dif1 : Dif id i := ⟨by omega⟩
  have dif2 : Dif i id := ⟨by omega⟩
  have hnew : New σ id := ⟨hF⟩
  repeat' (first
    | (refine wc_callP rfl inferInstance rfl (c_pick i s g _ _ _ (hb := hb.le inferInstance) (by omega) (by omega)) inferInstance (.inl rfl) rfl ?_; intro _ _ _ _ _ _ _ _ _ _)
    | (refine wc_callRT rfl inferInstance rfl (@c_good _ i s g _ _ _ _ _ inferInstance (hb.le inferInstance) (by omega) (by omega) (by omega) (by omega) (by omega) (by omega)) inferInstance (.inl rfl) rfl ?_; intro _ _ _ _ _ _ _ _ _ _ _ _)
    | (refine wc_oneTm rfl inferInstance inferInstance rfl (by decide) rfl ?_; intro _ _ _ _ _)
    | (refine wc_appendTmS (σ₀ := σ) σ4.length rfl rfl inferInstance inferInstance rfl (by decide) (by decide) (hrep.atB (i := i) inferInstance hi0) (fun _ _ h => by cases h) (rtsD_ge inferInstance (inferInstance : LeB i σ4 _).len) hl4 (inferInstance : LeB i σ _).len inferInstance inferInstance (by omega) (fun _ h => .inr h) rfl ?_; intro _ _ _ _ _ _)
    | refine wl_pop rfl (pc_tm2 rfl rfl inferInstance inferInstance rfl) ?_
    | refine wl_pop rfl (pc_indexSlZ rfl rfl inferInstance inferInstance (by omega) (by omega)) ?_
    | (refine wc_storeA rfl rfl inferInstance inferInstance rfl inferInstance (by omega) (.inr hF) ?_; intro _ _)
    | refine wp_seqA ?_
    | refine wp_region_seq ?_
    | refine thru_seq_next ?_
    | refine thru_seq ?_
    | refine thru_block_next ?_
    | refine exit_here ?_
    | refine wp_skipA ?_
    | refine wp_retA ?_
    | refine wp_exitA ?_
    | refine wp_blockA ?_
    | refine wl_nil ?_
    | refine wl_pop rfl (po_move rfl) ?_
    | refine wl_pop rfl (po_assign rfl) ?_
    | refine wl_pop rfl (pc_add rfl rfl (by omega) (by omega)) ?_
    | refine wl_pop rfl (po_binOp rfl rfl rfl) ?_
    | refine wl_pop rfl (po_pick rfl rfl) ?_
    | refine wc_guardT_true rfl rfl rfl ?_
    | refine wc_guardF_true rfl rfl rfl rfl ?_
    | refine wc_guardP_true rfl rfl rfl rfl (fun _ => ?_) (fun _ => ?_)
    | refine wp_condF rfl ?_
    | refine wp_condP rfl (fun _ => ?_) (fun _ => ?_)
    | refine at_ret (res1 rfl rfl) ?_
    | fail)
  · rename_i hk v1 p1 σ5 σ6 c1 c2 c3 c4 g6 u6 t u p2 σ7 σ8 ho hr hg c5 c6 g8 u8 j σ9 g9 n9 h9 s' σ10 ap mk rep' ho'
    obtain ⟨id', e'⟩ := rep'.sl (by simp)
    exact ⟨(k + 1, s', p2), by dsimp only; omega, ⟨by dsimp only; push_cast; omega, rfl, by dsimp only; omega, by dsimp only; push_cast; omega, ap.leB inferInstance, inferInstance, id', xs ++ [t], e', by simp [e2], rep'⟩, (by repeat' (first | exact sub_nil | refine sub_cons rfl ?_ | refine sub_int rfl (by first | rfl | omega | (push_cast; omega) | simp) ?_ | refine sub_eq rfl (by assumption) ?_))⟩
  · rename_i hk hm v1 p1 σ5 σ6 c1 c2 c3 c4 g6 u6 hv v2 p2 σ7 σ8 d1 d2 d3 d4 g8 u8 v3 p3 σ9 σ10 f1 f2 f3 f4 g10 u10 σ11 u11
    have R := RepD.setLeaf (hrep.atC (inferInstance : LeB i σ4 σ10) hi0) (inferInstance : Has σ10 id _) (by omega) u11
    rw [List.length_set] at R
    exact ⟨⟨p3, by omega, by omega, inferInstance⟩, inferInstance, _, by rw [List.length_set]; omega, ⟨R⟩⟩
  · rename_i hk hm v1 p1 σ5 σ6 c1 c2 c3 c4 g6 u6 hv
    exact ⟨⟨p1, by omega, by omega, inferInstance⟩, inferInstance, xs, by omega, ⟨hrep.atC inferInstance hi0⟩⟩
  · rename_i hk hm
    exact ⟨⟨q, by omega, by omega, inferInstance⟩, inferInstance, xs, by omega, ⟨hrep⟩⟩
end
end Go.Proofs.Ytcmkkmlgdkhmiaa.Asl
