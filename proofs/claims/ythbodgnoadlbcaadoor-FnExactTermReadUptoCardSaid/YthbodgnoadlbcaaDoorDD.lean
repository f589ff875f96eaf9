/- Several texts in one. -/
import Derived.Test.YthbodgnoadlbcaaDoorTU
import Derived.Test.YthbodgnoadlbcaaDoorGG
import Derived.Test.YthbodgnoadlbcaaDoorB6
/- A list of terms that grows by append, each object reached once. -/
namespace Go.Proofs.YthbodgnoadlbcaaDoor.Asl
open Go.RowKit
set_option linter.unusedVariables false
set_option linter.unusedSimpArgs false
attribute [local irreducible] WP WL andThen inBlock noGoto atEnd ACall DA DL PO Hold actB inB nodeOk
set_option maxHeartbeats 4000000
section
variable {E : Env} {ops : Array Oper} {l : List Oper} {Q : Exit → Slots → Store → Prop} {S : Slots} {σ σ₀ : Store} {d : Option Tmp} {ty : TypeId} {pos : String} {af : Array Edge} {x y : Operand}
theorem wc_appendTm (m : Nat) {t e : TypeId} {s u : AV} {xs : List Tm} {tm : Tm} {j : Nat} {agg : Bool} {bytes : Nat} {z : Value} (hx : S.ev x = some s) (hy : S.ev y = some (.sl j 0 1)) (ht : Un E.P t (.slice e)) (he : Ty E.P e agg 3 bytes z) (hz : z.cells.size = 3) (hb0 : 0 < bytes) (hb : bytes ≤ 4096)
    (h : RepD σ (fun i => σ₀.length ≤ i ∧ i < m) s xs) (hn : xs = [] → s = nilS) (hu : RepD σ (fun i => m ≤ i) u tm.ps) (hm0 : σ₀.length ≤ m) (h0 : σ₀.length ≤ σ.length) (hj : Has σ j ⟨.own, 3, [I tm.op, I tm.n, u], []⟩) (hone : One u) (hlen : xs.length < 4294967296) (hmay : ∀ id, σ₀.length ≤ id → E.may id) (hd : okd E d = true)
    (k : ∀ s' σ', App σ₀ σ s s' σ' → Mk σ σ₀ σ σ' → RepD σ' (fun i => σ₀.length ≤ i) s' (xs ++ [tm]) → One s' → WL E ops l Q (S.put d s') σ') :
    WL E ops (⟨d, .call ⟨.builtin .append, #[x, y], #[t, t]⟩, ty, pos, af, none⟩ :: l) Q S σ := by
  have hap : Appends E.P σ 3 1 (.sl j 0 1) [I tm.op, I tm.n, u] := Appends.row hj.get (.inr rfl) rfl rfl (by simpa [AV.one] using hone.eq)
  have hlim : ∀ n, n ≤ 4294967296 → n * bytes ≤ 140737488355328 := fun n hn => by
    have := Nat.mul_le_mul hn hb
    omega
  have hul := hu.lt
  generalize hs : s = s0 at h
  cases h with
  | nil =>
    have := hn rfl
    subst this
    refine wc_append_nil hx hy ht.eq he hz hb0 hap (by decide) (hlim _ (by simp)) hd fun i σ' hg hnw hh => ?_
    have hr : RepD σ' (fun i => σ₀.length ≤ i) (.sl i 0 ([tm] : List Tm).length) [tm] := by
      refine (RepD.single (id' := i) hul (fun q o _ ho => hg.keep q o ho) (fun q hq => by have := hnw.le; omega) hh).mono (fun _ _ _ h => h) fun q hq => ?_
      rcases hq with hq | rfl
      · omega
      · exact Nat.le_trans h0 hnw.le
    have ha : App σ₀ σ nilS (.sl i 0 1) σ' := ⟨fun q o _ ho => hg.keep q o ho, hg.len, .inr ⟨_, _, rfl, hnw.le⟩⟩
    exact k _ σ' ha ha.turned hr ⟨rfl⟩
  | @row _ id l0 _ ss Fs h1 h2 h3 h4 h5 h6 h7 h8 h9 =>
    subst hs
    have hrow : RepD σ (fun i => σ₀.length ≤ i ∧ i < m) (.sl id 0 xs.length) xs := .row ss Fs h1 h2 h3 h4 h5 h6 h7 h8 h9
    have hrl := hrow.lt
    refine wc_append hx hy ht.eq he hz hb0 h2 rfl h3 hap (hmay _ h1.1) (hlim _ (by omega)) hd fun i σ₁ σ' hu1 hg hnw hh => ?_
    have hkeep : ∀ (q : Nat) (o : Ob), q ≠ id → σ[q]? = some o → σ'[q]? = some o := fun q o hq ho => hg.keep q o (by rw [hu1.eq, List.getElem?_set_ne (Ne.symm hq)]; exact ho)
    have hr := RepD.snoc hrl h2 hul (fun q ha hb => by omega) (fun q o _ hq ho => hkeep q o hq ho) (fun q hq => by
      have := hnw.le
      rcases hq with hq | hq
      · have := hq.2; omega
      · have := hq.2; omega) hh hlen
    have hl2 : (xs ++ [tm]).length = xs.length + 1 := by simp
    rw [hl2] at hr
    have ha : App σ₀ σ (.sl id 0 xs.length) (.sl i 0 (xs.length + 1)) σ' := by
      refine ⟨fun q o hq ho => hkeep q o ?_ ho, ?_, .inr ⟨_, _, rfl, hnw.le⟩⟩
      · rcases hq with hq | hq
        · have := h1.1; omega
        · intro e; subst e; exact hq _ rfl
      · have := Upd.len hu1
        have := hg.len
        omega
    refine k _ σ' ha ha.turned (hr.mono (fun _ _ _ h => h) fun q hq => ?_) ⟨rfl⟩
    rcases hq with hq | hq | rfl
    · exact hq.1.1
    · have := hq.1; omega
    · exact Nat.le_trans h0 hnw.le
/-- A row of one term. -/
theorem wc_oneTm {t e : TypeId} {bytes : Nat} {z : Value} {a b : Int} {u : AV} (hx : S.ev x = some (.agg [I a, I b, u])) [hu : One u] (ht : Un E.P t (.slice e)) (he : Ty E.P e true 3 bytes z) (hz : z.cells.size = 3) (hz1 : ∀ v ∈ z.cells.toList, v.oneCell' = true) (hd : okd E d = true)
    (k : ∀ i σ', Grow σ σ' → New σ i → Has σ' i ⟨.own, 3, [I a, I b, u], []⟩ → WL E ops l Q (S.put d (.sl i 0 1)) σ') : WL E ops (⟨d, .buildSlice t 1 #[(0, x)], ty, pos, af, none⟩ :: l) Q S σ := by
  refine wc_buildSlice (rs := [(0, .agg [I a, I b, u])]) (cs := [I a, I b, u]) ht.eq he hz hz1 (by decide) (by simp [evParts, hx]) ?_ ?_ hd k
  · intro r hr
    simp only [List.mem_cons, List.not_mem_nil, or_false] at hr
    subst hr
    exact ⟨rfl, by simp, by simpa [AV.cells, AV.one] using hu.eq⟩
  · simp only [fillA, AV.cells]
    unfold splice
    simp
end
theorem RepD.at {σ₀ σ σ' : Store} {s : AV} {xs : List Tm} (h : RepD σ (fun i => σ₀.length ≤ i) s xs) (g : LeS σ σ') : RepD σ' (fun i => σ₀.length ≤ i ∧ i < σ.length) s xs :=
  h.lt.mono (fun i o _ ho => g.keep i o ho) (fun _ h => h)
end Go.Proofs.YthbodgnoadlbcaaDoor.Asl

/- The reader of a law's bytes: rules. -/
namespace Go.Proofs.YthbodgnoadlbcaaDoor.Asl
open Go.RowKit
set_option linter.unusedVariables false
set_option linter.unusedSimpArgs false
instance encU8 : Enc UInt8 := ⟨1, fun b => [.lit (.int .u8 (b.toNat : Int))], 0, by decide, fun _ => rfl⟩

/-- All objects but one are kept. -/
class LeB (i : Nat) (σ₀ σ : Store) : Prop where
  keep : LeX i σ₀ σ
  len : σ₀.length ≤ σ.length
instance instLeBRefl {i : Nat} {σ : Store} : LeB i σ σ := ⟨LeX.refl i σ, Nat.le_refl _⟩
instance instLeBGrow {i : Nat} {σ₀ σ σ' : Store} [g : Grow σ σ'] [h : LeB i σ₀ σ] : LeB i σ₀ σ' := ⟨h.keep.grow g, Nat.le_trans h.len g.len⟩
instance instLeBUpd {i : Nat} {σ₀ σ σ' : Store} {o : Ob} [g : Upd σ i o σ'] [h : LeB i σ₀ σ] : LeB i σ₀ σ' := ⟨h.keep.upd g, by have := g.len; have := h.len; omega⟩
instance instLeBUpdNew {i j : Nat} {σ₀ σa σ σ' : Store} {o : Ob} [g : Upd σ j o σ'] [n : New σa j] [k : LeB i σ₀ σa] [h : LeB i σ₀ σ] : LeB i σ₀ σ' :=
  ⟨h.keep.updNew g (Nat.le_trans k.len n.le), by have := g.len; have := h.len; omega⟩
/-- A row of bytes that is not the object. -/
class Bk (σ : Store) (i : Nat) (s : AV) (g : outParam (List UInt8)) : Prop where
  rw : RW σ s g
  ne : (∃ off n, s = .sl s.id off n) → s.id ≠ i
theorem Bk.le {σ₀ σ : Store} {i : Nat} {s : AV} {g : List UInt8} (h : Bk σ₀ i s g) (l : LeB i σ₀ σ) : Bk σ i s g :=
  ⟨h.rw.mono fun o hs ho => l.keep.keep _ o (h.ne hs) ho, h.ne⟩
/-- The reader's object. -/
abbrev RdO (s : AV) (p : Int) : Ob := ⟨.own, 1, [s, I p], []⟩
def RetRd (σ : Store) (i : Nat) (s : AV) (p K : Int) (Qr : AV → Store → Prop) : AV → Store → Prop := fun r σ' => (∃ p', p ≤ p' ∧ p' ≤ p + K ∧ Has σ' i (RdO s p')) ∧ LeB i σ σ' ∧ Qr r σ'
def QP (lo hi : Int) : AV → Store → Prop := fun r _ => ∃ v, r = I v ∧ lo ≤ v ∧ (v ≤ hi ∨ v = 0)
end Go.Proofs.YthbodgnoadlbcaaDoor.Asl

/- The reader: one pick. -/
namespace Go.Proofs.YthbodgnoadlbcaaDoor.Asl
open Go.RowKit
set_option linter.unusedVariables false
attribute [local irreducible] WP WL andThen inBlock noGoto atEnd ACall DA DL PO Hold
set_option maxHeartbeats 4000000
end Go.Proofs.YthbodgnoadlbcaaDoor.Asl

/- The reader: opened; an act. -/
namespace Go.Proofs.YthbodgnoadlbcaaDoor.Asl
open Go.RowKit
set_option linter.unusedVariables false
attribute [local irreducible] WP WL andThen inBlock noGoto atEnd ACall DA DL PO Hold
set_option maxHeartbeats 4000000
/-- A reader that is new. -/
def RetOpen (σ : Store) : AV → Store → Prop := fun r σ' => ∃ i s, r = .pt i 0 ∧ New σ i ∧ Has σ' i (RdO s 0) ∧ (∃ g, Bk σ' i s g) ∧ Grow σ σ'
theorem Bk.new {σ₀ σ : Store} {i : Nat} {s : AV} {g : List UInt8} (h : RW σ₀ s g) (n : New σ₀ i) (h' : RW σ s g) : Bk σ i s g := ⟨h', fun ⟨off, m, e⟩ => by
  rcases h.2 with ⟨_, a, c, e2⟩ | ⟨_, _, o, e2, ho, _⟩
  · rw [e2] at e; cases e
  · have := Has.lt (σ := σ₀) ⟨ho⟩
    have := n.le
    rw [e2]
    simp only [AV.id]
    omega⟩
section
variable {E : Env} {ops : Array Oper} {l : List Oper} {Q : Exit → Slots → Store → Prop} {S : Slots} {σ σ₀ : Store} {d : Option Tmp} {ty : TypeId} {pos : String} {af : Array Edge} {g : Option (Nat × Bool)} {n0 : Nat} {x0 x1 x2 : Operand} {t e : TypeId}
theorem pc_tm2 {bytes : Nat} {z : Value} {a b : Int} (hx : S.ev x0 = some (I a)) (hy : S.ev x1 = some (I b)) (hst : StructAt E.P t [(0, 1), (1, 1), (2, 1)]) (ht : Ty E.P t true 3 bytes z) (hz : z.cells.toList = [.int .i64 0, .int .i64 0, .slice none 0 0]) :
    PO E S σ n0 ⟨d, .build t #[(0, x0), (1, x1)], ty, pos, af, g⟩ (.agg [I a, I b, nilS]) := by
  have hzs : z.cells.size = 3 := by rw [← Array.length_toList, hz]; rfl
  refine po_build (rs := [(0, I a), (1, I b)]) hst ht (by simp [evParts, hx, hy]) ?_ ?_
  · intro r hr
    simp only [List.mem_cons, List.not_mem_nil, or_false] at hr
    rcases hr with rfl | rfl
    · exact ⟨0, 1, rfl, rfl, by omega⟩
    · exact ⟨1, 1, rfl, rfl, by omega⟩
  · rw [hz]; rfl
end
end Go.Proofs.YthbodgnoadlbcaaDoor.Asl

/- The reader: a term. -/
namespace Go.Proofs.YthbodgnoadlbcaaDoor.Asl
open Go.RowKit
set_option linter.unusedVariables false
set_option linter.unusedSimpArgs false
attribute [local irreducible] WP WL andThen inBlock noGoto atEnd ACall DA DL PO Hold
set_option maxHeartbeats 4000000
theorem may_newB (i : Nat) (σ : Store) {σa : Store} {j : Nat} [n : New σa j] [l : LeB i σ σa] : σ.length ≤ j := Nat.le_trans l.len n.le
/-- A term that is drawn. -/
def gdT (t : Tm) : Prop := -100 ≤ t.n ∧ t.n ≤ 100 ∧ t.ps.length ≤ 2
def QT (σ : Store) : AV → Store → Prop := fun r σ' => ∃ (t : Tm) (u : AV), r = .agg [I t.op, I t.n, u] ∧ RTsD σ σ' u t.ps ∧ gdT t
def KG : Nat → Int | 0 => 6 | d + 1 => 6 + 2 * KG d
end Go.Proofs.YthbodgnoadlbcaaDoor.Asl

/- The reader: definitions. -/
namespace Go.Proofs.YthbodgnoadlbcaaDoor.Asl
open Go.RowKit
set_option linter.unusedVariables false
set_option linter.unusedSimpArgs false
attribute [local irreducible] WP WL andThen inBlock noGoto atEnd ACall DA DL PO Hold
set_option maxHeartbeats 4000000
theorem RepD.sl {σ : Store} {F : Nat → Prop} {s : AV} {xs : List Tm} (h : RepD σ F s xs) (hne : xs ≠ []) : ∃ id, s = .sl id 0 xs.length := by
  cases h with
  | nil => exact absurd rfl hne
  | row => exact ⟨_, rfl⟩
theorem RepD.cells {σ : Store} {F : Nat → Prop} {id n : Nat} {xs : List Tm} (h : RepD σ F (.sl id 0 n) xs) : ∃ l, Has σ id ⟨.own, 3, l, []⟩ ∧ l.length = xs.length * 3 ∧ F id := by
  cases h with
  | row ss Fs h1 h2 h3 => exact ⟨_, h2, h3, h1⟩
section
variable {base : Nat}
/-- A list of terms that is drawn. -/
def QTs (σ : Store) (n : Nat) : AV → Store → Prop := fun r σ' => ∃ xs : List Tm, xs.length ≤ n ∧ RTsD σ σ' r xs
end
end Go.Proofs.YthbodgnoadlbcaaDoor.Asl

/- The reader: a term that may not fit. -/
namespace Go.Proofs.YthbodgnoadlbcaaDoor.Asl
open Go.RowKit
set_option linter.unusedVariables false
set_option linter.unusedSimpArgs false
attribute [local irreducible] WP WL andThen inBlock noGoto atEnd ACall DA DL PO Hold
set_option maxHeartbeats 4000000
theorem RepD.cons {σ σ' : Store} {G : Nat → Prop} {j id : Nat} {l : List AV} {ps : List Tm} {op n : Int} (h : RepD σ G (.sl id 0 ps.length) ps) (hl : Has σ id ⟨.own, 3, l, []⟩) (hk : ∀ (x : Nat) (o : Ob), G x → σ[x]? = some o → σ'[x]? = some o) (hid : ∀ x, G x → x ≠ j) (hj : Has σ' j ⟨.own, 3, [I op, I n, nilS] ++ l, []⟩) (hb : ps.length < 4294967296) :
    RepD σ' (fun x => G x ∨ x = j) (.sl j 0 (Tm.node op n [] :: ps).length) (.node op n [] :: ps) := by
  generalize hv : AV.sl id 0 ps.length = v at h
  cases h with
  | nil => cases hv
  | @row _ id0 l0 _ ss Fs h1 h2 h3 h4 h5 h6 h7 h8 h9 =>
    cases hv
    have el : l0 = l := by
      have := h2.get.symm.trans hl.get
      simpa using this
    subst el
    refine RepD.row (nilS :: ss) (fun k x => if k = 0 then False else Fs (k - 1) x) (.inr rfl) hj (by simp; omega) (by simp; omega) (by simp [h5]) ?_ ?_ ?_ ?_
    · intro k hk' x hx
      cases k with
      | zero => simp at hx
      | succ k => have := h6 k (by simpa using hk') x (by simpa using hx); exact ⟨.inl this.1, hid x this.1⟩
    · intro k k' x hk' hk2 hx hx'
      cases k with
      | zero => simp at hx
      | succ k =>
        cases k' with
        | zero => simp at hx'
        | succ k' => have := h7 k k' x (by simpa using hk') (by simpa using hk2) (by simpa using hx) (by simpa using hx'); omega
    · intro k t' s' ht hs
      cases k with
      | zero => simp at ht hs; subst ht hs; simp [cutL, Tm.op, Tm.n]
      | succ k =>
        have := h8 k t' s' (by simpa using ht) (by simpa using hs)
        rw [← this]
        simp only [cutL, Nat.add_mul, Nat.one_mul]
        rw [show k * 3 + 3 = [I op, I n, nilS].length + k * 3 by simp; omega, List.drop_append, List.drop_eq_nil_of_le (by omega)]
        simp
    · intro k t' s' ht hs
      cases k with
      | zero => simp at ht hs; subst ht hs; exact .nil
      | succ k =>
        have ht' : ps[k]? = some t' := by simpa using ht
        have := h9 k t' s' ht' (by simpa using hs)
        exact this.mono (fun x o hx ho => hk x o (h6 k (get_lt ht') x (by simpa using hx)).1 ho) (fun x hx => by simpa using hx)
section
variable {base : Nat}
def QU (σ : Store) : AV → Store → Prop := fun r σ' => ∃ (t : Tm) (u : AV), r = .agg [I t.op, I t.n, u] ∧ RTsD σ σ' u t.ps
end
end Go.Proofs.YthbodgnoadlbcaaDoor.Asl

/- The reader: a term with definitions. -/
namespace Go.Proofs.YthbodgnoadlbcaaDoor.Asl
open Go.RowKit
set_option linter.unusedVariables false
set_option linter.unusedSimpArgs false
attribute [local irreducible] WP WL andThen inBlock noGoto atEnd ACall DA DL PO Hold
set_option maxHeartbeats 4000000
section
variable {base : Nat}
/-- A term and definitions that are drawn. -/
def QC (σ : Store) : AV → Store → Prop := fun r σ' => ∃ (t : Tm) (u v : AV) (xs : List Tm), r = .tup [.agg [I t.op, I t.n, u], v] ∧ RTsD σ σ' u t.ps ∧ RTsD σ σ' v xs ∧ xs.length ≤ 3
end
end Go.Proofs.YthbodgnoadlbcaaDoor.Asl
