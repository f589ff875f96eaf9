/- Several texts in one. -/
import Derived.Test.YthbodgnoadlbcaaDoorTU
import Derived.Test.YthbodgnoadlbcaaDoorGG
import Derived.Test.YthbodgnoadlbcaaDoorB6
/- A list of terms that grows by append, each object reached once. -/
namespace Go.Proofs.YthbodgnoadlbcaaDoor.Asl
open Go.RowKit
set_option linter.unusedVariables false
set_option linter.unusedSimpArgs false
attribute [local irreducible] WP WL andThen inBlock noGoto atEnd ACall DA DL PO Hold actB inB nodeOk
set_option maxHeartbeats 4000000
section
variable {E : Env} {ops : Array Oper} {l : List Oper} {Q : Exit → Slots → Store → Prop} {S : Slots} {σ σ₀ : Store} {d : Option Tmp} {ty : TypeId} {pos : String} {af : Array Edge} {x y : Operand}
theorem wc_appendTm (m : Nat) {t e : TypeId} {s u : AV} {xs : List Tm} {tm : Tm} {j : Nat} {agg : Bool} {bytes : Nat} {z : Value} (hx : S.ev x = some s) (hy : S.ev y = some (.sl j 0 1)) (ht : Un E.P t (.slice e)) (he : Ty E.P e agg 3 bytes z) (hz : z.cells.size = 3) (hb0 : 0 < bytes) (hb : bytes ≤ 4096)
    (h : RepD σ (fun i => σ₀.length ≤ i ∧ i < m) s xs) (hn : xs = [] → s = nilS) (hu : RepD σ (fun i => m ≤ i) u tm.ps) (hm0 : σ₀.length ≤ m) (h0 : σ₀.length ≤ σ.length) (hj : Has σ j ⟨.own, 3, [I tm.op, I tm.n, u], []⟩) (hone : One u) (hlen : xs.length < 4294967296) (hmay : ∀ id, σ₀.length ≤ id → E.may id) (hd : okd E d = true)
    (k : ∀ s' σ', App σ₀ σ s s' σ' → Mk σ σ₀ σ σ' → RepD σ' (fun i => σ₀.length ≤ i) s' (xs ++ [tm]) → One s' → WL E ops l Q (S.put d s') σ') :
    WL E ops (⟨d, .call ⟨.builtin .append, #[x, y], #[t, t]⟩, ty, pos, af, none⟩ :: l) Q S σ := by
  have hap : Appends E.P σ 3 1 (.sl j 0 1) [I tm.op, I tm.n, u] := Appends.row hj.get (.inr rfl) rfl rfl (by simpa [AV.one] using hone.eq)
  have hlim : ∀ n, n ≤ 4294967296 → n * bytes ≤ 140737488355328 := fun n hn => by
    have := Nat.mul_le_mul hn hb
    omega
  have hul := hu.lt
  generalize hs : s = s0 at h
  cases h with
  | nil =>
    have := hn rfl
    subst this
    refine wc_append_nil hx hy ht.eq he hz hb0 hap (by decide) (hlim _ (by simp)) hd fun i σ' hg hnw hh => ?_
    have hr : RepD σ' (fun i => σ₀.length ≤ i) (.sl i 0 ([tm] : List Tm).length) [tm] := by
      refine (RepD.single (id' := i) hul (fun q o _ ho => hg.keep q o ho) (fun q hq => by have := hnw.le; omega) hh).mono (fun _ _ _ h => h) fun q hq => ?_
      rcases hq with hq | rfl
      · omega
      · exact Nat.le_trans h0 hnw.le
    have ha : App σ₀ σ nilS (.sl i 0 1) σ' := ⟨fun q o _ ho => hg.keep q o ho, hg.len, .inr ⟨_, _, rfl, hnw.le⟩⟩
    exact k _ σ' ha ha.turned hr ⟨rfl⟩
  | @row _ id l0 _ ss Fs h1 h2 h3 h4 h5 h6 h7 h8 h9 =>
    subst hs
    have hrow : RepD σ (fun i => σ₀.length ≤ i ∧ i < m) (.sl id 0 xs.length) xs := .row ss Fs h1 h2 h3 h4 h5 h6 h7 h8 h9
    have hrl := hrow.lt
    refine wc_append hx hy ht.eq he hz hb0 h2 rfl h3 hap (hmay _ h1.1) (hlim _ (by omega)) hd fun i σ₁ σ' hu1 hg hnw hh => ?_
    have hkeep : ∀ (q : Nat) (o : Ob), q ≠ id → σ[q]? = some o → σ'[q]? = some o := fun q o hq ho => hg.keep q o (by rw [hu1.eq, List.getElem?_set_ne (Ne.symm hq)]; exact ho)
    have hr := RepD.snoc hrl h2 hul (fun q ha hb => by omega) (fun q o _ hq ho => hkeep q o hq ho) (fun q hq => by
      have := hnw.le
      rcases hq with hq | hq
      · have := hq.2; omega
      · have := hq.2; omega) hh hlen
    have hl2 : (xs ++ [tm]).length = xs.length + 1 := by simp
    rw [hl2] at hr
    have ha : App σ₀ σ (.sl id 0 xs.length) (.sl i 0 (xs.length + 1)) σ' := by
      refine ⟨fun q o hq ho => hkeep q o ?_ ho, ?_, .inr ⟨_, _, rfl, hnw.le⟩⟩
      · rcases hq with hq | hq
        · have := h1.1; omega
        · intro e; subst e; exact hq _ rfl
      · have := Upd.len hu1
        have := hg.len
        omega
    refine k _ σ' ha ha.turned (hr.mono (fun _ _ _ h => h) fun q hq => ?_) ⟨rfl⟩
    rcases hq with hq | hq | rfl
    · exact hq.1.1
    · have := hq.1; omega
    · exact Nat.le_trans h0 hnw.le
/-- A row of one term. -/
theorem wc_oneTm {t e : TypeId} {bytes : Nat} {z : Value} {a b : Int} {u : AV} (hx : S.ev x = some (.agg [I a, I b, u])) [hu : One u] (ht : Un E.P t (.slice e)) (he : Ty E.P e true 3 bytes z) (hz : z.cells.size = 3) (hz1 : ∀ v ∈ z.cells.toList, v.oneCell' = true) (hd : okd E d = true)
    (k : ∀ i σ', Grow σ σ' → New σ i → Has σ' i ⟨.own, 3, [I a, I b, u], []⟩ → WL E ops l Q (S.put d (.sl i 0 1)) σ') : WL E ops (⟨d, .buildSlice t 1 #[(0, x)], ty, pos, af, none⟩ :: l) Q S σ := by
  refine wc_buildSlice (rs := [(0, .agg [I a, I b, u])]) (cs := [I a, I b, u]) ht.eq he hz hz1 (by decide) (by simp [evParts, hx]) ?_ ?_ hd k
  · intro r hr
    simp only [List.mem_cons, List.not_mem_nil, or_false] at hr
    subst hr
    exact ⟨rfl, by simp, by simpa [AV.cells, AV.one] using hu.eq⟩
  · simp only [fillA, AV.cells]
    unfold splice
    simp
end
theorem rtsD_ge {σa σ : Store} {u : AV} {ps : List Tm} {m : Nat} (h : RTsD σa σ u ps) (hm : m ≤ σa.length) : RepD σ (fun i => m ≤ i) u ps :=
  h.rep.mono (fun _ _ _ h => h) (fun i hi => Nat.le_trans hm hi)
theorem RepD.at {σ₀ σ σ' : Store} {s : AV} {xs : List Tm} (h : RepD σ (fun i => σ₀.length ≤ i) s xs) (g : LeS σ σ') : RepD σ' (fun i => σ₀.length ≤ i ∧ i < σ.length) s xs :=
  h.lt.mono (fun i o _ ho => g.keep i o ho) (fun _ h => h)
end Go.Proofs.YthbodgnoadlbcaaDoor.Asl

/- The reader of a law's bytes: rules. -/
namespace Go.Proofs.YthbodgnoadlbcaaDoor.Asl
open Go.RowKit
set_option linter.unusedVariables false
set_option linter.unusedSimpArgs false
instance encU8 : Enc UInt8 := ⟨1, fun b => [.lit (.int .u8 (b.toNat : Int))], 0, by decide, fun _ => rfl⟩

section
variable {E : Env} {ops : Array Oper} {l : List Oper} {Q : Exit → Slots → Store → Prop} {S : Slots} {σ σ₀ : Store} {d : Option Tmp} {ty : TypeId} {pos : String} {af : Array Edge} {gg : Option (Nat × Bool)} {x y : Operand} {t : TypeId} {bytes : Nat} {z : Value} {s : AV} {k i : Nat} {n0 : Nat}
theorem pc_ldU8 {l : List UInt8} (hx : S.ev x = some (.pt s.id (s.off + k * 1))) (ht : Ty E.P t false 1 bytes z) (h : RW σ₀ s l) (hk : k < l.length) (hl : LeS σ₀ σ) : PO E S σ σ₀.length ⟨d, .load t x, ty, pos, af, gg⟩ (.lit (.int .u8 ((l.getD k 0).toNat : Int))) :=
  pc_load1L hx ht (at_row h hk) hl
theorem pc_convU8 {s t : TypeId} {n : Nat} (hx : S.ev x = some (.lit (.int .u8 (n : Int)))) (hs : Un E.P s (.int .u8)) (ht : Un E.P t (.int .i64)) (hn : n < 4294967296) : PO E S σ n0 ⟨d, .convert s t x, ty, pos, af, gg⟩ (I (n : Int)) := by
  have := po_convInt (E := E) (σ := σ) (n0 := n0) (d := d) (ty := ty) (pos := pos) (af := af) (g := gg) hx hs.eq ht.eq
  rwa [wrap64 (by omega) (by omega)] at this
theorem pc_remN {xt yt : TypeId} {a b : Int} (hx : S.ev x = some (I a)) (hy : S.ev y = some (I b)) (ha : 0 ≤ a) (hb : 0 < b) : PO E S σ n0 ⟨d, .binOp .rem xt x y yt, ty, pos, af, gg⟩ (I (a % b)) := by
  have := po_rem (E := E) (σ := σ) (n0 := n0) (d := d) (ty := ty) (pos := pos) (af := af) (g := gg) (xt := xt) (yt := yt) hx hy (by omega)
  rwa [Int.tmod_eq_emod_of_nonneg ha] at this
theorem pc_quoN {xt yt : TypeId} {a b : Int} (hx : S.ev x = some (I a)) (hy : S.ev y = some (I b)) (ha : 0 ≤ a) (ha2 : a ≤ 9223372036854775807) (hb : 0 < b) : PO E S σ n0 ⟨d, .binOp .quo xt x y yt, ty, pos, af, gg⟩ (I (a / b)) := by
  have := po_quo (E := E) (σ := σ) (n0 := n0) (d := d) (ty := ty) (pos := pos) (af := af) (g := gg) (xt := xt) (yt := yt) hx hy (by omega)
  have h0 := Int.ediv_nonneg ha (Int.le_of_lt hb)
  have h1 := Int.ediv_le_self b ha
  rwa [Int.tdiv_eq_ediv_of_nonneg ha, wrap64 (by omega) (by omega)] at this
theorem xor_lt {a b : Int} (ha : 0 ≤ a) (ha2 : a < 1099511627776) (hb : 0 ≤ b) (hb2 : b < 1099511627776) : bits .xor .i64 a b = ((a.toNat ^^^ b.toNat : Nat) : Int) ∧ ((a.toNat ^^^ b.toNat : Nat) : Int) < 1099511627776 := by
  have h1 : a.toNat ^^^ b.toNat < 2 ^ 40 := Nat.xor_lt_two_pow (by omega) (by omega)
  have e : ∀ c : Int, 0 ≤ c → c < 1099511627776 → (BitVec.ofInt IntKind.i64.bits c).toNat = c.toNat := fun c h0 h1 => by
    rw [BitVec.toNat_ofInt]
    have : ((2 ^ IntKind.i64.bits : Nat) : Int) = 18446744073709551616 := by decide
    rw [this, Int.emod_eq_of_lt h0 (by omega)]
  refine ⟨?_, by omega⟩
  unfold bits
  simp only [BitVec.toNat_xor, e a ha ha2, e b hb hb2]
  exact wrap64 (by omega) (by omega)
theorem pc_xorN {xt yt : TypeId} {a b : Int} (hx : S.ev x = some (I a)) (hy : S.ev y = some (I b)) (ha : 0 ≤ a) (ha2 : a < 1099511627776) (hb : 0 ≤ b) (hb2 : b < 1099511627776) : PO E S σ n0 ⟨d, .binOp .xor xt x y yt, ty, pos, af, gg⟩ (I ((a.toNat ^^^ b.toNat : Nat) : Int)) := by
  have := po_binOp (E := E) (σ := σ) (n0 := n0) (d := d) (ty := ty) (pos := pos) (af := af) (g := gg) (op := .xor) (xt := xt) (yt := yt) (z := .int .i64 (bits .xor .i64 a b)) hx hy rfl
  rwa [(xor_lt ha ha2 hb hb2).1] at this
end
/-- All objects but one are kept. -/
class LeB (i : Nat) (σ₀ σ : Store) : Prop where
  keep : LeX i σ₀ σ
  len : σ₀.length ≤ σ.length
instance instLeBRefl {i : Nat} {σ : Store} : LeB i σ σ := ⟨LeX.refl i σ, Nat.le_refl _⟩
instance instLeBGrow {i : Nat} {σ₀ σ σ' : Store} [g : Grow σ σ'] [h : LeB i σ₀ σ] : LeB i σ₀ σ' := ⟨h.keep.grow g, Nat.le_trans h.len g.len⟩
instance instLeBUpd {i : Nat} {σ₀ σ σ' : Store} {o : Ob} [g : Upd σ i o σ'] [h : LeB i σ₀ σ] : LeB i σ₀ σ' := ⟨h.keep.upd g, by have := g.len; have := h.len; omega⟩
instance instLeBUpdNew {i j : Nat} {σ₀ σa σ σ' : Store} {o : Ob} [g : Upd σ j o σ'] [n : New σa j] [k : LeB i σ₀ σa] [h : LeB i σ₀ σ] : LeB i σ₀ σ' :=
  ⟨h.keep.updNew g (Nat.le_trans k.len n.le), by have := g.len; have := h.len; omega⟩
/-- A row of bytes that is not the object. -/
class Bk (σ : Store) (i : Nat) (s : AV) (g : outParam (List UInt8)) : Prop where
  rw : RW σ s g
  ne : (∃ off n, s = .sl s.id off n) → s.id ≠ i
theorem Bk.le {σ₀ σ : Store} {i : Nat} {s : AV} {g : List UInt8} (h : Bk σ₀ i s g) (l : LeB i σ₀ σ) : Bk σ i s g :=
  ⟨h.rw.mono fun o hs ho => l.keep.keep _ o (h.ne hs) ho, h.ne⟩
/-- The reader's object. -/
abbrev RdO (s : AV) (p : Int) : Ob := ⟨.own, 1, [s, I p], []⟩
def RetRd (σ : Store) (i : Nat) (s : AV) (p K : Int) (Qr : AV → Store → Prop) : AV → Store → Prop := fun r σ' => (∃ p', p ≤ p' ∧ p' ≤ p + K ∧ Has σ' i (RdO s p')) ∧ LeB i σ σ' ∧ Qr r σ'
def QP (lo hi : Int) : AV → Store → Prop := fun r _ => ∃ v, r = I v ∧ lo ≤ v ∧ (v ≤ hi ∨ v = 0)
section
variable {E : Env} {ops : Array Oper} {l : List Oper} {Q : Exit → Slots → Store → Prop} {S : Slots} {σ : Store} {d : Option Tmp} {ty : TypeId} {pos : String} {af : Array Edge} {x y : Operand}
theorem wc_callRd {args : Array Operand} {ats : Array TypeId} {f : FuncId} {rs caps : List AV} {i : Nat} {s : AV} {p K : Int} {Qr : AV → Store → Prop} (hf : S.ev x = some (.fn f caps)) (hc : Callable E.P f) (hargs : evs S args.toList = some rs)
    (h : ACall E.P E.base f (rs ++ caps) σ (fun j => j = i) (RetRd σ i s p K Qr)) (ho : Has σ i (RdO s p)) (hm : E.may i) (hd : okd E d = true) (k : ∀ r p' σ₁ σ', p ≤ p' → p' ≤ p + K → Grow σ σ₁ → Upd σ₁ i (RdO s p') σ' → Qr r σ' → WL E ops l Q (S.put d r) σ') :
    WL E ops (⟨d, .call ⟨.value x, args, ats⟩, ty, pos, af, none⟩ :: l) Q S σ :=
  wl_call hf hc hargs h (fun j hj => by subst hj; exact ⟨hm, _, ho.get, .inl rfl⟩) hd fun r' σ' hK => by
    obtain ⟨⟨p', h1, h2, h3⟩, h4, h5⟩ := hK
    obtain ⟨σ₁, g1, u1⟩ := h4.keep.split ho h3
    exact k r' p' σ₁ σ' h1 h2 g1 u1 h5
theorem wc_callP {args : Array Operand} {ats : Array TypeId} {f : FuncId} {rs caps : List AV} {i : Nat} {s : AV} {p K lo hi : Int} (hf : S.ev x = some (.fn f caps)) (hc : Callable E.P f) (hargs : evs S args.toList = some rs)
    (h : ACall E.P E.base f (rs ++ caps) σ (fun j => j = i) (RetRd σ i s p K (QP lo hi))) (ho : Has σ i (RdO s p)) (hm : E.may i) (hd : okd E d = true) (k : ∀ (v p' : Int) σ₁ σ', p ≤ p' → p' ≤ p + K → lo ≤ v → (v ≤ hi ∨ v = 0) → Grow σ σ₁ → Upd σ₁ i (RdO s p') σ' → WL E ops l Q (S.put d (I v)) σ') :
    WL E ops (⟨d, .call ⟨.value x, args, ats⟩, ty, pos, af, none⟩ :: l) Q S σ :=
  wc_callRd hf hc hargs h ho hm hd fun r p' σ₁ σ' h1 h2 g u hq => by
    obtain ⟨v, rfl, h3, h4⟩ := hq
    exact k v p' σ₁ σ' h1 h2 h3 h4 g u
end
end Go.Proofs.YthbodgnoadlbcaaDoor.Asl

/- The reader: one pick. -/
namespace Go.Proofs.YthbodgnoadlbcaaDoor.Asl
open Go.RowKit
set_option linter.unusedVariables false
attribute [local irreducible] WP WL andThen inBlock noGoto atEnd ACall DA DL PO Hold
set_option maxHeartbeats 4000000
section
variable {base : Nat}
theorem c_pick (i : Nat) (s : AV) (g : List UInt8) (p n : Int) (σ : Store) [hi : Has σ i (RdO s p)] [hb : Bk σ i s g] (hp : 0 ≤ p) (hp2 : p ≤ 1000000000) : ACall Tryd.prog base F_spec_l6Rd_pick [.pt i 0, I n] σ (fun j => j = i) (RetRd σ i s p 1 (QP 0 (n - 1))) := by
  have hrw := hb.rw
  have := hrw.one
  refine acall2 fun_spec_l6Rd_pick rfl tmps_spec_l6Rd_pick rfl fun N B w₀ ρ₀ => ?_
  repeat' (first
    | (refine wc_store1 rfl rfl inferInstance inferInstance inferInstance (Nat.le_of_ble_eq_true rfl) (.inl rfl) ?_; intro _ _)
    | refine wl_pop rfl (pc_lenRow rfl (hb.le inferInstance).rw inferInstance) ?_
    | refine wc_holdR 4 ?_
    | refine wp_seqA ?_
    | refine wp_region_seq ?_
    | refine thru_seq_next ?_
    | refine thru_seq_ret ?_
    | refine wp_skipA ?_
    | refine wp_retA ?_
    | refine wl_nil ?_
    | refine wl_pop rfl (po_move rfl) ?_
    | refine wl_pop rfl (po_assign rfl) ?_
    | refine wl_pop rfl (pc_add rfl rfl (by omega) (by omega)) ?_
    | refine wl_pop rfl (po_binOp rfl rfl rfl) ?_
    | refine wl_pop rfl (po_fieldAddr rfl inferInstance) ?_
    | refine wc_load1 rfl inferInstance (at_has (.inl rfl) rfl rfl) rfl ?_
    | refine wl_pop rfl (po_nilCheck rfl) ?_
    | refine wl_pop rfl (po_pick rfl rfl) ?_
    | refine wc_guardT_false rfl rfl rfl ?_
    | refine wc_guardF_false rfl rfl rfl rfl ?_
    | refine wc_guardP_false rfl rfl rfl rfl (fun _ => ?_) (fun _ => ?_)
    | refine wp_condT rfl ?_
    | refine wp_condP rfl (fun _ => ?_) (fun _ => ?_)
    | refine at_ret (res1 rfl rfl) ?_
    | fail)
  · rename_i σ1 u1 hn hl
    exact ⟨⟨p + 1, by omega, by omega, (inferInstance : Has σ1 i ⟨.own, 1, splice [s, I p] (0 + 1) [I (p + 1)], []⟩)⟩, inferInstance, 0, rfl, by omega, .inr rfl⟩
  rotate_left
  · rename_i σ1 u1 hn
    exact ⟨⟨p + 1, by omega, by omega, (inferInstance : Has σ1 i ⟨.own, 1, splice [s, I p] (0 + 1) [I (p + 1)], []⟩)⟩, inferInstance, 0, rfl, by omega, .inr rfl⟩
  · rename_i σ1 u1 hn hl
    refine hold_go ?_
    have h1 : Has σ1 i (RdO s (p + 1)) := by
      have : Has σ1 i ⟨.own, 1, splice [s, I p] (0 + 1) [I (p + 1)], []⟩ := inferInstance
      exact this
    have hb1 := hb.le (inferInstance : LeB i σ σ1)
    have hrw1 := hb1.rw
    have hle1 : LeB i σ σ1 := inferInstance
    clear u1
    have hL : 0 < g.length := by omega
    have hL' : (0 : Int) < (g.length : Int) := by omega
    have a1 := Int.emod_nonneg p (show (g.length : Int) ≠ 0 by omega)
    have a2 := Int.emod_lt_of_pos p hL'
    have a3 := Int.emod_nonneg (p * 7 + 3) (show (g.length : Int) ≠ 0 by omega)
    have a4 := Int.emod_lt_of_pos (p * 7 + 3) hL'
    have a5 := Int.ediv_nonneg hp (Int.le_of_lt hL')
    have a6 := Int.ediv_le_self (g.length : Int) hp
    repeat' (first
      | refine wc_holdR 5 ?_
      | refine wp_seqA ?_
      | refine wp_region_seq ?_
      | refine thru_seq_next ?_
      | refine wl_nil ?_
      | refine wl_pop rfl (po_move rfl) ?_
      | refine wl_pop rfl (po_assign rfl) ?_
      | refine wl_pop rfl (pc_sub rfl rfl (by omega) (by omega)) ?_
      | refine wl_pop rfl (po_fieldAddr rfl inferInstance) ?_
      | refine wc_load1 rfl inferInstance (at_has (.inl rfl) rfl rfl) rfl ?_
      | refine wl_pop rfl (po_nilCheck rfl) ?_
      | fail)
    refine hold_go ?_
    rw [show p + 1 - 1 = p by omega]
    repeat' (first
      | refine wl_pop rfl (pc_lenRow rfl hrw1 inferInstance) ?_
      | refine wc_holdR 7 ?_
      | refine wl_pop rfl (pc_indexRowZ rfl rfl inferInstance inferInstance hrw1 (by omega) (by omega)) ?_
      | refine wl_pop rfl (pc_ldU8 rfl inferInstance hrw1 (by omega) instLeRefl) ?_
      | refine wl_pop rfl (pc_convU8 rfl inferInstance inferInstance (Nat.lt_trans (UInt8.toNat_lt _) (by decide))) ?_
      | refine wl_pop rfl (pc_remN rfl rfl (by omega) (by omega)) ?_
      | refine wp_seqA ?_
      | refine wp_region_seq ?_
      | refine thru_seq_next ?_
      | refine thru_seq_ret ?_
      | refine wp_skipA ?_
      | refine wp_retA ?_
      | refine wl_nil ?_
      | refine wl_pop rfl (po_move rfl) ?_
      | refine wl_pop rfl (po_assign rfl) ?_
      | refine wl_pop rfl (po_binOp rfl rfl rfl) ?_
      | refine wl_pop rfl (po_fieldAddr rfl inferInstance) ?_
      | refine wc_load1 rfl inferInstance (at_has (.inl rfl) rfl rfl) rfl ?_
      | refine wl_pop rfl (po_nilCheck rfl) ?_
      | refine wp_condP rfl (fun _ => ?_) (fun _ => ?_)
      | refine at_ret (res1 rfl rfl) ?_
      | fail)
    · exact ⟨⟨p + 1, by omega, by omega, h1⟩, hle1, _, rfl, Int.emod_nonneg _ (by omega), .inl (by have := Int.emod_lt_of_pos ((g.getD p.toNat 0).toNat : Int) (show 0 < n by omega); omega)⟩
    refine hold_go ?_
    have b1 := UInt8.toNat_lt (g.getD (p % (g.length : Int)).toNat 0)
    have b2 := UInt8.toNat_lt (g.getD ((p * 7 + 3) % (g.length : Int)).toNat 0)
    refine wc_drawn [] mixed_ rfl ?_
    all_goals refine da_takeC 0 rfl rfl (by kernel_rfl) (by first | exact po_move rfl | fail) ?_
    all_goals refine da_takeC 1 rfl rfl (by kernel_rfl) (by first | exact po_nilCheck rfl | fail) ?_
    all_goals refine da_takeC 2 rfl rfl (by kernel_rfl) (by first | exact po_fieldAddr rfl inferInstance | fail) ?_
    all_goals refine da_takeC 3 rfl rfl (by kernel_rfl) (by first | exact pc_load1L rfl inferInstance (at_has (.inl rfl) rfl rfl) inferInstance | fail) ?_
    all_goals refine da_takeC 4 rfl rfl (by kernel_rfl) (by first | exact po_move rfl | fail) ?_
    all_goals refine da_takeC 5 rfl rfl (by kernel_rfl) (by first | exact po_move rfl | fail) ?_
    all_goals refine da_takeC 6 rfl rfl (by kernel_rfl) (by first | exact po_nilCheck rfl | fail) ?_
    all_goals refine da_takeC 7 rfl rfl (by kernel_rfl) (by first | exact po_fieldAddr rfl inferInstance | fail) ?_
    all_goals refine da_takeC 8 rfl rfl (by kernel_rfl) (by first | exact pc_load1L rfl inferInstance (at_has (.inl rfl) rfl rfl) inferInstance | fail) ?_
    all_goals refine da_takeC 9 rfl rfl (by kernel_rfl) (by first | exact pc_lenRow rfl hrw1 inferInstance | fail) ?_
    all_goals refine da_takeC 10 rfl rfl (by kernel_rfl) (by first | exact pc_remN rfl rfl (by omega) (by omega) | fail) ?_
    all_goals refine da_takeC 11 rfl rfl (by kernel_rfl) (by first | exact pc_indexRowZ rfl rfl inferInstance inferInstance hrw1 (by omega) (by omega) | fail) ?_
    all_goals refine da_takeC 12 rfl rfl (by kernel_rfl) (by first | exact pc_ldU8 rfl inferInstance hrw1 (by omega) instLeRefl | fail) ?_
    all_goals refine da_takeC 13 rfl rfl (by kernel_rfl) (by first | exact pc_convU8 rfl inferInstance inferInstance (Nat.lt_trans (UInt8.toNat_lt _) (by decide)) | fail) ?_
    all_goals refine da_takeC 14 rfl rfl (by kernel_rfl) (by first | exact pc_mul rfl rfl (by omega) (by omega) | fail) ?_
    all_goals refine da_takeC 15 rfl rfl (by kernel_rfl) (by first | exact po_move rfl | fail) ?_
    all_goals refine da_takeC 16 rfl rfl (by kernel_rfl) (by first | exact po_nilCheck rfl | fail) ?_
    all_goals refine da_takeC 17 rfl rfl (by kernel_rfl) (by first | exact po_fieldAddr rfl inferInstance | fail) ?_
    all_goals refine da_takeC 18 rfl rfl (by kernel_rfl) (by first | exact pc_load1L rfl inferInstance (at_has (.inl rfl) rfl rfl) inferInstance | fail) ?_
    all_goals refine da_takeC 19 rfl rfl (by kernel_rfl) (by first | exact po_move rfl | fail) ?_
    all_goals refine da_takeC 20 rfl rfl (by kernel_rfl) (by first | exact pc_mul rfl rfl (by omega) (by omega) | fail) ?_
    all_goals refine da_takeC 21 rfl rfl (by kernel_rfl) (by first | exact pc_add rfl rfl (by omega) (by omega) | fail) ?_
    all_goals refine da_takeC 22 rfl rfl (by kernel_rfl) (by first | exact po_move rfl | fail) ?_
    all_goals refine da_takeC 23 rfl rfl (by kernel_rfl) (by first | exact po_nilCheck rfl | fail) ?_
    all_goals refine da_takeC 24 rfl rfl (by kernel_rfl) (by first | exact po_fieldAddr rfl inferInstance | fail) ?_
    all_goals refine da_takeC 25 rfl rfl (by kernel_rfl) (by first | exact pc_load1L rfl inferInstance (at_has (.inl rfl) rfl rfl) inferInstance | fail) ?_
    all_goals refine da_takeC 26 rfl rfl (by kernel_rfl) (by first | exact pc_lenRow rfl hrw1 inferInstance | fail) ?_
    all_goals refine da_takeC 27 rfl rfl (by kernel_rfl) (by first | exact pc_remN rfl rfl (by omega) (by omega) | fail) ?_
    all_goals refine da_takeC 28 rfl rfl (by kernel_rfl) (by first | exact pc_indexRowZ rfl rfl inferInstance inferInstance hrw1 (by omega) (by omega) | fail) ?_
    all_goals refine da_takeC 29 rfl rfl (by kernel_rfl) (by first | exact pc_ldU8 rfl inferInstance hrw1 (by omega) instLeRefl | fail) ?_
    all_goals refine da_takeC 30 rfl rfl (by kernel_rfl) (by first | exact pc_convU8 rfl inferInstance inferInstance (Nat.lt_trans (UInt8.toNat_lt _) (by decide)) | fail) ?_
    all_goals refine da_takeC 31 rfl rfl (by kernel_rfl) (by first | exact pc_mul rfl rfl (by omega) (by omega) | fail) ?_
    all_goals refine da_takeC 32 rfl rfl (by kernel_rfl) (by first | exact pc_add rfl rfl (by omega) (by omega) | fail) ?_
    all_goals refine da_takeC 33 rfl rfl (by kernel_rfl) (by first | exact po_move rfl | fail) ?_
    all_goals refine da_takeC 34 rfl rfl (by kernel_rfl) (by first | exact pc_mul rfl rfl (by omega) (by omega) | fail) ?_
    all_goals refine da_takeC 35 rfl rfl (by kernel_rfl) (by first | exact pc_add rfl rfl (by omega) (by omega) | fail) ?_
    all_goals refine da_takeC 36 rfl rfl (by kernel_rfl) (by first | exact po_move rfl | fail) ?_
    all_goals refine da_takeC 37 rfl rfl (by kernel_rfl) (by first | exact po_move rfl | fail) ?_
    all_goals refine da_takeC 38 rfl rfl (by kernel_rfl) (by first | exact po_nilCheck rfl | fail) ?_
    all_goals refine da_takeC 39 rfl rfl (by kernel_rfl) (by first | exact po_fieldAddr rfl inferInstance | fail) ?_
    all_goals refine da_takeC 40 rfl rfl (by kernel_rfl) (by first | exact pc_load1L rfl inferInstance (at_has (.inl rfl) rfl rfl) inferInstance | fail) ?_
    all_goals refine da_takeC 41 rfl rfl (by kernel_rfl) (by first | exact pc_lenRow rfl hrw1 inferInstance | fail) ?_
    all_goals refine da_takeC 42 rfl rfl (by kernel_rfl) (by first | exact pc_quoN rfl rfl (by omega) (by omega) (by omega) | fail) ?_
    all_goals refine da_takeC 43 rfl rfl (by kernel_rfl) (by first | exact pc_mul rfl rfl (by omega) (by omega) | fail) ?_
    all_goals refine da_takeC 44 rfl rfl (by kernel_rfl) (by first | exact pc_add rfl rfl (by omega) (by omega) | fail) ?_
    all_goals refine da_takeC 45 rfl rfl (by kernel_rfl) (by first | exact po_assign rfl | fail) ?_
    all_goals refine da_done (by kernel_rfl) ?_
    generalize hV1 : ((g.getD (p % (g.length : Int)).toNat 0).toNat : Int) = V1 at *
    generalize hV2 : ((g.getD ((p * 7 + 3) % (g.length : Int)).toNat 0).toNat : Int) = V2 at *
    have c1 : 0 ≤ V1 ∧ V1 < 256 := by omega
    have c2 : 0 ≤ V2 ∧ V2 < 256 := by omega
    repeat' (first
      | refine wl_pop rfl (pc_quoN rfl rfl (by omega) (by omega) (by omega)) ?_
      | refine wl_pop rfl (pc_xorN rfl rfl (by omega) (by omega) (by omega) (by omega)) ?_
      | refine wl_pop rfl (pc_remN rfl rfl (by omega) (by omega)) ?_
      | refine wp_seqA ?_
      | refine wp_region_seq ?_
      | refine thru_seq_next ?_
      | refine wp_retA ?_
      | refine wl_nil ?_
      | refine wl_pop rfl (po_move rfl) ?_
      | refine wl_pop rfl (po_assign rfl) ?_
      | refine at_ret (res1 rfl rfl) ?_
      | fail)
    exact ⟨⟨p + 1, by omega, by omega, h1⟩, hle1, _, rfl, Int.emod_nonneg _ (by omega), .inl (by
      have hn0 : 0 < n := by omega
      have := Int.emod_lt_of_pos ((((V1 * 131 + V2 * 1117 + p * 29 + p / (g.length : Int) * 53).toNat ^^^ ((V1 * 131 + V2 * 1117 + p * 29 + p / (g.length : Int) * 53) / 64).toNat : Nat) : Int)) hn0
      omega)⟩
end
end Go.Proofs.YthbodgnoadlbcaaDoor.Asl

/- The reader: opened; an act. -/
namespace Go.Proofs.YthbodgnoadlbcaaDoor.Asl
open Go.RowKit
set_option linter.unusedVariables false
attribute [local irreducible] WP WL andThen inBlock noGoto atEnd ACall DA DL PO Hold
set_option maxHeartbeats 4000000
/-- A reader that is new. -/
def RetOpen (σ : Store) : AV → Store → Prop := fun r σ' => ∃ i s, r = .pt i 0 ∧ New σ i ∧ Has σ' i (RdO s 0) ∧ (∃ g, Bk σ' i s g) ∧ Grow σ σ'
theorem Bk.new {σ₀ σ : Store} {i : Nat} {s : AV} {g : List UInt8} (h : RW σ₀ s g) (n : New σ₀ i) (h' : RW σ s g) : Bk σ i s g := ⟨h', fun ⟨off, m, e⟩ => by
  rcases h.2 with ⟨_, a, c, e2⟩ | ⟨_, _, o, e2, ho, _⟩
  · rw [e2] at e; cases e
  · have := Has.lt (σ := σ₀) ⟨ho⟩
    have := n.le
    rw [e2]
    simp only [AV.id]
    omega⟩
theorem one_cells {v : AV} (h : v.one = true) : v.cells = [v] := by
  cases v with
  | lit v => cases v <;> simp_all [AV.one, AV.cells]
  | agg l => simp [AV.one] at h
  | tup l => simp [AV.one] at h
  | _ => rfl
section
variable {E : Env} {ops : Array Oper} {l : List Oper} {Q : Exit → Slots → Store → Prop} {S : Slots} {σ σ₀ : Store} {d : Option Tmp} {ty : TypeId} {pos : String} {af : Array Edge} {g : Option (Nat × Bool)} {n0 : Nat} {x0 x1 x2 : Operand} {t e : TypeId}
theorem pc_buildRd {bytes : Nat} {z : Value} {s : AV} [h1 : One s] (hx : S.ev x0 = some s) (hst : StructAt E.P t [(0, 1), (1, 1)]) (ht : Ty E.P t true 2 bytes z) (hz : z.cells.toList = [.slice none 0 0, .int .i64 0]) :
    PO E S σ n0 ⟨d, .build t #[(0, x0)], ty, pos, af, g⟩ (.agg [s, I 0]) := by
  have hzs : z.cells.size = 2 := by rw [← Array.length_toList, hz]; rfl
  have hc := one_cells h1.eq
  refine po_build (rs := [(0, s)]) hst ht (by simp [evParts, hx]) ?_ ?_
  · intro r hr
    simp only [List.mem_cons, List.not_mem_nil, or_false] at hr
    subst hr
    exact ⟨0, 1, rfl, by simp [hc], by omega⟩
  · rw [hz]; simp only [fillA, hc]; rfl
theorem pc_tm2 {bytes : Nat} {z : Value} {a b : Int} (hx : S.ev x0 = some (I a)) (hy : S.ev x1 = some (I b)) (hst : StructAt E.P t [(0, 1), (1, 1), (2, 1)]) (ht : Ty E.P t true 3 bytes z) (hz : z.cells.toList = [.int .i64 0, .int .i64 0, .slice none 0 0]) :
    PO E S σ n0 ⟨d, .build t #[(0, x0), (1, x1)], ty, pos, af, g⟩ (.agg [I a, I b, nilS]) := by
  have hzs : z.cells.size = 3 := by rw [← Array.length_toList, hz]; rfl
  refine po_build (rs := [(0, I a), (1, I b)]) hst ht (by simp [evParts, hx, hy]) ?_ ?_
  · intro r hr
    simp only [List.mem_cons, List.not_mem_nil, or_false] at hr
    rcases hr with rfl | rfl
    · exact ⟨0, 1, rfl, rfl, by omega⟩
    · exact ⟨1, 1, rfl, rfl, by omega⟩
  · rw [hz]; rfl
theorem pc_tm3 {bytes : Nat} {z : Value} {a b : Int} {s : AV} [h1 : One s] (hx : S.ev x0 = some (I a)) (hy : S.ev x1 = some (I b)) (hs : S.ev x2 = some s) (hst : StructAt E.P t [(0, 1), (1, 1), (2, 1)]) (ht : Ty E.P t true 3 bytes z) (hz : z.cells.toList = [.int .i64 0, .int .i64 0, .slice none 0 0]) :
    PO E S σ n0 ⟨d, .build t #[(0, x0), (1, x1), (2, x2)], ty, pos, af, g⟩ (.agg [I a, I b, s]) := by
  have hzs : z.cells.size = 3 := by rw [← Array.length_toList, hz]; rfl
  have hc := one_cells h1.eq
  refine po_build (rs := [(0, I a), (1, I b), (2, s)]) hst ht (by simp [evParts, hx, hy, hs]) ?_ ?_
  · intro r hr
    simp only [List.mem_cons, List.not_mem_nil, or_false] at hr
    rcases hr with rfl | rfl | rfl
    · exact ⟨0, 1, rfl, rfl, by omega⟩
    · exact ⟨1, 1, rfl, rfl, by omega⟩
    · exact ⟨2, 1, rfl, by simp [hc], by omega⟩
  · rw [hz]; simp only [fillA, hc]; rfl
theorem pc_tm02 {bytes : Nat} {z : Value} {a : Int} {s : AV} [h1 : One s] (hx : S.ev x0 = some (I a)) (hs : S.ev x2 = some s) (hst : StructAt E.P t [(0, 1), (1, 1), (2, 1)]) (ht : Ty E.P t true 3 bytes z) (hz : z.cells.toList = [.int .i64 0, .int .i64 0, .slice none 0 0]) :
    PO E S σ n0 ⟨d, .build t #[(0, x0), (2, x2)], ty, pos, af, g⟩ (.agg [I a, I 0, s]) := by
  have hzs : z.cells.size = 3 := by rw [← Array.length_toList, hz]; rfl
  have hc := one_cells h1.eq
  refine po_build (rs := [(0, I a), (2, s)]) hst ht (by simp [evParts, hx, hs]) ?_ ?_
  · intro r hr
    simp only [List.mem_cons, List.not_mem_nil, or_false] at hr
    rcases hr with rfl | rfl
    · exact ⟨0, 1, rfl, rfl, by omega⟩
    · exact ⟨2, 1, rfl, by simp [hc], by omega⟩
  · rw [hz]; simp only [fillA, hc]; rfl
end
theorem rw_take {σ : Store} {s : AV} {g : List UInt8} {n : Nat} (h : RW σ s g) (hn : n ≤ g.length) (hn0 : 0 < n) : RW σ (.sl s.id s.off n) (g.take n) := by
  obtain ⟨o, h1, h2, h3, h4, h5⟩ := h.inner (by omega)
  have hl : (g.take n).length = n := by rw [List.length_take]; omega
  refine ⟨by have := h.bound; omega, .inr ⟨_, _, o, by rw [hl], h2, h3, h4, fun k x hx => ?_⟩⟩
  rw [List.getElem?_take] at hx
  split at hx
  · exact h5 k x hx
  · cases hx
section
variable {base : Nat}
theorem c_l91Do (i : Nat) (s : AV) (g : List UInt8) (p : Int) (σ : Store) [hi : Has σ i (RdO s p)] [hb : Bk σ i s g] (hp : 0 ≤ p) (hp2 : p ≤ 999999000) : ACall Tryd.prog base F_spec_l91Do [.pt i 0] σ (fun j => j = i) (RetRd σ i s p 2 (QP (-4) 4)) := by
  have := hb.rw.one
  refine acall1 fun_spec_l91Do rfl tmps_spec_l91Do rfl fun N B w₀ ρ₀ => ?_
  repeat' (first
    | (refine wc_callP rfl inferInstance rfl (c_pick i s g _ _ _ (hb := hb.le inferInstance) (by omega) (by omega)) inferInstance (.inl rfl) rfl ?_; intro _ _ _ _ _ _ _ _ _ _)
    | refine wp_seqA ?_
    | refine wp_region_seq ?_
    | refine thru_seq_next ?_
    | refine thru_seq_ret ?_
    | refine wp_skipA ?_
    | refine wp_retA ?_
    | refine wl_nil ?_
    | refine wl_pop rfl (po_move rfl) ?_
    | refine wl_pop rfl (po_assign rfl) ?_
    | refine wl_pop rfl (pc_sub rfl rfl (by omega) (by omega)) ?_
    | refine wl_pop rfl (po_binOp rfl rfl rfl) ?_
    | refine wp_condP rfl (fun _ => ?_) (fun _ => ?_)
    | refine at_ret (res1 rfl rfl) ?_
    | fail)
  all_goals
    rename_i v1 p1 σa σb k1 k2 k3 k4 ga ua hx v2 p2 σc σd q1 q2 q3 q4 gc uc
    exact ⟨⟨p2, by omega, by omega, inferInstance⟩, inferInstance, _, rfl, by omega, by omega⟩
theorem c_l6Open (s : AV) (g : List UInt8) (σ : Store) [hs : RW σ s g] (hg : g.length ≤ 1048576) : ACall Tryd.prog base F_spec_l6Open [s] σ (fun _ => False) (RetOpen σ) := by
  have := hs.one
  refine acall1 fun_spec_l6Open rfl tmps_spec_l6Open rfl fun N B w₀ ρ₀ => ?_
  repeat' (first
    | refine wl_pop rfl (pc_lenRow rfl hs inferInstance) ?_
    | refine wp_seqA ?_
    | refine wp_region_seq ?_
    | refine thru_seq_next ?_
    | refine wp_skipA ?_
    | refine wl_nil ?_
    | refine wl_pop rfl (po_move rfl) ?_
    | refine wl_pop rfl (po_assign rfl) ?_
    | refine wl_pop rfl (po_binOp rfl rfl rfl) ?_
    | refine wp_condP rfl (fun _ => ?_) (fun _ => ?_)
    | fail)
  · obtain ⟨o, e1, e2, e3, e4, _⟩ := hs.inner (by omega)
    have ho : Has σ s.id o := ⟨e2⟩
    have hr := rw_take hs (n := 2000) (by omega) (by decide)
    generalize s.id = q at *
    generalize s.off = u at *
    subst e1
    repeat' (first
      | refine wl_pop rfl (pc_sliceHi (b := 2000) rfl rfl inferInstance inferInstance ho e3 e4 (by omega)) ?_
      | refine wl_pop rfl (pc_buildRd rfl inferInstance inferInstance rfl) ?_
      | refine wp_seqA ?_
      | refine wp_region_seq ?_
      | refine thru_seq_next ?_
      | refine wp_retA ?_
      | refine wl_nil ?_
      | refine wl_pop rfl (po_move rfl) ?_
      | refine wl_pop rfl (po_assign rfl) ?_
      | (refine wc_boxA rfl inferInstance rfl ?_; intro _ _ _ _ _)
      | refine at_ret (res1 rfl rfl) ?_
      | fail)
    rename_i i1 σ1 g1 n1 h1
    exact ⟨i1, _, rfl, n1, h1, ⟨_, Bk.new hr n1 inferInstance⟩, g1⟩
  · repeat' (first
      | refine wl_pop rfl (pc_buildRd rfl inferInstance inferInstance rfl) ?_
      | refine thru_seq_next ?_
      | refine wp_retA ?_
      | refine wl_nil ?_
      | refine wl_pop rfl (po_assign rfl) ?_
      | (refine wc_boxA rfl inferInstance rfl ?_; intro _ _ _ _ _)
      | refine at_ret (res1 rfl rfl) ?_
      | fail)
    rename_i i1 σ1 g1 n1 h1
    exact ⟨i1, _, rfl, n1, h1, ⟨_, Bk.new hs n1 inferInstance⟩, g1⟩
end
end Go.Proofs.YthbodgnoadlbcaaDoor.Asl

/- The reader: a term. -/
namespace Go.Proofs.YthbodgnoadlbcaaDoor.Asl
open Go.RowKit
set_option linter.unusedVariables false
set_option linter.unusedSimpArgs false
attribute [local irreducible] WP WL andThen inBlock noGoto atEnd ACall DA DL PO Hold
set_option maxHeartbeats 4000000
theorem RepD.pair {σ σ' : Store} {G G' : Nat → Prop} {id' : Nat} {t t' : Tm} {u u' : AV} (hu : RepD σ G u t.ps) (hu' : RepD σ G' u' t'.ps) (hd : ∀ x, G x → G' x → False) (hkeep : ∀ (x : Nat) (o : Ob), G x ∨ G' x → σ[x]? = some o → σ'[x]? = some o) (hid : ∀ x, G x ∨ G' x → x ≠ id')
    (hnew : Has σ' id' ⟨.own, 3, [I t.op, I t.n, u, I t'.op, I t'.n, u'], []⟩) : RepD σ' (fun x => G x ∨ G' x ∨ x = id') (.sl id' 0 2) [t, t'] := by
  refine RepD.row (ps := [t, t']) [u, u'] (fun k x => if k = 0 then G x else G' x) (.inr (.inr rfl)) hnew rfl (by simp) rfl ?_ ?_ ?_ ?_
  · intro k hk x hx
    by_cases e : k = 0
    · rw [if_pos e] at hx; exact ⟨.inl hx, hid x (.inl hx)⟩
    · rw [if_neg e] at hx; exact ⟨.inr (.inl hx), hid x (.inr hx)⟩
  · intro k k' x hk hk' hx hx'
    simp at hk hk'
    by_cases e : k = 0 <;> by_cases e' : k' = 0
    · omega
    · rw [if_pos e] at hx; rw [if_neg e'] at hx'; exact (hd x hx hx').elim
    · rw [if_neg e] at hx; rw [if_pos e'] at hx'; exact (hd x hx' hx).elim
    · omega
  · intro k t1 s1 ht hs
    have := get_lt ht
    simp at this
    rcases (by omega : k = 0 ∨ k = 1) with rfl | rfl
    · simp at ht hs; subst ht hs; rfl
    · simp at ht hs; subst ht hs; rfl
  · intro k t1 s1 ht hs
    have := get_lt ht
    simp at this
    rcases (by omega : k = 0 ∨ k = 1) with rfl | rfl
    · simp at ht hs; subst ht hs
      exact hu.mono (fun x o hx ho => hkeep x o (.inl hx) ho) (fun _ h => h)
    · simp at ht hs; subst ht hs
      exact hu'.mono (fun x o hx ho => hkeep x o (.inr hx) ho) (fun _ h => h)
theorem may_newB (i : Nat) (σ : Store) {σa : Store} {j : Nat} [n : New σa j] [l : LeB i σ σa] : σ.length ≤ j := Nat.le_trans l.len n.le
/-- A term that is drawn. -/
def gdT (t : Tm) : Prop := -100 ≤ t.n ∧ t.n ≤ 100 ∧ t.ps.length ≤ 2
def QT (σ : Store) : AV → Store → Prop := fun r σ' => ∃ (t : Tm) (u : AV), r = .agg [I t.op, I t.n, u] ∧ RTsD σ σ' u t.ps ∧ gdT t
section
variable {E : Env} {ops : Array Oper} {l : List Oper} {Q : Exit → Slots → Store → Prop} {S : Slots} {σ : Store} {d : Option Tmp} {ty : TypeId} {pos : String} {af : Array Edge} {x y x0 x1 : Operand}
theorem wc_callRT {args : Array Operand} {ats : Array TypeId} {f : FuncId} {rs caps : List AV} {i : Nat} {s : AV} {p K : Int} (hf : S.ev x = some (.fn f caps)) (hc : Callable E.P f) (hargs : evs S args.toList = some rs)
    (h : ACall E.P E.base f (rs ++ caps) σ (fun j => j = i) (RetRd σ i s p K (QT σ))) (ho : Has σ i (RdO s p)) (hm : E.may i) (hd : okd E d = true) (k : ∀ (t : Tm) (u : AV) (p' : Int) σ₁ σ', One u → RTsD σ σ' u t.ps → gdT t → p ≤ p' → p' ≤ p + K → Grow σ σ₁ → Upd σ₁ i (RdO s p') σ' → WL E ops l Q (S.put d (.agg [I t.op, I t.n, u])) σ') :
    WL E ops (⟨d, .call ⟨.value x, args, ats⟩, ty, pos, af, none⟩ :: l) Q S σ :=
  wc_callRd hf hc hargs h ho hm hd fun r p' σ₁ σ' h1 h2 g u hq => by
    obtain ⟨t, v, rfl, h3, h4⟩ := hq
    exact k t v p' σ₁ σ' h3.new.rts.one h3 h4 h1 h2 g u
/-- A row of two terms. -/
theorem wc_twoTm {t e : TypeId} {bytes : Nat} {z : Value} {a b a' b' : Int} {u u' : AV} (hx : S.ev x0 = some (.agg [I a, I b, u])) (hy : S.ev x1 = some (.agg [I a', I b', u'])) [hu : One u] [hu' : One u'] (ht : Un E.P t (.slice e)) (he : Ty E.P e true 3 bytes z) (hz : z.cells.size = 3) (hz1 : ∀ v ∈ z.cells.toList, v.oneCell' = true) (hd : okd E d = true)
    (k : ∀ i σ', Grow σ σ' → New σ i → Has σ' i ⟨.own, 3, [I a, I b, u, I a', I b', u'], []⟩ → WL E ops l Q (S.put d (.sl i 0 2)) σ') : WL E ops (⟨d, .buildSlice t 2 #[(0, x0), (1, x1)], ty, pos, af, none⟩ :: l) Q S σ := by
  refine wc_buildSlice (rs := [(0, .agg [I a, I b, u]), (1, .agg [I a', I b', u'])]) (cs := [I a, I b, u, I a', I b', u']) ht.eq he hz hz1 (by decide) (by simp [evParts, hx, hy]) ?_ ?_ hd k
  · intro r hr
    simp only [List.mem_cons, List.not_mem_nil, or_false] at hr
    rcases hr with rfl | rfl
    · exact ⟨rfl, by simp, by simpa [AV.cells, AV.one] using hu.eq⟩
    · exact ⟨rfl, by simp, by simpa [AV.cells, AV.one] using hu'.eq⟩
  · simp only [fillA, AV.cells]
    rfl
end
theorem rtsD_one {σ σ₁ σ₂ σ' : Store} {j : Nat} {t : Tm} {u : AV} (h : RTsD σ₁ σ₂ u t.ps) (k : σ.length ≤ σ₁.length) (hj : σ₂.length ≤ j) (hl : σ₁.length ≤ σ₂.length) (hk : ∀ (x : Nat) (o : Ob), σ₁.length ≤ x → σ₂[x]? = some o → σ'[x]? = some o) (hh : Has σ' j ⟨.own, 3, [I t.op, I t.n, u], []⟩) : RTsD σ σ' (.sl j 0 1) [t] := by
  refine ⟨(RepD.single (σ := σ₂) h.rep.lt (fun x o hx ho => hk x o hx.1 ho) (fun x hx => by omega) hh).mono (fun _ _ _ h => h) (fun x hx => ?_)⟩
  rcases hx with hx | rfl <;> omega
theorem rtsD_nil {σ σ' : Store} {j : Nat} (hj : σ.length ≤ j) (hh : Has σ' j ⟨.own, 3, [I 0, I 0, nilS], []⟩) : RTsD σ σ' (.sl j 0 1) [.node 0 0 []] :=
  ⟨(RepD.single (σ := σ') (G := fun _ => False) (t := .node 0 0 []) (u := nilS) .nil (fun x o hx _ => hx.elim) (fun x hx => hx.elim) hh).mono (fun _ _ _ h => h) (fun x hx => by rcases hx with hx | rfl; exact hx.elim; exact hj)⟩
theorem gd_node {op n : Int} {ps : List Tm} (h0 : -100 ≤ n) (h1 : n ≤ 100) (h : ps.length ≤ 2) : gdT (.node op n ps) := ⟨h0, h1, h⟩
def KG : Nat → Int | 0 => 6 | d + 1 => 6 + 2 * KG d
theorem KG_pos : ∀ d, 6 ≤ KG d
  | 0 => by simp [KG]
  | d + 1 => by have := KG_pos d; simp only [KG]; omega
section
variable {base : Nat}
theorem c_l91Good_of (d : Nat) (m : Int) (hm0 : 0 ≤ m) (hm : m ≤ 100) (b : Bool) (ih : ∀ d', d = d' + 1 → ∀ (b : Bool) (i : Nat) (s : AV) (g : List UInt8) (p z : Int) (σ : Store) [Has σ i (RdO s p)] [Bk σ i s g], z = (d' : Int) → z ≤ 100 → 0 ≤ p → p + KG d' ≤ 999999000 → ACall Tryd.prog base F_spec_l91Good [.pt i 0, I z, I m, Bo b] σ (fun j => j = i) (RetRd σ i s p (KG d') (QT σ)))
    (i : Nat) (s : AV) (g : List UInt8) (p z : Int) (σ : Store) [hi : Has σ i (RdO s p)] [hb : Bk σ i s g] (hz : z = (d : Int)) (hz2 : z ≤ 100) (hp : 0 ≤ p) (hp2 : p + KG d ≤ 999999000) : ACall Tryd.prog base F_spec_l91Good [.pt i 0, I z, I m, Bo b] σ (fun j => j = i) (RetRd σ i s p (KG d) (QT σ)) := by
  have := hb.rw.one
  have hk6 := KG_pos d
  refine acall4 fun_spec_l91Good rfl tmps_spec_l91Good rfl fun N B w₀ ρ₀ => ?_
  repeat' (first
    | (refine wc_callP rfl inferInstance rfl (c_pick i s g _ _ _ (hb := hb.le inferInstance) (by omega) (by omega)) inferInstance (.inl rfl) rfl ?_; intro _ _ _ _ _ _ _ _ _ _)
    | (refine wc_holdIf ?_)
    | refine wp_seqA ?_
    | refine wp_region_seq ?_
    | refine thru_seq_next ?_
    | refine wl_nil ?_
    | refine wl_pop rfl (po_move rfl) ?_
    | refine wl_pop rfl (po_assign rfl) ?_
    | refine wl_pop rfl (po_binOp rfl rfl rfl) ?_
    | (refine wc_allocA (cs := [_, _, _]) inferInstance rfl inferInstance rfl ?_; intro _ _ _ _ _)
    | fail)
  rename_i i1 σ1 g1 n1 h1 v1 p1 σ2 σ3 a1 a2 a3 a4 g3 u3
  refine wc_cut (ι := Int × Int) [(0, .pt i 0), (1, I z), (2, I m), (3, Bo b), (8, .pt i1 0)] (fun x => [(9, I x.1)]) (fun x σ' => 0 ≤ x.1 ∧ x.1 ≤ 8 ∧ (z = 0 → x.1 ≤ 1) ∧ p ≤ x.2 ∧ x.2 ≤ p + 2 ∧ LeB i σ σ' ∧ LeB i σ1 σ' ∧ Has σ' i (RdO s x.2) ∧ Has σ' i1 ⟨.own, 1, [I 0, I 0, nilS], []⟩) ?_ ?_
  · repeat' (first
      | (refine wc_callP rfl inferInstance rfl (c_pick i s g _ _ _ (hb := hb.le inferInstance) (by omega) (by omega)) inferInstance (.inl rfl) rfl ?_; intro _ _ _ _ _ _ _ _ _ _)
      | refine wp_region_seq ?_
      | refine thru_seq_next ?_
      | refine wp_skipA ?_
      | refine wl_nil ?_
      | refine wl_pop rfl (po_move rfl) ?_
      | refine wl_pop rfl (po_assign rfl) ?_
      | refine wp_condP rfl (fun _ => ?_) (fun _ => ?_)
      | fail)
    · rename_i hz0 v2 p2 σ4 σ5 b1 b2 b3 b4 g5 u5
      exact ⟨(v2, p2), ⟨by dsimp only; omega, by dsimp only; omega, fun _ => (by dsimp only; omega), by dsimp only; omega, by dsimp only; omega, inferInstance, inferInstance, inferInstance, inferInstance⟩, (by repeat' (first | exact sub_nil | refine sub_cons rfl ?_ | refine sub_int rfl (by first | rfl | omega | (push_cast; omega) | simp) ?_ | refine sub_eq rfl (by assumption) ?_))⟩
    · exact ⟨(v1, p1), ⟨by dsimp only; omega, by dsimp only; omega, fun _ => (by dsimp only; omega), by dsimp only; omega, by dsimp only; omega, inferInstance, inferInstance, inferInstance, inferInstance⟩, (by repeat' (first | exact sub_nil | refine sub_cons rfl ?_ | refine sub_int rfl (by first | rfl | omega | (push_cast; omega) | simp) ?_ | refine sub_eq rfl (by assumption) ?_))⟩
  rintro ⟨v, q⟩ σ4 ⟨c1, c2, c3, c4, c5, hle, hle1, hi4, h4⟩
  dsimp only at c1 c2 c3 c4 c5 hi4 ⊢
  rcases d with _ | d'
  · simp only [KG] at hp2 ⊢
    repeat' (first
      | (refine wc_callP rfl inferInstance rfl (c_pick i s g _ _ _ (hb := hb.le inferInstance) (by omega) (by omega)) inferInstance (.inl rfl) rfl ?_; intro _ _ _ _ _ _ _ _ _ _)
      | (refine wc_callP rfl inferInstance rfl (c_l91Do i s g _ _ (hb := hb.le inferInstance) (by omega) (by omega)) inferInstance (.inl rfl) rfl ?_; intro _ _ _ _ _ _ _ _ _ _)
      | refine wl_pop rfl (pc_tm2 rfl rfl inferInstance inferInstance rfl) ?_
      | refine wl_pop rfl (pc_tm3 rfl rfl rfl inferInstance inferInstance rfl) ?_
      | refine wl_pop rfl (pc_build0 (cs := [I 0, I 0, nilS]) inferInstance inferInstance rfl) ?_
      | (refine wc_oneTm rfl inferInstance inferInstance rfl (by decide) rfl ?_; intro _ _ _ _ _)
      | refine wl_pop rfl (pc_max rfl rfl) ?_
      | refine wc_holdR 18 ?_
      | refine wp_seqA ?_
      | refine wp_region_seq ?_
      | refine thru_seq_next ?_
      | refine thru_seq_ret ?_
      | refine thru_block_ret ?_
      | refine thru_block_next ?_
      | refine wp_skipA ?_
      | refine wp_retA ?_
      | refine wp_blockA ?_
      | refine wl_nil ?_
      | refine wl_pop rfl (po_move rfl) ?_
      | refine wl_pop rfl (po_assign rfl) ?_
      | refine wl_pop rfl (pc_sub rfl rfl (by omega) (by omega)) ?_
      | refine wl_pop rfl (po_binOp rfl rfl rfl) ?_
      | (refine wc_storeA rfl rfl inferInstance inferInstance rfl inferInstance (Nat.le_of_ble_eq_true rfl) (.inr (may_new _)) ?_; intro _ _)
      | refine wl_pop rfl (po_pick rfl rfl) ?_
      | refine wc_guardT_true rfl rfl rfl ?_
      | refine wc_guardF_true rfl rfl rfl rfl ?_
      | refine wc_guardP_true rfl rfl rfl rfl (fun _ => ?_) (fun _ => ?_)
      | refine wp_condF rfl ?_
      | refine wp_condP rfl (fun _ => ?_) (fun _ => ?_)
      | refine wp_condA rfl (fun _ => ?_) (fun _ => ?_)
      | refine at_ret (res_cell rfl rfl inferInstance (at_has (cs := [_, _, _]) (.inl rfl) rfl rfl)) ?_
      | fail)
    all_goals first
      | (exfalso; omega)
      | (rename_i v' p' σa σb k1 k2 k3 k4 ga ua σc uc; exact ⟨⟨p', by omega, by omega, inferInstance⟩, inferInstance, .node 5 v' [], nilS, rfl, ⟨.nil⟩, gd_node (by omega) (by omega) (by simp)⟩)
      | (exact ⟨⟨q, by omega, by omega, inferInstance⟩, inferInstance, .node 0 0 [], nilS, rfl, ⟨.nil⟩, gd_node (by omega) (by omega) (by simp)⟩)
      | (rename_i v' p' σa σb k1 k2 k3 k4 ga ua hz0 j σc gc nc hc σd ud; exact ⟨⟨p', by omega, by omega, inferInstance⟩, inferInstance, .node 1 v' [.node 0 0 []], .sl j 0 1, rfl, rtsD_nil (by have := nc.le; have := ga.len; have := ua.len; have := hle.len; omega) inferInstance, gd_node (by omega) (by omega) (by simp)⟩)
  · have hk6' := KG_pos d'
    have hmx : max 0 (z - 1) = (d' : Int) := by rw [Int.max_def]; split <;> omega
    simp only [KG] at hp2 hk6 ⊢
    repeat' (first
      | (refine wc_callP rfl inferInstance rfl (c_pick i s g _ _ _ (hb := hb.le inferInstance) (by omega) (by omega)) inferInstance (.inl rfl) rfl ?_; intro _ _ _ _ _ _ _ _ _ _)
      | (refine wc_callP rfl inferInstance rfl (c_l91Do i s g _ _ (hb := hb.le inferInstance) (by omega) (by omega)) inferInstance (.inl rfl) rfl ?_; intro _ _ _ _ _ _ _ _ _ _)
      | (refine wc_callRT rfl inferInstance rfl (@ih d' rfl _ i s g _ _ _ inferInstance (hb.le inferInstance) (by first | exact hmx | omega) (by first | omega | (rw [hmx]; omega)) (by omega) (by omega)) inferInstance (.inl rfl) rfl ?_; intro _ _ _ _ _ _ _ _ _ _ _ _)
      | refine wl_pop rfl (pc_tm2 rfl rfl inferInstance inferInstance rfl) ?_
      | refine wl_pop rfl (pc_tm3 rfl rfl rfl inferInstance inferInstance rfl) ?_
      | refine wl_pop rfl (pc_build0 (cs := [I 0, I 0, nilS]) inferInstance inferInstance rfl) ?_
      | (refine wc_oneTm rfl inferInstance inferInstance rfl (by decide) rfl ?_; intro _ _ _ _ _)
      | refine wl_pop rfl (pc_max rfl rfl) ?_
      | refine wc_holdR 18 ?_
      | refine wp_seqA ?_
      | refine wp_region_seq ?_
      | refine thru_seq_next ?_
      | refine thru_seq_ret ?_
      | refine thru_block_ret ?_
      | refine thru_block_next ?_
      | refine wp_skipA ?_
      | refine wp_retA ?_
      | refine wp_blockA ?_
      | refine wl_nil ?_
      | refine wl_pop rfl (po_move rfl) ?_
      | refine wl_pop rfl (po_assign rfl) ?_
      | refine wl_pop rfl (pc_sub rfl rfl (by omega) (by omega)) ?_
      | refine wl_pop rfl (po_binOp rfl rfl rfl) ?_
      | (refine wc_storeA rfl rfl inferInstance inferInstance rfl inferInstance (Nat.le_of_ble_eq_true rfl) (.inr (may_new _)) ?_; intro _ _)
      | refine wl_pop rfl (po_pick rfl rfl) ?_
      | refine wc_guardT_true rfl rfl rfl ?_
      | refine wc_guardF_true rfl rfl rfl rfl ?_
      | refine wc_guardP_true rfl rfl rfl rfl (fun _ => ?_) (fun _ => ?_)
      | refine wp_condF rfl ?_
      | refine wp_condP rfl (fun _ => ?_) (fun _ => ?_)
      | refine wp_condA rfl (fun _ => ?_) (fun _ => ?_)
      | refine at_ret (res_cell rfl rfl inferInstance (at_has (cs := [_, _, _]) (.inl rfl) rfl rfl)) ?_
      | fail)
    all_goals first
      | (exfalso; omega)
      | (rename_i v' p' σa σb k1 k2 k3 k4 ga ua σc uc; exact ⟨⟨p', by omega, by omega, inferInstance⟩, inferInstance, .node 5 v' [], nilS, rfl, ⟨.nil⟩, gd_node (by omega) (by omega) (by simp)⟩)
      | (exact ⟨⟨q, by omega, by omega, inferInstance⟩, inferInstance, .node 0 0 [], nilS, rfl, ⟨.nil⟩, gd_node (by omega) (by omega) (by simp)⟩)
      | (rename_i v' p' σa σb k1 k2 k3 k4 ga ua hz0 j σc gc nc hc σd ud; exact ⟨⟨p', by omega, by omega, inferInstance⟩, inferInstance, .node 1 v' [.node 0 0 []], .sl j 0 1, rfl, rtsD_nil (by have := nc.le; have := ga.len; have := ua.len; have := hle.len; omega) inferInstance, gd_node (by omega) (by omega) (by simp)⟩)
      | (rename_i v' p' σa σb k1 k2 k3 k4 ga ua hz0 t u p'' σc σd ho hr hg k5 k6 gc uc j σe ge ne he σf uf; exact ⟨⟨p'', by omega, by omega, inferInstance⟩, inferInstance, .node 1 v' [t], .sl j 0 1, rfl, rtsD_one hr (by have := ga.len; have := ua.len; have := hle.len; omega) ne.le (by have := gc.len; have := uc.len; omega) (fun x o hx ho => by have := h4.lt; have := ga.len; have := ua.len; rw [uf.eq, List.getElem?_set_ne (by omega)]; exact ge.keep x o ho) inferInstance, gd_node (by omega) (by omega) (by simp)⟩)
      | (rename_i v' p' σa σb k1 k2 k3 k4 ga ua t u p'' σc σd ho hr hg k5 k6 gc uc j σe ge ne he σf uf; exact ⟨⟨p'', by omega, by omega, inferInstance⟩, inferInstance, .node 4 v' [t], .sl j 0 1, rfl, rtsD_one hr (by have := ga.len; have := ua.len; have := hle.len; omega) ne.le (by have := gc.len; have := uc.len; omega) (fun x o hx ho => by have := h4.lt; have := ga.len; have := ua.len; rw [uf.eq, List.getElem?_set_ne (by omega)]; exact ge.keep x o ho) inferInstance, gd_node (by omega) (by omega) (by simp)⟩)
      | skip
    refine hold_go ?_
    repeat' (first
      | refine wc_holdIf ?_
      | refine wp_region_seq ?_
      | refine thru_seq_next ?_
      | refine wl_nil ?_
      | refine wl_pop rfl (po_move rfl) ?_
      | refine wl_pop rfl (po_binOp rfl rfl rfl) ?_
      | fail)
    refine wc_cut (ι := Int) [(0, .pt i 0), (1, I z), (2, I m), (3, Bo b), (8, .pt i1 0)] (fun x => [(13, I x)]) (fun x σ' => σ' = σ4) ?_ ?_
    · repeat' (first
        | refine wp_region_seq ?_
        | refine thru_seq_next ?_
        | refine wp_skipA ?_
        | refine wl_nil ?_
        | refine wl_pop rfl (po_assign rfl) ?_
        | refine wp_condP rfl (fun _ => ?_) (fun _ => ?_)
        | fail)
      · exact ⟨3, rfl, (by repeat' (first | exact sub_nil | refine sub_cons rfl ?_ | refine sub_int rfl (by first | rfl | omega | (push_cast; omega) | simp) ?_ | refine sub_eq rfl (by assumption) ?_))⟩
      · exact ⟨2, rfl, (by repeat' (first | exact sub_nil | refine sub_cons rfl ?_ | refine sub_int rfl (by first | rfl | omega | (push_cast; omega) | simp) ?_ | refine sub_eq rfl (by assumption) ?_))⟩
    rintro w σ5 h5
    subst h5
    repeat' (first
      | (refine wc_callRT rfl inferInstance rfl (@ih d' rfl _ i s g _ _ _ inferInstance (hb.le inferInstance) (by omega) (by omega) (by omega) (by omega)) inferInstance (.inl rfl) rfl ?_; intro _ _ _ _ _ _ _ _ _ _ _ _)
      | (refine wc_storeA rfl rfl inferInstance inferInstance rfl inferInstance (Nat.le_of_ble_eq_true rfl) (.inr (may_newB i σ)) ?_; intro _ _)
      | refine wc_holdR 21 ?_
      | refine wp_seqA ?_
      | refine wp_region_seq ?_
      | refine thru_seq_next ?_
      | refine wl_nil ?_
      | refine wl_pop rfl (po_move rfl) ?_
      | refine wl_pop rfl (pc_sub rfl rfl (by omega) (by omega)) ?_
      | (refine wc_allocA (cs := [_, _, _]) inferInstance rfl inferInstance rfl ?_; intro _ _ _ _ _)
      | fail)
    rename_i t1 u1 q1 σa σb ho1 hr1 hg1 k1 k2 ga ua j1 σc gc nc hc σd ud
    refine hold_go ?_
    repeat' (first
      | (refine wc_callRT rfl inferInstance rfl (@ih d' rfl _ i s g _ _ _ inferInstance (hb.le inferInstance) (by omega) (by omega) (by omega) (by omega)) inferInstance (.inl rfl) rfl ?_; intro _ _ _ _ _ _ _ _ _ _ _ _)
      | (refine wc_twoTm rfl rfl inferInstance inferInstance rfl (by decide) rfl ?_; intro _ _ _ _ _)
      | refine wl_pop rfl (pc_tm02 rfl rfl inferInstance inferInstance rfl) ?_
      | (refine wc_storeA rfl rfl inferInstance inferInstance rfl inferInstance (Nat.le_of_ble_eq_true rfl) (.inr (may_newB i σ)) ?_; intro _ _)
      | refine wp_seqA ?_
      | refine wp_region_seq ?_
      | refine thru_seq_next ?_
      | refine wp_retA ?_
      | refine wl_nil ?_
      | refine wl_pop rfl (po_move rfl) ?_
      | refine wl_pop rfl (pc_sub rfl rfl (by omega) (by omega)) ?_
      | refine wc_loadn rfl inferInstance (at_has (cs := [_, _, _]) (.inl rfl) rfl rfl) rfl ?_
      | (refine wc_allocA (cs := [_, _, _]) inferInstance rfl inferInstance rfl ?_; intro _ _ _ _ _)
      | refine at_ret (res_cell rfl rfl inferInstance (at_has (cs := [_, _, _]) (.inl rfl) rfl rfl)) ?_
      | fail)
    rename_i t2 u2 q2 σe σf ho2 hr2 hg2 k3 k4 ge ue j2 σg gg ng hh2 σh uh j σk gk nk hk σl ul
    have y1 := hi4.lt
    have y2 := h4.lt
    have y3 := ga.len
    have y4 := ua.len
    have y5 := gc.len
    have y6 := ud.len
    have y7 := ge.len
    have y8 := ue.len
    have y9 := gg.len
    have y10 := uh.len
    have y11 := nk.le
    have y12 := hle.len
    have hl1 : LeB i σb σh := inferInstance
    have hl2 : LeB i σf σh := inferInstance
    have hkl : Has σl j ⟨.own, 3, [I t1.op, I t1.n, u1, I t2.op, I t2.n, u2], []⟩ := inferInstance
    have R1 := hr1.rep.lt.mono (σ' := σh) (F' := fun x => σ5.length ≤ x ∧ x < σb.length) (fun x o hx ho => hl1.keep.keep x o (by omega) ho) (fun _ h => h)
    have R2 := hr2.rep.lt.mono (σ' := σh) (F' := fun x => σd.length ≤ x ∧ x < σf.length) (fun x o hx ho => hl2.keep.keep x o (by omega) ho) (fun _ h => h)
    have R3 := RepD.pair (σ' := σl) R1 R2 (fun x h1 h2 => by omega) (fun x o hx ho => by rw [ul.eq, List.getElem?_set_ne (by omega)]; exact gk.keep x o ho) (fun x hx => by omega) hkl
    exact ⟨⟨q2, by omega, by omega, inferInstance⟩, inferInstance, .node w 0 [t1, t2], .sl j 0 2, rfl, ⟨R3.mono (fun _ _ _ h => h) (fun x hx => by omega)⟩, gd_node (by omega) (by omega) (by simp)⟩
theorem c_l91Good (m : Int) (hm0 : 0 ≤ m) (hm : m ≤ 100) : ∀ (d : Nat) (b : Bool) (i : Nat) (s : AV) (g : List UInt8) (p z : Int) (σ : Store) [Has σ i (RdO s p)] [Bk σ i s g], z = (d : Int) → z ≤ 100 → 0 ≤ p → p + KG d ≤ 999999000 → ACall Tryd.prog base F_spec_l91Good [.pt i 0, I z, I m, Bo b] σ (fun j => j = i) (RetRd σ i s p (KG d) (QT σ)) := by
  intro d
  induction d with
  | zero => exact fun b i s g p z σ _ _ h1 h2 h3 h4 => c_l91Good_of 0 m hm0 hm b (fun d' h => by omega) i s g p z σ h1 h2 h3 h4
  | succ d ih => exact fun b i s g p z σ _ _ h1 h2 h3 h4 => c_l91Good_of (d + 1) m hm0 hm b (fun d' h => by cases h; exact ih) i s g p z σ h1 h2 h3 h4
end
end Go.Proofs.YthbodgnoadlbcaaDoor.Asl

/- The reader: definitions. -/
namespace Go.Proofs.YthbodgnoadlbcaaDoor.Asl
open Go.RowKit
set_option linter.unusedVariables false
set_option linter.unusedSimpArgs false
attribute [local irreducible] WP WL andThen inBlock noGoto atEnd ACall DA DL PO Hold
set_option maxHeartbeats 4000000
section
variable {E : Env} {ops : Array Oper} {l : List Oper} {Q : Exit → Slots → Store → Prop} {S : Slots} {σ σ₀ : Store} {d : Option Tmp} {ty : TypeId} {pos : String} {af : Array Edge} {x y : Operand}
theorem wc_appendTmS (m : Nat) {t e : TypeId} {s u : AV} {xs : List Tm} {tm : Tm} {j : Nat} {agg : Bool} {bytes : Nat} {z : Value} (hx : S.ev x = some s) (hy : S.ev y = some (.sl j 0 1)) (ht : Un E.P t (.slice e)) (he : Ty E.P e agg 3 bytes z) (hz : z.cells.size = 3) (hb0 : 0 < bytes) (hb : bytes ≤ 4096)
    (h : RepD σ (fun i => σ₀.length ≤ i ∧ i < m) s xs) (hn : ∀ a c, s = .lit (.slice a 0 c) → s = nilS) (hu : RepD σ (fun i => m ≤ i) u tm.ps) (hm0 : σ₀.length ≤ m) (h0 : σ₀.length ≤ σ.length) (hj : Has σ j ⟨.own, 3, [I tm.op, I tm.n, u], []⟩) (hone : One u) (hlen : xs.length < 4294967296) (hmay : ∀ id, σ₀.length ≤ id → E.may id) (hd : okd E d = true)
    (k : ∀ s' σ', App σ₀ σ s s' σ' → Mk σ σ₀ σ σ' → RepD σ' (fun i => σ₀.length ≤ i) s' (xs ++ [tm]) → One s' → WL E ops l Q (S.put d s') σ') :
    WL E ops (⟨d, .call ⟨.builtin .append, #[x, y], #[t, t]⟩, ty, pos, af, none⟩ :: l) Q S σ := by
  have hap : Appends E.P σ 3 1 (.sl j 0 1) [I tm.op, I tm.n, u] := Appends.row hj.get (.inr rfl) rfl rfl (by simpa [AV.one] using hone.eq)
  have hlim : ∀ n, n ≤ 4294967296 → n * bytes ≤ 140737488355328 := fun n hn => by
    have := Nat.mul_le_mul hn hb
    omega
  have hul := hu.lt
  generalize hs : s = s0 at h
  cases h with
  | nil =>
    have := hn _ _ hs
    subst this
    refine wc_append_nil hx hy ht.eq he hz hb0 hap (by decide) (hlim _ (by simp)) hd fun i σ' hg hnw hh => ?_
    have hr : RepD σ' (fun i => σ₀.length ≤ i) (.sl i 0 ([tm] : List Tm).length) [tm] := by
      refine (RepD.single (id' := i) hul (fun q o _ ho => hg.keep q o ho) (fun q hq => by have := hnw.le; omega) hh).mono (fun _ _ _ h => h) fun q hq => ?_
      rcases hq with hq | rfl
      · omega
      · exact Nat.le_trans h0 hnw.le
    have ha : App σ₀ σ nilS (.sl i 0 1) σ' := ⟨fun q o _ ho => hg.keep q o ho, hg.len, .inr ⟨_, _, rfl, hnw.le⟩⟩
    exact k _ σ' ha ha.turned hr ⟨rfl⟩
  | @row _ id l0 _ ss Fs h1 h2 h3 h4 h5 h6 h7 h8 h9 =>
    subst hs
    have hrow : RepD σ (fun i => σ₀.length ≤ i ∧ i < m) (.sl id 0 xs.length) xs := .row ss Fs h1 h2 h3 h4 h5 h6 h7 h8 h9
    have hrl := hrow.lt
    refine wc_append hx hy ht.eq he hz hb0 h2 rfl h3 hap (hmay _ h1.1) (hlim _ (by omega)) hd fun i σ₁ σ' hu1 hg hnw hh => ?_
    have hkeep : ∀ (q : Nat) (o : Ob), q ≠ id → σ[q]? = some o → σ'[q]? = some o := fun q o hq ho => hg.keep q o (by rw [hu1.eq, List.getElem?_set_ne (Ne.symm hq)]; exact ho)
    have hr := RepD.snoc hrl h2 hul (fun q ha hb => by omega) (fun q o _ hq ho => hkeep q o hq ho) (fun q hq => by
      have := hnw.le
      rcases hq with hq | hq
      · have := hq.2; omega
      · have := hq.2; omega) hh hlen
    have hl2 : (xs ++ [tm]).length = xs.length + 1 := by simp
    rw [hl2] at hr
    have ha : App σ₀ σ (.sl id 0 xs.length) (.sl i 0 (xs.length + 1)) σ' := by
      refine ⟨fun q o hq ho => hkeep q o ?_ ho, ?_, .inr ⟨_, _, rfl, hnw.le⟩⟩
      · rcases hq with hq | hq
        · have := h1.1; omega
        · intro e; subst e; exact hq _ rfl
      · have := Upd.len hu1
        have := hg.len
        omega
    refine k _ σ' ha ha.turned (hr.mono (fun _ _ _ h => h) fun q hq => ?_) ⟨rfl⟩
    rcases hq with hq | hq | rfl
    · exact hq.1.1
    · have := hq.1; omega
    · exact Nat.le_trans h0 hnw.le
end
theorem App.leB {i : Nat} {σ₀ σ σ' : Store} {s s' : AV} (h : App σ₀ σ s s' σ') (k : LeB i σ₀ σ) : LeB i σ₀ σ' :=
  ⟨⟨fun j o hj ho => h.keep j o (.inl (Has.lt ⟨ho⟩)) (k.keep.keep j o hj ho)⟩, Nat.le_trans k.len h.len⟩
theorem RepD.setLeaf {σ σ' : Store} {F : Nat → Prop} {id : Nat} {l : List AV} {xs : List Tm} {k : Nat} {op n : Int} (h : RepD σ F (.sl id 0 xs.length) xs) (hl : Has σ id ⟨.own, 3, l, []⟩) (hk : k < xs.length) (u : Upd σ id ⟨.own, 3, splice l (0 + k * 3) [I op, I n, nilS], []⟩ σ') :
    RepD σ' F (.sl id 0 (xs.set k (.node op n [])).length) (xs.set k (.node op n [])) := by
  rw [Nat.zero_add] at u
  generalize hv : AV.sl id 0 xs.length = v at h
  cases h with
  | nil => cases hv
  | @row _ id0 l0 _ ss Fs h1 h2 h3 h4 h5 h6 h7 h8 h9 =>
    cases hv
    have el : l0 = l := by
      have := h2.get.symm.trans hl.get
      simpa using this
    subst el
    have hsl : (splice l0 (k * 3) [I op, I n, nilS]).length = l0.length := splice_length (by simp; omega)
    refine RepD.row (ss.set k nilS) Fs h1 instHasUpd (by rw [hsl, List.length_set]; exact h3) (by simpa using h4) (by simpa using h5) (by simpa using h6) (by simpa using h7) ?_ ?_
    · intro j t' s' ht hs
      by_cases e : k = j
      · subst e
        rw [List.getElem?_set_self hk] at ht
        rw [List.getElem?_set_self (by omega)] at hs
        cases ht; cases hs
        exact cutL_splice_eq (by simp; omega) rfl
      · rw [List.getElem?_set_ne e] at ht hs
        have := get_lt ht
        rw [cutL_splice_ne (by simp; omega) (by simp; omega)]
        exact h8 j t' s' ht hs
    · intro j t' s' ht hs
      by_cases e : k = j
      · subst e
        rw [List.getElem?_set_self hk] at ht
        rw [List.getElem?_set_self (by omega)] at hs
        cases ht; cases hs
        exact .nil
      · rw [List.getElem?_set_ne e] at ht hs
        have hj := get_lt ht
        exact (h9 j t' s' ht hs).mono (fun x o hx ho => by rw [u.eq, List.getElem?_set_ne (Ne.symm (h6 j hj x hx).2)]; exact ho) (fun _ h => h)
theorem RepD.sl {σ : Store} {F : Nat → Prop} {s : AV} {xs : List Tm} (h : RepD σ F s xs) (hne : xs ≠ []) : ∃ id, s = .sl id 0 xs.length := by
  cases h with
  | nil => exact absurd rfl hne
  | row => exact ⟨_, rfl⟩
theorem RepD.cells {σ : Store} {F : Nat → Prop} {id n : Nat} {xs : List Tm} (h : RepD σ F (.sl id 0 n) xs) : ∃ l, Has σ id ⟨.own, 3, l, []⟩ ∧ l.length = xs.length * 3 ∧ F id := by
  cases h with
  | row ss Fs h1 h2 h3 => exact ⟨_, h2, h3, h1⟩
theorem RepD.atC {i : Nat} {σ₀ σ σ' : Store} {s : AV} {xs : List Tm} (h : RepD σ (fun y => σ₀.length ≤ y) s xs) (l : LeB i σ σ') (hi : i < σ₀.length) : RepD σ' (fun y => σ₀.length ≤ y) s xs :=
  h.mono (fun j o hj ho => l.keep.keep j o (by omega) ho) (fun _ h => h)
theorem RepD.atB {i : Nat} {σ₀ σ σ' : Store} {s : AV} {xs : List Tm} (h : RepD σ (fun y => σ₀.length ≤ y) s xs) (l : LeB i σ σ') (hi : i < σ₀.length) : RepD σ' (fun y => σ₀.length ≤ y ∧ y < σ.length) s xs :=
  h.lt.mono (fun j o hj ho => l.keep.keep j o (by omega) ho) (fun _ h => h)
theorem KG_le4 : ∀ d, d ≤ 4 → KG d ≤ 186 := by
  intro d h
  have : d = 0 ∨ d = 1 ∨ d = 2 ∨ d = 3 ∨ d = 4 := by omega
  rcases this with rfl | rfl | rfl | rfl | rfl <;> decide
section
variable {base : Nat}
theorem c_good (i : Nat) (s : AV) (g : List UInt8) (p z m : Int) (b : Bool) (σ : Store) [Has σ i (RdO s p)] [Bk σ i s g] (hm0 : 0 ≤ m) (hm : m ≤ 100) (hz : 0 ≤ z) (hz4 : z ≤ 4) (hp : 0 ≤ p) (hp2 : p ≤ 999998000) :
    ACall Tryd.prog base F_spec_l91Good [.pt i 0, I z, I m, Bo b] σ (fun j => j = i) (RetRd σ i s p 186 (QT σ)) := by
  have h := KG_le4 z.toNat (by omega)
  refine (c_l91Good (base := base) m hm0 hm z.toNat b i s g p z σ (by omega) (by omega) hp (by omega)).mono ?_
  rintro r σ' ⟨⟨p', h1, h2, h3⟩, h4⟩
  exact ⟨⟨p', h1, by omega, h3⟩, h4⟩
/-- A list of terms that is drawn. -/
def QTs (σ : Store) (n : Nat) : AV → Store → Prop := fun r σ' => ∃ xs : List Tm, xs.length ≤ n ∧ RTsD σ σ' r xs
theorem c_l91Defs (i : Nat) (s : AV) (g : List UInt8) (p : Int) (σ : Store) [hi : Has σ i (RdO s p)] [hb : Bk σ i s g] (hp : 0 ≤ p) (hp2 : p ≤ 999990000) : ACall Tryd.prog base F_spec_l91Defs [.pt i 0] σ (fun j => j = i) (RetRd σ i s p 1000 (QTs σ 3)) := by
  have := hb.rw.one
  have hi0 := hi.lt
  refine acall1 fun_spec_l91Defs rfl tmps_spec_l91Defs rfl fun N B w₀ ρ₀ => ?_
  repeat' (first
    | (refine wc_callP rfl inferInstance rfl (c_pick i s g _ _ _ (hb := hb.le inferInstance) (by omega) (by omega)) inferInstance (.inl rfl) rfl ?_; intro _ _ _ _ _ _ _ _ _ _)
    | (refine wc_buildSlice (cs := []) Un.eq inferInstance rfl (by decide) (by decide) rfl (by simp) rfl rfl ?_; intro _ _ _ _ _)
    | refine wp_seqA ?_
    | refine wp_region_seq ?_
    | refine thru_seq_next ?_
    | refine wp_blockA ?_
    | refine wl_nil ?_
    | refine wl_pop rfl (po_move rfl) ?_
    | refine wl_pop rfl (po_assign rfl) ?_
    | fail)
  rename_i m0 p0 σ1 σ2 a1 a2 a3 a4 g1 u1 i3 σ3 g3 n3 h3
  have hle3 : LeB i σ σ3 := inferInstance
  have hi3 := n3.le
  have hl3 := hle3.len
  have hl2 : σ.length ≤ σ2.length := (inferInstance : LeB i σ σ2).len
  refine wc_loop [(0, _), (3, _)] (fun x : Nat × AV × Int => [(4, x.2.1), (5, I x.1)]) (fun x σ' => (x.1 : Int) ≤ m0 ∧ x.2.1.id = x.2.1.id ∧ p ≤ x.2.2 ∧ x.2.2 ≤ p + 1 + 187 * x.1 ∧ LeB i σ σ' ∧ Has σ' i (RdO s x.2.2) ∧ ∃ (id : Nat) (xs : List Tm), x.2.1 = .sl id 0 xs.length ∧ xs.length = x.1 ∧ RepD σ' (fun y => σ.length ≤ y) x.2.1 xs) (fun x => (m0 - x.1).toNat) (0, .sl i3 0 0, p0) ⟨by dsimp only; omega, rfl, by dsimp only; omega, by dsimp only; omega, hle3, inferInstance, i3, [], rfl, rfl, RepD.row (ps := []) [] (fun _ _ => False) (by omega) h3 rfl (by simp) rfl (fun k hk => by simp at hk) (fun k k' x hk => by simp at hk) (fun k t s ht => by simp at ht) (fun k t s ht => by simp at ht)⟩ (by repeat' (first | exact sub_nil | refine sub_cons rfl ?_ | refine sub_int rfl (by first | rfl | omega | (push_cast; omega) | simp) ?_ | refine sub_eq rfl (by assumption) ?_)) ?_
  rintro ⟨k, v, q⟩ σ4 ⟨b1, _, b2, b3, hle4, hi4, id, xs, e1, e2, hrep⟩
  dsimp only at b1 b2 b3 hi4 e1 e2 hrep ⊢
  subst e1
  have hl4 := hle4.len
  have hr1 := hrep.one
  obtain ⟨l, hl, hll, hF⟩ := hrep.cells
  have dif1 : Dif id i := ⟨by omega⟩
  have dif2 : Dif i id := ⟨by omega⟩
  have hnew : New σ id := ⟨hF⟩
  repeat' (first
    | (refine wc_callP rfl inferInstance rfl (c_pick i s g _ _ _ (hb := hb.le inferInstance) (by omega) (by omega)) inferInstance (.inl rfl) rfl ?_; intro _ _ _ _ _ _ _ _ _ _)
    | (refine wc_callRT rfl inferInstance rfl (@c_good _ i s g _ _ _ _ _ inferInstance (hb.le inferInstance) (by omega) (by omega) (by omega) (by omega) (by omega) (by omega)) inferInstance (.inl rfl) rfl ?_; intro _ _ _ _ _ _ _ _ _ _ _ _)
    | (refine wc_oneTm rfl inferInstance inferInstance rfl (by decide) rfl ?_; intro _ _ _ _ _)
    | (refine wc_appendTmS (σ₀ := σ) σ4.length rfl rfl inferInstance inferInstance rfl (by decide) (by decide) (hrep.atB (i := i) inferInstance hi0) (fun _ _ h => by cases h) (rtsD_ge inferInstance (inferInstance : LeB i σ4 _).len) hl4 (inferInstance : LeB i σ _).len inferInstance inferInstance (by omega) (fun _ h => .inr h) rfl ?_; intro _ _ _ _ _ _)
    | refine wl_pop rfl (pc_tm2 rfl rfl inferInstance inferInstance rfl) ?_
    | refine wl_pop rfl (pc_indexSlZ rfl rfl inferInstance inferInstance (by omega) (by omega)) ?_
    | (refine wc_storeA rfl rfl inferInstance inferInstance rfl inferInstance (by omega) (.inr hF) ?_; intro _ _)
    | refine wp_seqA ?_
    | refine wp_region_seq ?_
    | refine thru_seq_next ?_
    | refine thru_seq ?_
    | refine thru_block_next ?_
    | refine exit_here ?_
    | refine wp_skipA ?_
    | refine wp_retA ?_
    | refine wp_exitA ?_
    | refine wp_blockA ?_
    | refine wl_nil ?_
    | refine wl_pop rfl (po_move rfl) ?_
    | refine wl_pop rfl (po_assign rfl) ?_
    | refine wl_pop rfl (pc_add rfl rfl (by omega) (by omega)) ?_
    | refine wl_pop rfl (po_binOp rfl rfl rfl) ?_
    | refine wl_pop rfl (po_pick rfl rfl) ?_
    | refine wc_guardT_true rfl rfl rfl ?_
    | refine wc_guardF_true rfl rfl rfl rfl ?_
    | refine wc_guardP_true rfl rfl rfl rfl (fun _ => ?_) (fun _ => ?_)
    | refine wp_condF rfl ?_
    | refine wp_condP rfl (fun _ => ?_) (fun _ => ?_)
    | refine at_ret (res1 rfl rfl) ?_
    | fail)
  · rename_i hk v1 p1 σ5 σ6 c1 c2 c3 c4 g6 u6 t u p2 σ7 σ8 ho hr hg c5 c6 g8 u8 j σ9 g9 n9 h9 s' σ10 ap mk rep' ho'
    obtain ⟨id', e'⟩ := rep'.sl (by simp)
    exact ⟨(k + 1, s', p2), by dsimp only; omega, ⟨by dsimp only; push_cast; omega, rfl, by dsimp only; omega, by dsimp only; push_cast; omega, ap.leB inferInstance, inferInstance, id', xs ++ [t], e', by simp [e2], rep'⟩, (by repeat' (first | exact sub_nil | refine sub_cons rfl ?_ | refine sub_int rfl (by first | rfl | omega | (push_cast; omega) | simp) ?_ | refine sub_eq rfl (by assumption) ?_))⟩
  · rename_i hk hm v1 p1 σ5 σ6 c1 c2 c3 c4 g6 u6 hv v2 p2 σ7 σ8 d1 d2 d3 d4 g8 u8 v3 p3 σ9 σ10 f1 f2 f3 f4 g10 u10 σ11 u11
    have R := RepD.setLeaf (hrep.atC (inferInstance : LeB i σ4 σ10) hi0) (inferInstance : Has σ10 id _) (by omega) u11
    rw [List.length_set] at R
    exact ⟨⟨p3, by omega, by omega, inferInstance⟩, inferInstance, _, by rw [List.length_set]; omega, ⟨R⟩⟩
  · rename_i hk hm v1 p1 σ5 σ6 c1 c2 c3 c4 g6 u6 hv
    exact ⟨⟨p1, by omega, by omega, inferInstance⟩, inferInstance, xs, by omega, ⟨hrep.atC inferInstance hi0⟩⟩
  · rename_i hk hm
    exact ⟨⟨q, by omega, by omega, inferInstance⟩, inferInstance, xs, by omega, ⟨hrep⟩⟩
end
end Go.Proofs.YthbodgnoadlbcaaDoor.Asl

/- The reader: a term that may not fit. -/
namespace Go.Proofs.YthbodgnoadlbcaaDoor.Asl
open Go.RowKit
set_option linter.unusedVariables false
set_option linter.unusedSimpArgs false
attribute [local irreducible] WP WL andThen inBlock noGoto atEnd ACall DA DL PO Hold
set_option maxHeartbeats 4000000
theorem appends_nil' {P : Program} {σ : Store} {size : Nat} {a : Option Addr} {c : Nat} : Appends P σ size 0 (.lit (.slice a 0 c)) [] :=
  ⟨by simp, by simp, fun base ρ w v hs hr => by
    cases hr
    refine ⟨rfl, [], .nil, ?_⟩
    cases a <;> simp [Builtin.firstCells, Sem.run_pure, loadCells, loadCellsFrom]⟩
theorem RepD.cons {σ σ' : Store} {G : Nat → Prop} {j id : Nat} {l : List AV} {ps : List Tm} {op n : Int} (h : RepD σ G (.sl id 0 ps.length) ps) (hl : Has σ id ⟨.own, 3, l, []⟩) (hk : ∀ (x : Nat) (o : Ob), G x → σ[x]? = some o → σ'[x]? = some o) (hid : ∀ x, G x → x ≠ j) (hj : Has σ' j ⟨.own, 3, [I op, I n, nilS] ++ l, []⟩) (hb : ps.length < 4294967296) :
    RepD σ' (fun x => G x ∨ x = j) (.sl j 0 (Tm.node op n [] :: ps).length) (.node op n [] :: ps) := by
  generalize hv : AV.sl id 0 ps.length = v at h
  cases h with
  | nil => cases hv
  | @row _ id0 l0 _ ss Fs h1 h2 h3 h4 h5 h6 h7 h8 h9 =>
    cases hv
    have el : l0 = l := by
      have := h2.get.symm.trans hl.get
      simpa using this
    subst el
    refine RepD.row (nilS :: ss) (fun k x => if k = 0 then False else Fs (k - 1) x) (.inr rfl) hj (by simp; omega) (by simp; omega) (by simp [h5]) ?_ ?_ ?_ ?_
    · intro k hk' x hx
      cases k with
      | zero => simp at hx
      | succ k => have := h6 k (by simpa using hk') x (by simpa using hx); exact ⟨.inl this.1, hid x this.1⟩
    · intro k k' x hk' hk2 hx hx'
      cases k with
      | zero => simp at hx
      | succ k =>
        cases k' with
        | zero => simp at hx'
        | succ k' => have := h7 k k' x (by simpa using hk') (by simpa using hk2) (by simpa using hx) (by simpa using hx'); omega
    · intro k t' s' ht hs
      cases k with
      | zero => simp at ht hs; subst ht hs; simp [cutL, Tm.op, Tm.n]
      | succ k =>
        have := h8 k t' s' (by simpa using ht) (by simpa using hs)
        rw [← this]
        simp only [cutL, Nat.add_mul, Nat.one_mul]
        rw [show k * 3 + 3 = [I op, I n, nilS].length + k * 3 by simp; omega, List.drop_append, List.drop_eq_nil_of_le (by omega)]
        simp
    · intro k t' s' ht hs
      cases k with
      | zero => simp at ht hs; subst ht hs; exact .nil
      | succ k =>
        have ht' : ps[k]? = some t' := by simpa using ht
        have := h9 k t' s' ht' (by simpa using hs)
        exact this.mono (fun x o hx ho => hk x o (h6 k (get_lt ht') x (by simpa using hx)).1 ho) (fun x hx => by simpa using hx)
section
variable {E : Env} {ops : Array Oper} {l : List Oper} {Q : Exit → Slots → Store → Prop} {S : Slots} {σ σ₀ : Store} {d : Option Tmp} {ty : TypeId} {pos : String} {af : Array Edge} {x y : Operand}
theorem wc_consTm {t e : TypeId} {bytes : Nat} {z : Value} {G : Nat → Prop} {j : Nat} {u : AV} {ps : List Tm} {op n : Int} (hx : S.ev x = some (.sl j 0 1)) (hy : S.ev y = some u) (ht : Un E.P t (.slice e)) (he : Ty E.P e true 3 bytes z) (hz : z.cells.size = 3) (hb0 : 0 < bytes) (hb : bytes ≤ 4096)
    (hj : Has σ j ⟨.own, 3, [I op, I n, nilS], []⟩) (hu : RepD σ G u ps) (hne : ∀ x, G x → x ≠ j) (hps : ps.length ≤ 100) (hm : E.may j) (hd : okd E d = true)
    (k : ∀ i σ₁ σ', Upd σ j ⟨.dead, 3, [I op, I n, nilS], []⟩ σ₁ → Grow σ₁ σ' → New σ i → RepD σ' (fun x => G x ∨ x = i) (.sl i 0 (Tm.node op n [] :: ps).length) (.node op n [] :: ps) → WL E ops l Q (S.put d (.sl i 0 (1 + ps.length))) σ') :
    WL E ops (⟨d, .call ⟨.builtin .append, #[x, y], #[t, t]⟩, ty, pos, af, none⟩ :: l) Q S σ := by
  have hlim : (1 + ps.length) * bytes ≤ 140737488355328 := by
    have := Nat.mul_le_mul (show 1 + ps.length ≤ 101 by omega) hb
    omega
  have hul := hu.lt
  generalize hs : u = u0 at hu
  cases hu with
  | nil =>
    subst hs
    refine wc_append hx hy ht.eq he hz hb0 hj rfl rfl appends_nil' hm hlim hd fun i σ₁ σ' u1 g1 n1 h1 => ?_
    refine k i σ₁ σ' u1 g1 n1 ?_
    exact (RepD.single (σ := σ') (G := fun _ => False) (t := .node op n []) (u := nilS) .nil (fun x o hx _ => hx.elim) (fun x hx => hx.elim) (by simpa [Tm.op, Tm.n] using h1)).mono (fun _ _ _ h => h) (fun x hx => .inr (by rcases hx with hx | hx; exact hx.elim; exact hx))
  | @row _ id l0 _ ss Fs h1 h2 h3 h4 h5 h6 h7 h8 h9 =>
    subst hs
    have hrow : RepD σ G (.sl id 0 ps.length) ps := .row ss Fs h1 h2 h3 h4 h5 h6 h7 h8 h9
    have hone : ∀ c ∈ l0, c.one = true := by
      intro c hc
      obtain ⟨q, hq, rfl⟩ := List.getElem_of_mem hc
      have hk : q / 3 < ps.length := by omega
      have := h8 (q / 3) ps[q / 3] (ss[q / 3]'(by omega)) (List.getElem?_eq_getElem hk) (List.getElem?_eq_getElem (by omega))
      have hcell : l0[q]? = [I ps[q / 3].op, I ps[q / 3].n, ss[q / 3]'(by omega)][q % 3]? := by
        rw [← this]
        unfold cutL
        rw [List.getElem?_take, if_pos (by omega), List.getElem?_drop]
        congr 1; omega
      rw [List.getElem?_eq_getElem hq] at hcell
      have hso : (ss[q / 3]'(by omega)).one = true := (h9 (q / 3) _ _ (List.getElem?_eq_getElem hk) (List.getElem?_eq_getElem (by omega))).one.eq
      have h3' : q % 3 = 0 ∨ q % 3 = 1 ∨ q % 3 = 2 := by omega
      rcases h3' with e | e | e <;> rw [e] at hcell <;> simp at hcell <;> rw [hcell]
      · rfl
      · rfl
      · exact hso
    have hap : Appends E.P σ 3 ps.length (.sl id 0 ps.length) l0 := Appends.row h2.get (.inr rfl) (by rw [cut_cutL]; unfold cutL; simp [← h3]) h3 hone
    refine wc_append hx hy ht.eq he hz hb0 hj rfl rfl hap hm hlim hd fun i σ₁ σ' u1 g1 n1 h1' => ?_
    have hlen : ∀ x, G x ∧ x < σ.length → x ≠ i := fun x hx e => by have := n1.le; omega
    have R := RepD.cons (σ' := σ') (j := i) (op := op) (n := n) hrow.lt h2 (fun x o hx ho => g1.keep x o (by rw [u1.eq, List.getElem?_set_ne (Ne.symm (hne x hx.1))]; exact ho)) hlen h1' (by omega)
    exact k i σ₁ σ' u1 g1 n1 (R.mono (fun _ _ _ h => h) (fun x hx => hx.imp (fun h => h.1) (fun h => h)))
end
section
variable {base : Nat}
theorem ne_new {σ : Store} {x j : Nat} [n : New σ j] (h : x < σ.length) : x ≠ j := fun e => by have := n.le; omega
def QU (σ : Store) : AV → Store → Prop := fun r σ' => ∃ (t : Tm) (u : AV), r = .agg [I t.op, I t.n, u] ∧ RTsD σ σ' u t.ps
theorem c_l91Term (i : Nat) (s : AV) (g : List UInt8) (p m : Int) (σ : Store) [hi : Has σ i (RdO s p)] [hb : Bk σ i s g] (hm0 : 0 ≤ m) (hm : m ≤ 100) (hp : 0 ≤ p) (hp2 : p ≤ 999990000) : ACall Tryd.prog base F_spec_l91Term [.pt i 0, I m] σ (fun j => j = i) (RetRd σ i s p 1000 (QU σ)) := by
  have := hb.rw.one
  have hi0 := hi.lt
  refine acall2 fun_spec_l91Term rfl tmps_spec_l91Term rfl fun N B w₀ ρ₀ => ?_
  repeat' (first
    | (refine wc_callP rfl inferInstance rfl (c_pick i s g _ _ _ (hb := hb.le inferInstance) (by omega) (by omega)) inferInstance (.inl rfl) rfl ?_; intro _ _ _ _ _ _ _ _ _ _)
    | (refine wc_callRT rfl inferInstance rfl (@c_good _ i s g _ _ _ _ _ inferInstance (hb.le inferInstance) (by omega) (by omega) (by omega) (by omega) (by omega) (by omega)) inferInstance (.inl rfl) rfl ?_; intro _ _ _ _ _ _ _ _ _ _ _ _)
    | (refine wc_storeA rfl rfl inferInstance inferInstance rfl inferInstance (Nat.le_of_ble_eq_true rfl) (.inr (may_newB i σ)) ?_; intro _ _)
    | refine wc_hold 0 ?_
    | refine wp_seqA ?_
    | refine wp_region_seq ?_
    | refine thru_seq_next ?_
    | refine wl_nil ?_
    | refine wl_pop rfl (po_move rfl) ?_
    | refine wl_pop rfl (pc_add rfl rfl (by omega) (by omega)) ?_
    | (refine wc_allocA (cs := [_, _, _]) inferInstance rfl inferInstance rfl ?_; intro _ _ _ _ _)
    | fail)
  rename_i i1 σ1 g1 n1 h1 v1 p1 σ2 σ3 a1 a2 a3 a4 g3 u3 t u p2 σ4 σ5 ho hr hg a5 a6 g5 u5 j σ6 g6 n6 h6 σ7 u7 v2 p3 σ8 σ9 a7 a8 a9 a10 g9 u9
  obtain ⟨hg1, hg2, hg3⟩ := hg
  have y1 := (inferInstance : LeB i σ σ3).len
  have y2 := (inferInstance : LeB i σ σ5).len
  have y3 := n6.le
  have hj1 : σ.length ≤ j := by omega
  have y4 := h1.lt
  have y5 := (inferInstance : LeB i σ1 σ3).len
  have y6 := (inferInstance : LeB i σ3 σ5).len
  have y7 := (inferInstance : LeB i σ5 σ9).len
  have RP : RepD σ9 (fun x => σ3.length ≤ x ∧ x < σ5.length) u t.ps := hr.rep.lt.mono (fun x o hx ho => (inferInstance : LeB i σ5 σ9).keep.keep x o (by omega) ho) (fun x hx => hx)
  have d1 : Dif i1 j := ⟨by omega⟩
  have d2 : Dif i j := ⟨by omega⟩
  have h9 : Has σ9 j ⟨.own, 3 - 2, [I t.op, I t.n, u], []⟩ := (inferInstance : Has σ9 j ⟨.own, 1, splice [I 0, I 0, nilS] 0 [I t.op, I t.n, u], []⟩)
  have hi9 : Has σ9 i (RdO s p3) := inferInstance
  have hi1 : Has σ9 i1 ⟨.own, 1, [I 0, I 0, nilS], []⟩ := (inferInstance : Has σ9 i1 _)
  have hle9 : LeB i σ σ9 := inferInstance
  refine wc_cut (ι := Tm × AV × Int) [(0, .pt i 0), (4, .pt i1 0), (5, .pt j 0)] (fun _ => []) (fun x σ' => p ≤ x.2.2 ∧ x.2.2 ≤ p + 900 ∧ Has σ' i (RdO s x.2.2) ∧ LeB i σ σ' ∧ Has σ' j ⟨.own, 1, [I x.1.op, I x.1.n, x.2.1], []⟩ ∧ One x.2.1 ∧ RTsD σ1 σ' x.2.1 x.1.ps ∧ Has σ' i1 ⟨.own, 1, [I 0, I 0, nilS], []⟩) ?_ ?_
  · have h9' : Has σ9 j ⟨.own, 1, [I t.op, I t.n, u], []⟩ := h9
    have hnj : New σ j := ⟨hj1⟩
    clear h9 u7 h6 h1
    repeat' (first
      | (refine wc_callP rfl inferInstance rfl (c_pick i s g _ _ _ (hb := hb.le inferInstance) (by omega) (by omega)) inferInstance (.inl rfl) rfl ?_; intro _ _ _ _ _ _ _ _ _ _)
      | refine wl_pop rfl (pc_build0 (cs := [I 0, I 0, nilS]) inferInstance inferInstance rfl) ?_
      | (refine wc_oneTm rfl inferInstance inferInstance rfl (by decide) rfl ?_; intro _ _ _ _ _)
      | (refine wc_consTm (G := fun x => σ3.length ≤ x ∧ x < σ5.length) rfl rfl inferInstance inferInstance rfl (by decide) (by decide) inferInstance (RP.mono (fun x o hx ho => (inferInstance : LeB i σ9 _).keep.keep x o (by omega) ho) (fun _ h => h)) (fun x hx => ne_new (σ := σ9) (by omega)) (by omega) (.inr (may_newB i σ)) rfl ?_; intro _ _ _ _ _ _ _)
      | (refine wc_store1 rfl rfl inferInstance inferInstance inferInstance (Nat.le_of_ble_eq_true rfl) (.inr hj1) ?_; intro _ _)
      | refine wp_seqA ?_
      | refine wp_region_seq ?_
      | refine thru_seq_next ?_
      | refine thru_block_next ?_
      | refine wp_skipA ?_
      | refine wp_blockA ?_
      | refine wl_nil ?_
      | refine wl_pop rfl (po_move rfl) ?_
      | refine wl_pop rfl (po_assign rfl) ?_
      | refine wl_pop rfl (pc_add rfl rfl (by omega) (by omega)) ?_
      | refine wl_pop rfl (po_binOp rfl rfl rfl) ?_
      | refine wl_pop rfl (po_fieldAddr rfl inferInstance) ?_
      | refine wc_load1 rfl inferInstance (at_has (.inl rfl) rfl rfl) rfl ?_
      | refine wp_condP rfl (fun _ => ?_) (fun _ => ?_)
      | fail)
    · rename_i hv σ10 u10
      exact ⟨(.node t.op (t.n + 7) t.ps, u, p3), ⟨by dsimp only; omega, by dsimp only; omega, inferInstance, inferInstance, instHasUpd (g := u10), ho, ⟨RP.mono (fun x o hx ho => by rw [u10.eq, List.getElem?_set_ne (by omega)]; exact ho) (fun x hx => by omega)⟩, inferInstance⟩, (by repeat' (first | exact sub_nil | refine sub_cons rfl ?_ | refine sub_int rfl (by first | rfl | omega | (push_cast; omega) | simp) ?_ | refine sub_eq rfl (by assumption) ?_))⟩
    · rename_i hv hv1 v3 p4 σ10 σ11 c1 c2 c3 c4 g11 u11 σ12 u12
      exact ⟨(.node v3 t.n t.ps, u, p4), ⟨by dsimp only; omega, by dsimp only; omega, inferInstance, inferInstance, instHasUpd (g := u12), ho, ⟨RP.mono (fun x o hx ho => by rw [u12.eq, List.getElem?_set_ne (by omega)]; exact (inferInstance : LeB i σ9 σ11).keep.keep x o (by omega) ho) (fun x hx => by omega)⟩, inferInstance⟩, (by repeat' (first | exact sub_nil | refine sub_cons rfl ?_ | refine sub_int rfl (by first | rfl | omega | (push_cast; omega) | simp) ?_ | refine sub_eq rfl (by assumption) ?_))⟩
    · rename_i hv hv1 hv2 jr σ10 g10 n10 h10 k σ11 σ12 u11 g12 n12 R12 σ13 u13
      have el : (Tm.node 0 0 [] :: t.ps).length = 1 + t.ps.length := by rw [List.length_cons, Nat.add_comm]
      rw [el] at R12
      have z1 := n12.le
      have z2 := g10.len
      have z3 := h9'.lt
      exact ⟨(.node t.op t.n (.node 0 0 [] :: t.ps), .sl k 0 (1 + t.ps.length), p3), ⟨by dsimp only; omega, by dsimp only; omega, inferInstance, inferInstance, instHasUpd (g := u13), inferInstance, ⟨R12.mono (fun x o hx ho => by rw [u13.eq, List.getElem?_set_ne (by omega)]; exact ho) (fun x hx => by omega)⟩, inferInstance⟩, (by repeat' (first | exact sub_nil | refine sub_cons rfl ?_ | refine sub_int rfl (by first | rfl | omega | (push_cast; omega) | simp) ?_ | refine sub_eq rfl (by assumption) ?_))⟩
    · exact ⟨(t, u, p3), ⟨by dsimp only; omega, by dsimp only; omega, hi9, hle9, h9', ho, ⟨RP.mono (fun _ _ _ h => h) (fun x hx => by omega)⟩, hi1⟩, (by repeat' (first | exact sub_nil | refine sub_cons rfl ?_ | refine sub_int rfl (by first | rfl | omega | (push_cast; omega) | simp) ?_ | refine sub_eq rfl (by assumption) ?_))⟩
  rintro ⟨t', u', q⟩ σ' ⟨b1, b2, b3, b4, b5, b6, b7, b8⟩
  dsimp only at b1 b2 b3 b5 b6 b7 ⊢
  repeat' (first
    | refine wp_seqA ?_
    | refine wp_region_seq ?_
    | refine thru_seq_next ?_
    | refine wp_retA ?_
    | refine wl_nil ?_
    | refine wc_loadn rfl inferInstance (at_has (cs := [_, _, _]) (.inl rfl) rfl rfl) rfl ?_
    | (refine wc_storeA rfl rfl inferInstance inferInstance rfl inferInstance (Nat.le_of_ble_eq_true rfl) (.inr (may_new _)) ?_; intro _ _)
    | refine at_ret (res_cell rfl rfl inferInstance (at_has (cs := [_, _, _]) (.inl rfl) rfl rfl)) ?_
    | fail)
  rename_i σ11 u11
  exact ⟨⟨q, b1, by omega, inferInstance⟩, inferInstance, t', u', rfl, (inferInstance : RTsD σ1 σ11 u' t'.ps).down g1.len⟩
end
end Go.Proofs.YthbodgnoadlbcaaDoor.Asl

/- The reader: a term with definitions. -/
namespace Go.Proofs.YthbodgnoadlbcaaDoor.Asl
open Go.RowKit
set_option linter.unusedVariables false
set_option linter.unusedSimpArgs false
attribute [local irreducible] WP WL andThen inBlock noGoto atEnd ACall DA DL PO Hold
set_option maxHeartbeats 4000000
section
variable {E : Env} {ops : Array Oper} {l : List Oper} {Q : Exit → Slots → Store → Prop} {S : Slots} {σ : Store} {d : Option Tmp} {ty : TypeId} {pos : String} {af : Array Edge} {x y : Operand}
theorem wc_callTsR {args : Array Operand} {ats : Array TypeId} {f : FuncId} {rs caps : List AV} {i n : Nat} {s : AV} {p K : Int} (hf : S.ev x = some (.fn f caps)) (hc : Callable E.P f) (hargs : evs S args.toList = some rs)
    (h : ACall E.P E.base f (rs ++ caps) σ (fun j => j = i) (RetRd σ i s p K (QTs σ n))) (ho : Has σ i (RdO s p)) (hm : E.may i) (hd : okd E d = true) (k : ∀ (v : AV) (xs : List Tm) (p' : Int) σ₁ σ', One v → xs.length ≤ n → RTsD σ σ' v xs → p ≤ p' → p' ≤ p + K → Grow σ σ₁ → Upd σ₁ i (RdO s p') σ' → WL E ops l Q (S.put d v) σ') :
    WL E ops (⟨d, .call ⟨.value x, args, ats⟩, ty, pos, af, none⟩ :: l) Q S σ :=
  wc_callRd hf hc hargs h ho hm hd fun r p' σ₁ σ' h1 h2 g u hq => by
    obtain ⟨xs, h3, h4⟩ := hq
    exact k r xs p' σ₁ σ' h4.new.rts.one h3 h4 h1 h2 g u
theorem wc_callTU {args : Array Operand} {ats : Array TypeId} {f : FuncId} {rs caps : List AV} {i : Nat} {s : AV} {p K : Int} (hf : S.ev x = some (.fn f caps)) (hc : Callable E.P f) (hargs : evs S args.toList = some rs)
    (h : ACall E.P E.base f (rs ++ caps) σ (fun j => j = i) (RetRd σ i s p K (QU σ))) (ho : Has σ i (RdO s p)) (hm : E.may i) (hd : okd E d = true) (k : ∀ (t : Tm) (u : AV) (p' : Int) σ₁ σ', One u → RTsD σ σ' u t.ps → p ≤ p' → p' ≤ p + K → Grow σ σ₁ → Upd σ₁ i (RdO s p') σ' → WL E ops l Q (S.put d (.agg [I t.op, I t.n, u])) σ') :
    WL E ops (⟨d, .call ⟨.value x, args, ats⟩, ty, pos, af, none⟩ :: l) Q S σ :=
  wc_callRd hf hc hargs h ho hm hd fun r p' σ₁ σ' h1 h2 g u hq => by
    obtain ⟨t, v, rfl, h3⟩ := hq
    exact k t v p' σ₁ σ' h3.new.rts.one h3 h1 h2 g u
end
theorem rts_le {i : Nat} {σ σ' : Store} {F : Nat → Prop} {v : AV} {xs : List Tm} (h : RepD σ F v xs) (hF : ∀ x, F x → x ≠ i) (l : LeB i σ σ') : RTs σ' v xs :=
  ⟨(h.mono (fun x o hx ho => l.keep.keep x o (hF x hx) ho) (fun _ h => h)).rep.mono (fun _ _ _ h => h) (fun _ _ => trivial)⟩
section
variable {base : Nat}
/-- A term and definitions that are drawn. -/
def QC (σ : Store) : AV → Store → Prop := fun r σ' => ∃ (t : Tm) (u v : AV) (xs : List Tm), r = .tup [.agg [I t.op, I t.n, u], v] ∧ RTsD σ σ' u t.ps ∧ RTsD σ σ' v xs ∧ xs.length ≤ 3
theorem c_l91Called (i : Nat) (s : AV) (g : List UInt8) (p : Int) (σ : Store) [hi : Has σ i (RdO s p)] [hb : Bk σ i s g] (hp : 0 ≤ p) (hp2 : p ≤ 999900000) : ACall Tryd.prog base F_spec_l91Called [.pt i 0] σ (fun j => j = i) (RetRd σ i s p 4000 (QC σ)) := by
  have := hb.rw.one
  have hi0 := hi.lt
  refine acall1 fun_spec_l91Called rfl tmps_spec_l91Called rfl fun N B w₀ ρ₀ => ?_
  repeat' (first
    | (refine wc_callTsR rfl inferInstance rfl (c_l91Defs i s g _ _ (hb := hb.le inferInstance) (by omega) (by omega)) inferInstance (.inl rfl) rfl ?_; intro _ _ _ _ _ _ _ _ _ _ _ _)
    | (refine wc_callTU rfl inferInstance rfl (c_l91Term i s g _ _ _ (hb := hb.le inferInstance) (by omega) (by omega) (by omega) (by omega)) inferInstance (.inl rfl) rfl ?_; intro _ _ _ _ _ _ _ _ _ _ _)
    | (refine wc_storeA rfl rfl inferInstance inferInstance rfl inferInstance (Nat.le_of_ble_eq_true rfl) (.inr (may_newB i σ)) ?_; intro _ _)
    | refine wc_holdR 3 ?_
    | refine wp_seqA ?_
    | refine wp_region_seq ?_
    | refine thru_seq_next ?_
    | refine wl_nil ?_
    | refine wl_pop rfl (po_move rfl) ?_
    | refine wl_pop rfl (po_assign rfl) ?_
    | (refine wc_allocA (cs := [_, _, _]) inferInstance rfl inferInstance rfl ?_; intro _ _ _ _ _)
    | refine wl_pop rfl (pc_lenT rfl inferInstance inferInstance) ?_
    | fail)
  rename_i i1 σ1 g1 n1 h1 v xs p1 σ2 σ3 hv hxs rv a1 a2 g3 u3 t u p2 σ4 σ5 hu ru a3 a4 g5 u5 j σ6 g6 n6 h6 σ7 u7
  have y0 := (inferInstance : LeB i σ σ1).len
  have y1 := h1.lt
  have y2 := (inferInstance : LeB i σ1 σ3).len
  have y3 := (inferInstance : LeB i σ3 σ5).len
  have y4 := n6.le
  have hj1 : σ.length ≤ j := by omega
  have hnj : New σ j := ⟨hj1⟩
  have d1 : Dif i1 j := ⟨by omega⟩
  have d2 : Dif i j := ⟨by omega⟩
  have RV : RepD σ7 (fun x => σ1.length ≤ x ∧ x < σ3.length) v xs := rv.rep.lt.mono (fun x o hx ho => (inferInstance : LeB i σ3 σ7).keep.keep x o (by omega) ho) (fun x hx => hx)
  have RU : RepD σ7 (fun x => σ3.length ≤ x ∧ x < σ5.length) u t.ps := ru.rep.lt.mono (fun x o hx ho => (inferInstance : LeB i σ5 σ7).keep.keep x o (by omega) ho) (fun x hx => hx)
  have h7 : Has σ7 j ⟨.own, 1, [I t.op, I t.n, u], []⟩ := (inferInstance : Has σ7 j ⟨.own, 1, splice [I 0, I 0, nilS] 0 [I t.op, I t.n, u], []⟩)
  have hi7 : Has σ7 i (RdO s p2) := inferInstance
  have hi1 : Has σ7 i1 ⟨.own, 1, [I 0, I 0, nilS], []⟩ := (inferInstance : Has σ7 i1 _)
  have hle7 : LeB i σ σ7 := inferInstance
  have hRTs : RTs σ7 v xs := ⟨RV.rep.mono (fun _ _ _ h => h) (fun _ _ => trivial)⟩
  clear u7 h6
  refine hold_go ?_
  repeat' (first
    | (refine wc_callP rfl inferInstance rfl (c_pick i s g _ _ _ (hb := hb.le inferInstance) (by omega) (by omega)) inferInstance (.inl rfl) rfl ?_; intro _ _ _ _ _ _ _ _ _ _)
    | refine wl_pop rfl (pc_lenT rfl (rts_le (i := i) RV (fun x hx => by omega) inferInstance) inferInstance) ?_
    | refine wl_pop rfl (pc_tm2 rfl rfl inferInstance inferInstance rfl) ?_
    | refine wp_seqA ?_
    | refine wp_region_seq ?_
    | refine thru_seq_next ?_
    | refine wp_skipA ?_
    | refine wp_retA ?_
    | refine wl_nil ?_
    | refine wl_pop rfl (po_move rfl) ?_
    | refine wl_pop rfl (po_assign rfl) ?_
    | refine wl_pop rfl (po_binOp rfl rfl rfl) ?_
    | refine wc_loadn rfl inferInstance (at_has (cs := [_, _, _]) (.inl rfl) rfl rfl) rfl ?_
    | (refine wc_storeA rfl rfl inferInstance inferInstance rfl inferInstance (Nat.le_of_ble_eq_true rfl) (.inr (may_new _)) ?_; intro _ _)
    | refine wl_pop rfl (po_pick rfl rfl) ?_
    | refine wc_guardT_true rfl rfl rfl ?_
    | refine wc_guardF_true rfl rfl rfl rfl ?_
    | refine wc_guardP_true rfl rfl rfl rfl (fun _ => ?_) (fun _ => ?_)
    | refine wp_condF rfl ?_
    | refine wp_condP rfl (fun _ => ?_) (fun _ => ?_)
    | refine at_ret (res_cell2 rfl rfl inferInstance (at_has (cs := [_, _, _]) (.inl rfl) rfl rfl) rfl) ?_
    | fail)
  · rename_i hx v3 p3 σ8 σ9 c1 c2 c3 c4 g9 u9 hz v4 p4 σ10 σ11 c5 c6 c7 c8 g11 u11 σ12 u12 σ13 u13
    exact ⟨⟨p4, by omega, by omega, inferInstance⟩, inferInstance, .node 5 v4 [], nilS, v, xs, rfl, ⟨.nil⟩, ⟨RV.mono (fun x o hx ho => by rw [u13.eq, List.getElem?_set_ne (by omega), u12.eq, List.getElem?_set_ne (by omega)]; exact (inferInstance : LeB i σ7 σ11).keep.keep x o (by omega) ho) (fun x hx => by omega)⟩, hxs⟩
  · rename_i hx v3 p3 σ8 σ9 c1 c2 c3 c4 g9 u9 hz σ10 u10
    exact ⟨⟨p3, by omega, by omega, inferInstance⟩, inferInstance, t, u, v, xs, rfl, ⟨RU.mono (fun x o hx ho => by rw [u10.eq, List.getElem?_set_ne (by omega)]; exact (inferInstance : LeB i σ7 σ9).keep.keep x o (by omega) ho) (fun x hx => by omega)⟩, ⟨RV.mono (fun x o hx ho => by rw [u10.eq, List.getElem?_set_ne (by omega)]; exact (inferInstance : LeB i σ7 σ9).keep.keep x o (by omega) ho) (fun x hx => by omega)⟩, hxs⟩
  · rename_i hx σ8 u8
    exact ⟨⟨p2, by omega, by omega, inferInstance⟩, inferInstance, t, u, v, xs, rfl, ⟨RU.mono (fun x o hx ho => by rw [u8.eq, List.getElem?_set_ne (by omega)]; exact ho) (fun x hx => by omega)⟩, ⟨RV.mono (fun x o hx ho => by rw [u8.eq, List.getElem?_set_ne (by omega)]; exact ho) (fun x hx => by omega)⟩, hxs⟩
theorem wc_callOpen {E : Env} {ops : Array Oper} {l : List Oper} {Q : Exit → Slots → Store → Prop} {S : Slots} {σ : Store} {d : Option Tmp} {ty : TypeId} {pos : String} {af : Array Edge} {x : Operand} {args : Array Operand} {ats : Array TypeId} {f : FuncId} {rs caps : List AV} (hf : S.ev x = some (.fn f caps)) (hc : Callable E.P f) (hargs : evs S args.toList = some rs)
    (h : ACall E.P E.base f (rs ++ caps) σ (fun _ => False) (RetOpen σ)) (hd : okd E d = true) (k : ∀ i s g σ', Grow σ σ' → New σ i → Has σ' i (RdO s 0) → Bk σ' i s g → WL E ops l Q (S.put d (.pt i 0)) σ') :
    WL E ops (⟨d, .call ⟨.value x, args, ats⟩, ty, pos, af, none⟩ :: l) Q S σ :=
  wc_call hf hc hargs h hd fun r' σ' h => by obtain ⟨i, s, e, h1, h2, ⟨g, h3⟩, h4⟩ := h; subst e; exact k i s g σ' h4 h1 h2 h3
theorem wc_callC {E : Env} {ops : Array Oper} {l : List Oper} {Q : Exit → Slots → Store → Prop} {S : Slots} {σ : Store} {d : Option Tmp} {ty : TypeId} {pos : String} {af : Array Edge} {x : Operand} {args : Array Operand} {ats : Array TypeId} {f : FuncId} {rs caps : List AV} {i : Nat} {s : AV} {p K : Int} (hf : S.ev x = some (.fn f caps)) (hc : Callable E.P f) (hargs : evs S args.toList = some rs)
    (h : ACall E.P E.base f (rs ++ caps) σ (fun j => j = i) (RetRd σ i s p K (QC σ))) (ho : Has σ i (RdO s p)) (hm : E.may i) (hd : okd E d = true) (k : ∀ (t : Tm) (u v : AV) (xs : List Tm) (p' : Int) σ₁ σ', One u → One v → RTsD σ σ' u t.ps → RTsD σ σ' v xs → xs.length ≤ 3 → p ≤ p' → p' ≤ p + K → Grow σ σ₁ → Upd σ₁ i (RdO s p') σ' → WL E ops l Q (S.put d (.tup [.agg [I t.op, I t.n, u], v])) σ') :
    WL E ops (⟨d, .call ⟨.value x, args, ats⟩, ty, pos, af, none⟩ :: l) Q S σ :=
  wc_callRd hf hc hargs h ho hm hd fun r p' σ₁ σ' h1 h2 g u hq => by
    obtain ⟨t, v, w, xs, rfl, h3, h4, h5⟩ := hq
    exact k t v w xs p' σ₁ σ' h3.new.rts.one h4.new.rts.one h3 h4 h5 h1 h2 g u
end
end Go.Proofs.YthbodgnoadlbcaaDoor.Asl
