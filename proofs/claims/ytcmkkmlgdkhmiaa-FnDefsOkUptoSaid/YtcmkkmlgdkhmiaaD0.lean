/- The reader of a law's bytes: rules. -/
import Derived.Test.YtcmkkmlgdkhmiaaTA
import Derived.Test.YtcmkkmlgdkhmiaaG1
namespace Go.Proofs.Ytcmkkmlgdkhmiaa.Asl
open Go.RowKit
set_option linter.unusedVariables false
set_option linter.unusedSimpArgs false
instance encU8 : Enc UInt8 := ⟨1, fun b => [.lit (.int .u8 (b.toNat : Int))], 0, by decide, fun _ => rfl⟩

section
variable {E : Env} {ops : Array Oper} {l : List Oper} {Q : Exit → Slots → Store → Prop} {S : Slots} {σ σ₀ : Store} {d : Option Tmp} {ty : TypeId} {pos : String} {af : Array Edge} {gg : Option (Nat × Bool)} {x y : Operand} {t : TypeId} {bytes : Nat} {z : Value} {s : AV} {k i : Nat} {n0 : Nat}
theorem pc_ldU8 {l : List UInt8} (hx : S.ev x = some (.pt s.id (s.off + k * 1))) (ht : Ty E.P t false 1 bytes z) (h : RW σ₀ s l) (hk : k < l.length) (hl : LeS σ₀ σ) : PO E S σ σ₀.length ⟨d, .load t x, ty, pos, af, gg⟩ (.lit (.int .u8 ((l.getD k 0).toNat : Int))) :=
  pc_load1L hx ht (at_row h hk) hl
theorem pc_convU8 {s t : TypeId} {n : Nat} (hx : S.ev x = some (.lit (.int .u8 (n : Int)))) (hs : Un E.P s (.int .u8)) (ht : Un E.P t (.int .i64)) (hn : n < 4294967296) : PO E S σ n0 ⟨d, .convert s t x, ty, pos, af, gg⟩ (I (n : Int)) := by
  have := po_convInt (E := E) (σ := σ) (n0 := n0) (d := d) (ty := ty) (pos := pos) (af := af) (g := gg) hx hs.eq ht.eq
  rwa [wrap64 (by omega) (by omega)] at this
theorem pc_remN {xt yt : TypeId} {a b : Int} (hx : S.ev x = some (I a)) (hy : S.ev y = some (I b)) (ha : 0 ≤ a) (hb : 0 < b) : PO E S σ n0 ⟨d, .binOp .rem xt x y yt, ty, pos, af, gg⟩ (I (a % b)) := by
  have := po_rem (E := E) (σ := σ) (n0 := n0) (d := d) (ty := ty) (pos := pos) (af := af) (g := gg) (xt := xt) (yt := yt) hx hy (by omega)
  rwa [Int.tmod_eq_emod_of_nonneg ha] at this
theorem pc_quoN {xt yt : TypeId} {a b : Int} (hx : S.ev x = some (I a)) (hy : S.ev y = some (I b)) (ha : 0 ≤ a) (ha2 : a ≤ 9223372036854775807) (hb : 0 < b) : PO E S σ n0 ⟨d, .binOp .quo xt x y yt, ty, pos, af, gg⟩ (I (a / b)) := by
  have := po_quo (E := E) (σ := σ) (n0 := n0) (d := d) (ty := ty) (pos := pos) (af := af) (g := gg) (xt := xt) (yt := yt) hx hy (by omega)
  have h0 := Int.ediv_nonneg ha (Int.le_of_lt hb)
  have h1 := Int.ediv_le_self b ha
  rwa [Int.tdiv_eq_ediv_of_nonneg ha, wrap64 (by omega) (by omega)] at this
theorem xor_lt {a b : Int} (ha : 0 ≤ a) (ha2 : a < 1099511627776) (hb : 0 ≤ b) (hb2 : b < 1099511627776) : bits .xor .i64 a b = ((a.toNat ^^^ b.toNat : Nat) : Int) ∧ ((a.toNat ^^^ b.toNat : Nat) : Int) < 1099511627776 := by
  have h1 : a.toNat ^^^ b.toNat < 2 ^ 40 := Nat.xor_lt_two_pow (by omega) (by omega)
  have e : ∀ c : Int, 0 ≤ c → c < 1099511627776 → (BitVec.ofInt IntKind.i64.bits c).toNat = c.toNat := fun c h0 h1 => by
    rw [BitVec.toNat_ofInt]
    have : ((2 ^ IntKind.i64.bits : Nat) : Int) = 18446744073709551616 := by decide
    rw [this, Int.emod_eq_of_lt h0 (by omega)]
  refine ⟨?_, by omega⟩
  unfold bits
  simp only [BitVec.toNat_xor, e a ha ha2, e b hb hb2]
  exact wrap64 (by omega) (by omega)
theorem pc_xorN {xt yt : TypeId} {a b : Int} (hx : S.ev x = some (I a)) (hy : S.ev y = some (I b)) (ha : 0 ≤ a) (ha2 : a < 1099511627776) (hb : 0 ≤ b) (hb2 : b < 1099511627776) : PO E S σ n0 ⟨d, .binOp .xor xt x y yt, ty, pos, af, gg⟩ (I ((a.toNat ^^^ b.toNat : Nat) : Int)) := by
  have := po_binOp (E := E) (σ := σ) (n0 := n0) (d := d) (ty := ty) (pos := pos) (af := af) (g := gg) (op := .xor) (xt := xt) (yt := yt) (z := .int .i64 (bits .xor .i64 a b)) hx hy rfl
  rwa [(xor_lt ha ha2 hb hb2).1] at this
end
/-- All objects but one are kept. -/
class LeB (i : Nat) (σ₀ σ : Store) : Prop where
  keep : LeX i σ₀ σ
  len : σ₀.length ≤ σ.length
instance instLeBRefl {i : Nat} {σ : Store} : LeB i σ σ := ⟨LeX.refl i σ, Nat.le_refl _⟩
instance instLeBGrow {i : Nat} {σ₀ σ σ' : Store} [g : Grow σ σ'] [h : LeB i σ₀ σ] : LeB i σ₀ σ' := ⟨h.keep.grow g, Nat.le_trans h.len g.len⟩
instance instLeBUpd {i : Nat} {σ₀ σ σ' : Store} {o : Ob} [g : Upd σ i o σ'] [h : LeB i σ₀ σ] : LeB i σ₀ σ' := ⟨h.keep.upd g, by have := g.len; have := h.len; omega⟩
instance instLeBUpdNew {i j : Nat} {σ₀ σa σ σ' : Store} {o : Ob} [g : Upd σ j o σ'] [n : New σa j] [k : LeB i σ₀ σa] [h : LeB i σ₀ σ] : LeB i σ₀ σ' :=
  ⟨h.keep.updNew g (Nat.le_trans k.len n.le), by have := g.len; have := h.len; omega⟩
/-- A row of bytes that is not the object. -/
class Bk (σ : Store) (i : Nat) (s : AV) (g : outParam (List UInt8)) : Prop where
  rw : RW σ s g
  ne : (∃ off n, s = .sl s.id off n) → s.id ≠ i
theorem Bk.le {σ₀ σ : Store} {i : Nat} {s : AV} {g : List UInt8} (h : Bk σ₀ i s g) (l : LeB i σ₀ σ) : Bk σ i s g :=
  ⟨h.rw.mono fun o hs ho => l.keep.keep _ o (h.ne hs) ho, h.ne⟩
/-- The reader's object. -/
abbrev RdO (s : AV) (p : Int) : Ob := ⟨.own, 1, [s, I p], []⟩
def RetRd (σ : Store) (i : Nat) (s : AV) (p K : Int) (Qr : AV → Store → Prop) : AV → Store → Prop := fun r σ' => (∃ p', p ≤ p' ∧ p' ≤ p + K ∧ Has σ' i (RdO s p')) ∧ LeB i σ σ' ∧ Qr r σ'
def QP (lo hi : Int) : AV → Store → Prop := fun r _ => ∃ v, r = I v ∧ lo ≤ v ∧ (v ≤ hi ∨ v = 0)
section
variable {E : Env} {ops : Array Oper} {l : List Oper} {Q : Exit → Slots → Store → Prop} {S : Slots} {σ : Store} {d : Option Tmp} {ty : TypeId} {pos : String} {af : Array Edge} {x y : Operand}
theorem wc_callRd {args : Array Operand} {ats : Array TypeId} {f : FuncId} {rs caps : List AV} {i : Nat} {s : AV} {p K : Int} {Qr : AV → Store → Prop} (hf : S.ev x = some (.fn f caps)) (hc : Callable E.P f) (hargs : evs S args.toList = some rs)
    (h : ACall E.P E.base f (rs ++ caps) σ (fun j => j = i) (RetRd σ i s p K Qr)) (ho : Has σ i (RdO s p)) (hm : E.may i) (hd : okd E d = true) (k : ∀ r p' σ₁ σ', p ≤ p' → p' ≤ p + K → Grow σ σ₁ → Upd σ₁ i (RdO s p') σ' → Qr r σ' → WL E ops l Q (S.put d r) σ') :
    WL E ops (⟨d, .call ⟨.value x, args, ats⟩, ty, pos, af, none⟩ :: l) Q S σ :=
  wl_call hf hc hargs h (fun j hj => by subst hj; exact ⟨hm, _, ho.get, .inl rfl⟩) hd fun r' σ' hK => by
    obtain ⟨⟨p', h1, h2, h3⟩, h4, h5⟩ := hK
    obtain ⟨σ₁, g1, u1⟩ := h4.keep.split ho h3
    exact k r' p' σ₁ σ' h1 h2 g1 u1 h5
theorem wc_callP {args : Array Operand} {ats : Array TypeId} {f : FuncId} {rs caps : List AV} {i : Nat} {s : AV} {p K lo hi : Int} (hf : S.ev x = some (.fn f caps)) (hc : Callable E.P f) (hargs : evs S args.toList = some rs)
    (h : ACall E.P E.base f (rs ++ caps) σ (fun j => j = i) (RetRd σ i s p K (QP lo hi))) (ho : Has σ i (RdO s p)) (hm : E.may i) (hd : okd E d = true) (k : ∀ (v p' : Int) σ₁ σ', p ≤ p' → p' ≤ p + K → lo ≤ v → (v ≤ hi ∨ v = 0) → Grow σ σ₁ → Upd σ₁ i (RdO s p') σ' → WL E ops l Q (S.put d (I v)) σ') :
    WL E ops (⟨d, .call ⟨.value x, args, ats⟩, ty, pos, af, none⟩ :: l) Q S σ :=
  wc_callRd hf hc hargs h ho hm hd fun r p' σ₁ σ' h1 h2 g u hq => by
    obtain ⟨v, rfl, h3, h4⟩ := hq
    exact k v p' σ₁ σ' h1 h2 h3 h4 g u
end
end Go.Proofs.Ytcmkkmlgdkhmiaa.Asl
