/- Strings by their bytes: more rules. -/
import Derived.Test.YthbodgnoadlbcaaDoorK0
namespace Go.Proofs.YthbodgnoadlbcaaDoor.Asl
open Go.RowKit Go.Proofs.YthbodgnoadlbcaaDoorW.PrintLast
set_option linter.unusedVariables false
set_option linter.unusedSimpArgs false
theorem ofL_extract (l : List UInt8) (a b : Nat) (hb : b ≤ l.length) : (ofL l).extract a b = ofL ((l.take b).drop a) := by
  apply ByteArray.ext
  rw [ByteArray.data_extract]
  apply Array.ext'
  rw [Array.toList_extract]
  simp only [ofL, List.extract_eq_take_drop, List.drop_take]
theorem ofL_get (l : List UInt8) (i : Nat) (h : i < (ofL l).size) : (ofL l)[i]'h = l.getD i 0 := by
  have h' : i < l.length := by rwa [ofL_size] at h
  simp [ofL, List.getD_eq_getElem?_getD, h']
  rfl
theorem ofL_beqL (a b : List UInt8) : ((ofL a).toList == (ofL b).toList) = decide (a = b) := by
  rw [ByteArray.toList_eq, ByteArray.toList_eq, Bool.eq_iff_iff]
  simp only [beq_iff_eq, decide_eq_true_eq]
section
variable {E : Env} {ops : Array Oper} {L : List Oper} {Q : Exit → Slots → Store → Prop} {S : Slots} {σ σ₀ : Store} {d : Option Tmp} {ty : TypeId} {pos : String} {af : Array Edge} {g : Option (Nat × Bool)} {x y : Operand} {t : TypeId} {n0 : Nat}
theorem pc_lNe {xt yt : TypeId} {a b : List UInt8} (hx : S.ev x = some (Str (ofL a))) (hy : S.ev y = some (Str (ofL b))) : PO E S σ n0 ⟨d, .binOp .neq xt x y yt, ty, pos, af, g⟩ (Bo (!decide (a = b))) := by
  have := po_binOp (E := E) (σ := σ) (n0 := n0) (d := d) (ty := ty) (pos := pos) (af := af) (g := g) (op := .neq) (xt := xt) (yt := yt) hx hy rfl
  rwa [ofL_beqL] at this
theorem pc_lEq {xt yt : TypeId} {a b : List UInt8} (hx : S.ev x = some (Str (ofL a))) (hy : S.ev y = some (Str (ofL b))) : PO E S σ n0 ⟨d, .binOp .eql xt x y yt, ty, pos, af, g⟩ (Bo (decide (a = b))) := by
  have := po_binOp (E := E) (σ := σ) (n0 := n0) (d := d) (ty := ty) (pos := pos) (af := af) (g := g) (op := .eql) (xt := xt) (yt := yt) hx hy rfl
  rwa [ofL_beqL] at this
theorem pc_lLen {l : List UInt8} (hx : S.ev x = some (Str (ofL l))) (ht : Un E.P t .string) : PO E S σ n0 ⟨d, .call ⟨.builtin .len, #[x], #[t]⟩, ty, pos, af, g⟩ (I l.length) := by
  have := po_len_str (E := E) (σ := σ) (n0 := n0) (d := d) (ty := ty) (pos := pos) (af := af) (g := g) hx ht.eq
  rwa [ofL_size] at this
/-- A string up to a place. -/
theorem pc_lTo {l : List UInt8} {hi : Operand} {b : Int} (hx : S.ev x = some (Str (ofL l))) (ht : Un E.P t .string) (hhi : S.ev hi = some (I b)) (h0 : 0 ≤ b) (hb : b.toNat ≤ l.length) :
    PO E S σ n0 ⟨d, .slice t x none (some hi) none, ty, pos, af, g⟩ (Str (ofL (l.take b.toNat))) := by
  have := po_slice_str (E := E) (σ := σ) (n0 := n0) (d := d) (ty := ty) (pos := pos) (af := af) (g := g) (lo := none) (hi := some hi) (a := 0) (b := b.toNat) hx ht.eq rfl (by simp only; rw [hhi]; congr 3; omega) (by omega) (by rw [ofL_size]; omega)
  rwa [ofL_extract _ _ _ hb, List.drop_zero] at this
/-- A string from a place on. -/
theorem pc_lFrom {l : List UInt8} {lo : Operand} {a : Int} (hx : S.ev x = some (Str (ofL l))) (ht : Un E.P t .string) (hlo : S.ev lo = some (I a)) (h0 : 0 ≤ a) (ha : a.toNat ≤ l.length) :
    PO E S σ n0 ⟨d, .slice t x (some lo) none none, ty, pos, af, g⟩ (Str (ofL (l.drop a.toNat))) := by
  have := po_slice_str (E := E) (σ := σ) (n0 := n0) (d := d) (ty := ty) (pos := pos) (af := af) (g := g) (lo := some lo) (hi := none) (a := a.toNat) (b := l.length) hx ht.eq (by simp only; rw [hlo]; congr 3; omega) (ofL_size l).symm (by omega) (by rw [ofL_size]; omega)
  rwa [ofL_extract _ _ _ (Nat.le_refl _), List.take_length] at this
/-- A byte of a string. -/
theorem pc_lAt {l : List UInt8} {i : Int} (hx : S.ev x = some (Str (ofL l))) (hy : S.ev y = some (I i)) (ht : Un E.P t .string) (h0 : 0 ≤ i) (h1 : i.toNat < l.length) :
    PO E S σ n0 ⟨d, .index t x y, ty, pos, af, g⟩ (.lit (.int .u8 ((l.getD i.toNat 0).toNat : Int))) := by
  have h2 : i.toNat < (ofL l).size := by rwa [ofL_size]
  have := po_index_str (E := E) (σ := σ) (n0 := n0) (d := d) (ty := ty) (pos := pos) (af := af) (g := g) hx hy ht.eq h0 h2
  rwa [ofL_get] at this
end
end Go.Proofs.YthbodgnoadlbcaaDoor.Asl
