/- Strings of bytes: rules. -/
import Derived.Test.YthbodgnoadlbcaaDoorGG
import Derived.Test.YthbodgnoadlbcaaDoorDD
namespace Go.Proofs.YthbodgnoadlbcaaDoor.Asl
open Go.RowKit Go.Proofs.YthbodgnoadlbcaaDoorW.PrintLast
set_option linter.unusedVariables false
set_option linter.unusedSimpArgs false
/-- A string out of its bytes. -/
abbrev ofL (l : List UInt8) : ByteArray := ⟨l.toArray⟩
theorem ofL_append (a b : List UInt8) : ofL a ++ ofL b = ofL (a ++ b) := by
  apply ByteArray.ext
  simp [ofL]
theorem ofL_size (a : List UInt8) : (ofL a).size = a.length := by simp [ofL, ByteArray.size]
section
variable {E : Env} {ops : Array Oper} {L : List Oper} {Q : Exit → Slots → Store → Prop} {S : Slots} {σ σ₀ : Store} {d : Option Tmp} {ty : TypeId} {pos : String} {af : Array Edge} {g : Option (Nat × Bool)} {x y : Operand} {t : TypeId} {n0 : Nat}
theorem po_convByte {s t e : TypeId} {id off : Nat} {o : Ob} {n : Int} (hx : S.ev x = some (.sl id off 1)) (hs : E.P.underlying s = some (.slice e)) (he : E.P.underlying e = some (.int .u8)) (ht : E.P.underlying t = some .string) (ho : σ[id]? = some o) (hl : o.readable) (hc : o.cells[off]? = some (.lit (.int .u8 n))) (hn0 : id < n0) :
    PO E S σ n0 ⟨d, .convert s t x, ty, pos, af, g⟩ (Str (ofL [UInt8.ofNat n.toNat])) := by
  intro a w ρ W0 hw hag hn
  have h1 := hw.ev hx
  generalize hv : a.eval x = v at h1
  cases h1 with
  | @sl _ _ _ cap p hp hle hroom =>
    obtain ⟨_, u, hu, hr⟩ := hw.sim.cell ho hp hl hc
    have hu1 := R_lit hr
    subst hu1
    refine ⟨_, .lit _, fun w' hw' => ?_⟩
    have hlt := hn _ _ hp hn0
    have hu' : w'.cell? ⟨p.blk, p.off + off, none⟩ = some (.int .u8 n) := by rw [hw'.cell hlt, ← hag.cell hlt]; exact hu
    have hload := run_loadCellsFrom (P := E.P) (w := w') (b := p.blk) (o := p.off + off) 1 0 #[] [.int .u8 n] rfl (fun j u hj => by
      have : j = 0 := by
        rcases Nat.lt_or_ge j 1 with h | h
        · omega
        · rw [List.getElem?_eq_none (by simpa using h)] at hj; cases hj
      subst this
      simp at hj; subst hj
      simpa using hu')
    simp only [execOp, hv, convert, underlying, Sem.run_bind, run_program, Result.andThen_ok, hs, ht, he, Sem.run_pure, Conv.bytesToString, loadCells, hload]
    simp [ofL]
    rfl
theorem pc_convByte {s t e : TypeId} {id : Nat} {n : Int} (hx : S.ev x = some (.sl id 0 1)) (hs : Un E.P s (.slice e)) (he : Un E.P e (.int .u8)) (ht : Un E.P t .string) (ha : At σ id 0 1 [.lit (.int .u8 n)]) (hn0 : id < n0) :
    PO E S σ n0 ⟨d, .convert s t x, ty, pos, af, g⟩ (Str (ofL [UInt8.ofNat n.toNat])) := by
  obtain ⟨o, h1, h2, h3, _⟩ := ha.get
  refine po_convByte hx hs.eq he.eq ht.eq h1 h2 ?_ hn0
  unfold cut at h3
  have : ((o.cells.drop 0).take 1)[0]? = some (.lit (.int .u8 n)) := by rw [h3]; rfl
  rw [List.getElem?_take] at this
  simpa using this
theorem pc_toByte {s t : TypeId} {n : Int} (hx : S.ev x = some (I n)) (hs : Un E.P s (.int .i64)) (ht : Un E.P t (.int .u8)) (h0 : 0 ≤ n) (h1 : n < 256) : PO E S σ n0 ⟨d, .convert s t x, ty, pos, af, g⟩ (.lit (.int .u8 n)) := by
  have := po_convInt (E := E) (σ := σ) (n0 := n0) (d := d) (ty := ty) (pos := pos) (af := af) (g := g) hx hs.eq ht.eq
  have e : IntKind.u8.wrap n = n := by
    have hb : IntKind.u8.bits = 8 := rfl
    have hsg : IntKind.u8.signed = false := rfl
    simp only [IntKind.wrap, hb, hsg, Bool.false_and]
    have e1 : (2 : Int) ^ 8 = 256 := by decide
    rw [e1, Int.emod_eq_of_lt h0 h1]
    simp
  rwa [e] at this
theorem wc_oneU8 {t e : TypeId} {bytes : Nat} {z : Value} {n : Int} (hx : S.ev x = some (.lit (.int .u8 n))) (ht : Un E.P t (.slice e)) (he : Ty E.P e false 1 bytes z) (hz : z.cells.size = 1) (hz1 : ∀ v ∈ z.cells.toList, v.oneCell' = true) (hd : okd E d = true)
    (k : ∀ i σ', Grow σ σ' → New σ i → Has σ' i ⟨.own, 1, [.lit (.int .u8 n)], []⟩ → WL E ops L Q (S.put d (.sl i 0 1)) σ') : WL E ops (⟨d, .buildSlice t 1 #[(0, x)], ty, pos, af, none⟩ :: L) Q S σ := by
  refine wc_buildSlice (rs := [(0, .lit (.int .u8 n))]) (cs := [.lit (.int .u8 n)]) ht.eq he hz hz1 (by decide) (by simp [evParts, hx]) ?_ ?_ hd k
  · intro r hr
    simp only [List.mem_cons, List.not_mem_nil, or_false] at hr
    subst hr
    exact ⟨rfl, by simp, by simp [AV.cells, AV.one]⟩
  · simp only [fillA, AV.cells]; rfl
theorem pc_cat {xt yt : TypeId} {a b : List UInt8} (hx : S.ev x = some (Str (ofL a))) (hy : S.ev y = some (Str (ofL b))) (hb : a.length + b.length ≤ 9223372036854775807) :
    PO E S σ n0 ⟨d, .binOp .add xt x y yt, ty, pos, af, g⟩ (Str (ofL (a ++ b))) := by
  have := po_concat (E := E) (σ := σ) (n0 := n0) (d := d) (ty := ty) (pos := pos) (af := af) (g := g) (xt := xt) (yt := yt) hx hy (by rw [ofL_size, ofL_size]; exact hb)
  rwa [ofL_append] at this
theorem pc_sliceStrZ {t : TypeId} {s : ByteArray} {lo hi : Operand} {a b : Int} (hx : S.ev x = some (Str s)) (ht : Un E.P t .string) (hlo : S.ev lo = some (I a)) (hhi : S.ev hi = some (I b)) (h0 : 0 ≤ a) (hab : a ≤ b) (hb : b ≤ s.size) :
    PO E S σ n0 ⟨d, .slice t x (some lo) (some hi) none, ty, pos, af, g⟩ (Str (s.extract a.toNat b.toNat)) :=
  po_slice_str (lo := some lo) (hi := some hi) (a := a.toNat) (b := b.toNat) hx ht.eq (by simp only; rw [hlo]; congr 3; omega) (by simp only; rw [hhi]; congr 3; omega) (by omega) (by omega)
/-- A string of a row, by its bytes. -/
theorem pc_ldStrE {t : TypeId} {bytes : Nat} {z : Value} {s : AV} {k : Nat} {l : List ByteArray} (b : List UInt8) (hx : S.ev x = some (.pt s.id (s.off + k * 1))) (ht : Ty E.P t false 1 bytes z) (h : RW σ₀ s l) (hb : l[k]? = some (ofL b)) (hl : LeS σ₀ σ) : PO E S σ σ₀.length ⟨d, .load t x, ty, pos, af, g⟩ (Str (ofL b)) := by
  have hk : k < l.length := by
    rcases Nat.lt_or_ge k l.length with h | h
    · exact h
    · rw [List.getElem?_eq_none h] at hb; cases hb
  have := pc_ldStr (E := E) (d := d) (ty := ty) (pos := pos) (af := af) (g := g) hx ht h hk hl
  have e : l.getD k ⟨#[]⟩ = ofL b := by rw [List.getD_eq_getElem?_getD, hb]; rfl
  rwa [e] at this
end
end Go.Proofs.YthbodgnoadlbcaaDoor.Asl
