/- Rules for loads and stores of rows' elements, a type each. Written by a program of this session. -/
import Derived.Test.YtcmkkmlgdkhmiaaG0
namespace Go.Proofs.Ytcmkkmlgdkhmiaa.Asl
open Go.RowKit Go.Proofs.YtcmkkmlgdkhmiaaW.PrintLast
set_option linter.unusedVariables false
set_option linter.unusedSimpArgs false
section
variable {E : Env} {ops : Array Oper} {L : List Oper} {Q : Exit → Slots → Store → Prop} {S : Slots} {σ σ₀ : Store} {d : Option Tmp} {ty : TypeId} {pos : String} {af : Array Edge} {g : Option (Nat × Bool)} {x y : Operand} {t : TypeId} {bytes : Nat} {z : Value} {s : AV} {k i : Nat}
theorem pc_ldNat {l : List Nat} (hx : S.ev x = some (.pt s.id (s.off + k * 1))) (ht : Ty E.P t false 1 bytes z) (h : RW σ₀ s l) (hk : k < l.length) (hl : LeS σ₀ σ) : PO E S σ σ₀.length ⟨d, .load t x, ty, pos, af, g⟩ (I ((l.getD k 0 : Nat) : Int)) :=
  pc_load1L hx ht (at_row h hk) hl
theorem pc_loNat {l : List Nat} (hx : S.ev x = some (.pt i (0 + k * 1))) (ht : Ty E.P t false 1 bytes z) (h : Has σ₀ i (Row l)) (hk : k < l.length) (hl : LeS σ₀ σ) : PO E S σ σ₀.length ⟨d, .load t x, ty, pos, af, g⟩ (I ((l.getD k 0 : Nat) : Int)) :=
  pc_load1L hx ht (at_own h hk) hl
theorem wc_stNat {l : List Nat} {u : Nat} (hx : S.ev x = some (.pt i (0 + k * 1))) (hy : S.ev y = some (I (u : Int))) (ht : Ty E.P t false 1 bytes z) (ho : Has σ i (Row l)) (hk : k < l.length) (hm : E.may i)
    (kk : ∀ σ', Upd σ i (Row (l.set k u)) σ' → WL E ops L Q S σ') : WL E ops (⟨none, .store t x y, ty, pos, af, none⟩ :: L) Q S σ :=
  wc_storeEl (α := Nat) hx hy ht ho (rfl) (fun c hc => by simp [Enc.enc] at hc; subst hc; exact rfl) hk hm kk
theorem pc_ldInt {l : List Int} (hx : S.ev x = some (.pt s.id (s.off + k * 1))) (ht : Ty E.P t false 1 bytes z) (h : RW σ₀ s l) (hk : k < l.length) (hl : LeS σ₀ σ) : PO E S σ σ₀.length ⟨d, .load t x, ty, pos, af, g⟩ (I (l.getD k 0)) :=
  pc_load1L hx ht (at_row h hk) hl
theorem pc_loInt {l : List Int} (hx : S.ev x = some (.pt i (0 + k * 1))) (ht : Ty E.P t false 1 bytes z) (h : Has σ₀ i (Row l)) (hk : k < l.length) (hl : LeS σ₀ σ) : PO E S σ σ₀.length ⟨d, .load t x, ty, pos, af, g⟩ (I (l.getD k 0)) :=
  pc_load1L hx ht (at_own h hk) hl
theorem wc_stInt {l : List Int} {u : Int} (hx : S.ev x = some (.pt i (0 + k * 1))) (hy : S.ev y = some (I u)) (ht : Ty E.P t false 1 bytes z) (ho : Has σ i (Row l)) (hk : k < l.length) (hm : E.may i)
    (kk : ∀ σ', Upd σ i (Row (l.set k u)) σ' → WL E ops L Q S σ') : WL E ops (⟨none, .store t x y, ty, pos, af, none⟩ :: L) Q S σ :=
  wc_storeEl (α := Int) hx hy ht ho (rfl) (fun c hc => by simp [Enc.enc] at hc; subst hc; exact rfl) hk hm kk
theorem pc_ldBool {l : List Bool} (hx : S.ev x = some (.pt s.id (s.off + k * 1))) (ht : Ty E.P t false 1 bytes z) (h : RW σ₀ s l) (hk : k < l.length) (hl : LeS σ₀ σ) : PO E S σ σ₀.length ⟨d, .load t x, ty, pos, af, g⟩ (Bo (l.getD k false)) :=
  pc_load1L hx ht (at_row h hk) hl
theorem pc_loBool {l : List Bool} (hx : S.ev x = some (.pt i (0 + k * 1))) (ht : Ty E.P t false 1 bytes z) (h : Has σ₀ i (Row l)) (hk : k < l.length) (hl : LeS σ₀ σ) : PO E S σ σ₀.length ⟨d, .load t x, ty, pos, af, g⟩ (Bo (l.getD k false)) :=
  pc_load1L hx ht (at_own h hk) hl
theorem wc_stBool {l : List Bool} {u : Bool} (hx : S.ev x = some (.pt i (0 + k * 1))) (hy : S.ev y = some (Bo u)) (ht : Ty E.P t false 1 bytes z) (ho : Has σ i (Row l)) (hk : k < l.length) (hm : E.may i)
    (kk : ∀ σ', Upd σ i (Row (l.set k u)) σ' → WL E ops L Q S σ') : WL E ops (⟨none, .store t x y, ty, pos, af, none⟩ :: L) Q S σ :=
  wc_storeEl (α := Bool) hx hy ht ho (rfl) (fun c hc => by simp [Enc.enc] at hc; subst hc; exact rfl) hk hm kk
theorem pc_ldAV {l : List AV} (hx : S.ev x = some (.pt s.id (s.off + k * 1))) (ht : Ty E.P t false 1 bytes z) (h : RW σ₀ s l) (hk : k < l.length) (hl : LeS σ₀ σ) : PO E S σ σ₀.length ⟨d, .load t x, ty, pos, af, g⟩ ((l.getD k nilS)) :=
  pc_load1L hx ht (at_row h hk) hl
theorem pc_loAV {l : List AV} (hx : S.ev x = some (.pt i (0 + k * 1))) (ht : Ty E.P t false 1 bytes z) (h : Has σ₀ i (Row l)) (hk : k < l.length) (hl : LeS σ₀ σ) : PO E S σ σ₀.length ⟨d, .load t x, ty, pos, af, g⟩ ((l.getD k nilS)) :=
  pc_load1L hx ht (at_own h hk) hl
theorem wc_stAV {l : List AV} {u : AV} [h1 : One u] (hx : S.ev x = some (.pt i (0 + k * 1))) (hy : S.ev y = some (u)) (ht : Ty E.P t false 1 bytes z) (ho : Has σ i (Row l)) (hk : k < l.length) (hm : E.may i)
    (kk : ∀ σ', Upd σ i (Row (l.set k u)) σ' → WL E ops L Q S σ') : WL E ops (⟨none, .store t x y, ty, pos, af, none⟩ :: L) Q S σ :=
  wc_storeEl (α := AV) hx hy ht ho (AV.cells_one h1.eq) (fun c hc => by simp [Enc.enc] at hc; subst hc; exact h1.eq) hk hm kk
theorem pc_ldStr {l : List ByteArray} (hx : S.ev x = some (.pt s.id (s.off + k * 1))) (ht : Ty E.P t false 1 bytes z) (h : RW σ₀ s l) (hk : k < l.length) (hl : LeS σ₀ σ) : PO E S σ σ₀.length ⟨d, .load t x, ty, pos, af, g⟩ (Str (l.getD k ⟨#[]⟩)) :=
  pc_load1L hx ht (at_row h hk) hl
theorem pc_loStr {l : List ByteArray} (hx : S.ev x = some (.pt i (0 + k * 1))) (ht : Ty E.P t false 1 bytes z) (h : Has σ₀ i (Row l)) (hk : k < l.length) (hl : LeS σ₀ σ) : PO E S σ σ₀.length ⟨d, .load t x, ty, pos, af, g⟩ (Str (l.getD k ⟨#[]⟩)) :=
  pc_load1L hx ht (at_own h hk) hl
theorem wc_stStr {l : List ByteArray} {u : ByteArray} (hx : S.ev x = some (.pt i (0 + k * 1))) (hy : S.ev y = some (Str u)) (ht : Ty E.P t false 1 bytes z) (ho : Has σ i (Row l)) (hk : k < l.length) (hm : E.may i)
    (kk : ∀ σ', Upd σ i (Row (l.set k u)) σ' → WL E ops L Q S σ') : WL E ops (⟨none, .store t x y, ty, pos, af, none⟩ :: L) Q S σ :=
  wc_storeEl (α := ByteArray) hx hy ht ho (rfl) (fun c hc => by simp [Enc.enc] at hc; subst hc; exact rfl) hk hm kk
theorem pc_ldMv {l : List Mv} (hx : S.ev x = some (.pt s.id (s.off + k * 2))) (ht : Ty E.P t true 2 bytes z) (h : RW σ₀ s l) (hk : k < l.length) (hl : LeS σ₀ σ) : PO E S σ σ₀.length ⟨d, .load t x, ty, pos, af, g⟩ (.agg [I (l.getD k (0, 0)).1, I (l.getD k (0, 0)).2]) :=
  pc_loadnL hx ht (at_row h hk) hl
theorem pc_loMv {l : List Mv} (hx : S.ev x = some (.pt i (0 + k * 2))) (ht : Ty E.P t true 2 bytes z) (h : Has σ₀ i (Row l)) (hk : k < l.length) (hl : LeS σ₀ σ) : PO E S σ σ₀.length ⟨d, .load t x, ty, pos, af, g⟩ (.agg [I (l.getD k (0, 0)).1, I (l.getD k (0, 0)).2]) :=
  pc_loadnL hx ht (at_own h hk) hl
theorem pc_ldMv1 {l : List Mv} (hx : S.ev x = some (.pt s.id (s.off + k * 2 + 0))) (ht : Ty E.P t false 1 bytes z) (h : RW σ₀ s l) (hk : k < l.length) (hl : LeS σ₀ σ) : PO E S σ σ₀.length ⟨d, .load t x, ty, pos, af, g⟩ (I (l.getD k (0, 0)).1) :=
  pc_load1L hx ht (at_sub (at_row h hk) rfl) hl
theorem pc_loMv1 {l : List Mv} (hx : S.ev x = some (.pt i (0 + k * 2 + 0))) (ht : Ty E.P t false 1 bytes z) (h : Has σ₀ i (Row l)) (hk : k < l.length) (hl : LeS σ₀ σ) : PO E S σ σ₀.length ⟨d, .load t x, ty, pos, af, g⟩ (I (l.getD k (0, 0)).1) :=
  pc_load1L hx ht (at_sub (at_own h hk) rfl) hl
theorem pc_ldMv2 {l : List Mv} (hx : S.ev x = some (.pt s.id (s.off + k * 2 + 1))) (ht : Ty E.P t false 1 bytes z) (h : RW σ₀ s l) (hk : k < l.length) (hl : LeS σ₀ σ) : PO E S σ σ₀.length ⟨d, .load t x, ty, pos, af, g⟩ (I (l.getD k (0, 0)).2) :=
  pc_load1L hx ht (at_sub (at_row h hk) rfl) hl
theorem pc_loMv2 {l : List Mv} (hx : S.ev x = some (.pt i (0 + k * 2 + 1))) (ht : Ty E.P t false 1 bytes z) (h : Has σ₀ i (Row l)) (hk : k < l.length) (hl : LeS σ₀ σ) : PO E S σ σ₀.length ⟨d, .load t x, ty, pos, af, g⟩ (I (l.getD k (0, 0)).2) :=
  pc_load1L hx ht (at_sub (at_own h hk) rfl) hl
theorem wc_stMv {l : List Mv} {u v : Int} (hx : S.ev x = some (.pt i (0 + k * 2))) (hy : S.ev y = some (.agg [I u, I v])) (ht : Ty E.P t true 2 bytes z) (ho : Has σ i (Row l)) (hk : k < l.length) (hm : E.may i)
    (kk : ∀ σ', Upd σ i (Row (l.set k (u, v))) σ' → WL E ops L Q S σ') : WL E ops (⟨none, .store t x y, ty, pos, af, none⟩ :: L) Q S σ :=
  wc_storeEl (α := Mv) (u := (u, v)) hx hy ht ho rfl (fun c hc => by simp [Enc.enc] at hc; rcases hc with rfl | rfl <;> rfl) hk hm kk
theorem splice_mv1 {l : List Mv} {k : Nat} {u : Int} (h : k < l.length) : splice (rowCells l) (0 + k * 2 + 0) [I u] = rowCells (l.set k (u, (l.getD k (0, 0)).2)) := by
  rw [← rowCells_set (α := Mv) _ h]
  have hl := rowCells_length l
  have e2 : Enc.e Mv = 2 := rfl
  rw [e2] at hl ⊢
  have h2 := congrArg (·[1]?) (rowCells_cut (l := l) (k := k) (x := l.getD k (0, 0)) (by simp [List.getD_eq_getElem?_getD, h]))
  simp only [cutL, e2, List.getElem?_take, List.getElem?_drop] at h2
  rw [if_pos (by omega)] at h2
  apply List.ext_getElem?
  intro j
  have e3 : (Enc.enc ((u, (l.getD k (0, 0)).2) : Mv)) = [I u, I (l.getD k (0, 0)).2] := rfl
  have e4 : (Enc.enc (l.getD k (0, 0)) : List AV)[1]? = some (I (l.getD k (0, 0)).2) := rfl
  rw [e4] at h2
  rw [splice_get (by simp; omega), splice_get (by rw [e3]; simp; omega), e3]
  simp only [List.length_cons, List.length_nil]
  by_cases h1 : j < k * 2
  · rw [if_pos (by omega), if_pos h1]
  · rw [if_neg (by omega), if_neg h1]
    by_cases h3 : j = k * 2
    · subst h3; rw [if_pos (by omega), if_pos (by omega), show k * 2 - (0 + k * 2 + 0) = 0 by omega, Nat.sub_self]; rfl
    · rw [if_neg (by omega)]
      by_cases h4 : j = k * 2 + 1
      · subst h4; rw [if_pos (by omega), show k * 2 + 1 - k * 2 = 1 by omega, h2]; rfl
      · rw [if_neg (by omega)]
theorem splice_mv2 {l : List Mv} {k : Nat} {u : Int} (h : k < l.length) : splice (rowCells l) (0 + k * 2 + 1) [I u] = rowCells (l.set k ((l.getD k (0, 0)).1, u)) := by
  rw [← rowCells_set (α := Mv) _ h]
  have hl := rowCells_length l
  have e2 : Enc.e Mv = 2 := rfl
  rw [e2] at hl ⊢
  have h2 := congrArg (·[0]?) (rowCells_cut (l := l) (k := k) (x := l.getD k (0, 0)) (by simp [List.getD_eq_getElem?_getD, h]))
  simp only [cutL, e2, List.getElem?_take, List.getElem?_drop] at h2
  rw [if_pos (by omega)] at h2
  apply List.ext_getElem?
  intro j
  have e3 : (Enc.enc (((l.getD k (0, 0)).1, u) : Mv)) = [I (l.getD k (0, 0)).1, I u] := rfl
  have e4 : (Enc.enc (l.getD k (0, 0)) : List AV)[0]? = some (I (l.getD k (0, 0)).1) := rfl
  rw [e4] at h2
  rw [splice_get (by simp; omega), splice_get (by rw [e3]; simp; omega), e3]
  simp only [List.length_cons, List.length_nil]
  by_cases h1 : j < k * 2
  · rw [if_pos (by omega), if_pos h1]
  · by_cases h3 : j = k * 2
    · subst h3; rw [if_pos (by omega), if_neg (by omega), if_pos (by omega), Nat.sub_self, ← Nat.add_zero (k * 2), h2]; rfl
    · rw [if_neg (by omega), if_neg h1]
      by_cases h4 : j = k * 2 + 1
      · subst h4; rw [if_pos (by omega), if_pos (by omega), show k * 2 + 1 - (0 + k * 2 + 1) = 0 by omega, show k * 2 + 1 - k * 2 = 1 by omega]; rfl
      · rw [if_neg (by omega), if_neg (by omega)]
theorem wc_stMv1 {l : List Mv} {u : Int} (hx : S.ev x = some (.pt i (0 + k * 2 + 0))) (hy : S.ev y = some (I u)) (ht : Ty E.P t false 1 bytes z) (ho : Has σ i (Row l)) (hk : k < l.length) (hm : E.may i)
    (kk : ∀ σ', Upd σ i (Row (l.set k (u, (l.getD k (0, 0)).2))) σ' → WL E ops L Q S σ') : WL E ops (⟨none, .store t x y, ty, pos, af, none⟩ :: L) Q S σ :=
  wc_store hx hy ht ho rfl rfl (by simp [AV.one, AV.cells]) (by have := rowCells_length l; have e2 : Enc.e Mv = 2 := rfl; rw [e2] at this; omega) (splice_mv1 hk) hm kk
theorem wc_stMv2 {l : List Mv} {u : Int} (hx : S.ev x = some (.pt i (0 + k * 2 + 1))) (hy : S.ev y = some (I u)) (ht : Ty E.P t false 1 bytes z) (ho : Has σ i (Row l)) (hk : k < l.length) (hm : E.may i)
    (kk : ∀ σ', Upd σ i (Row (l.set k ((l.getD k (0, 0)).1, u))) σ' → WL E ops L Q S σ') : WL E ops (⟨none, .store t x y, ty, pos, af, none⟩ :: L) Q S σ :=
  wc_store hx hy ht ho rfl rfl (by simp [AV.one, AV.cells]) (by have := rowCells_length l; have e2 : Enc.e Mv = 2 := rfl; rw [e2] at this; omega) (splice_mv2 hk) hm kk
end
end Go.Proofs.Ytcmkkmlgdkhmiaa.Asl
