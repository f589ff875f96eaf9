/- The program logic's rules for literals, made slices, cut slices and appends. -/
import Derived.Test.YtemhpkfijoodkaaA4
import Derived.Great.FillDense
namespace Go.Proofs.Ytemhpkfijoodkaa.Asl
open Go.RowKit
set_option linter.unusedVariables false
set_option linter.unusedSimpArgs false

/-- The cells of a literal: parts laid over what is there. -/
def fillA (place : Nat → Nat) (cs : List AV) : List (Nat × AV) → List AV
  | [] => cs
  | (i, r) :: rest => fillA place (splice cs (place i) r.cells) rest

/-- A literal's parts, read off the slots. -/
def evParts (S : Slots) : List (Nat × Operand) → Option (List (Nat × AV))
  | [] => some []
  | (i, x) :: rest => match S.ev x, evParts S rest with
    | some r, some rs => some ((i, r) :: rs)
    | _, _ => none

theorem fill_R {ρ : Pl} {ev : Operand → Value} {S : Slots} (hev : ∀ x r, S.ev x = some r → R ρ r (ev x)) (place : Nat → Option (Nat × Nat)) (plA : Nat → Nat) :
    ∀ (parts : List (Nat × Operand)) (rs : List (Nat × AV)) (zs : List AV) (cells : Array Value), evParts S parts = some rs → Rs ρ zs cells.toList →
      (∀ x ∈ rs, ∃ n, place x.1 = some (plA x.1, n) ∧ x.2.cells.length = n ∧ plA x.1 + n ≤ zs.length) →
      ∃ arr, Instr.fill place cells (parts.map fun x => (x.1, ev x.2)) = some arr ∧ Rs ρ (fillA plA zs rs) arr.toList
  | [], rs, zs, cells, he, hz, hp => by
    simp [evParts] at he; subst he
    exact ⟨cells, rfl, hz⟩
  | (i, x) :: parts, rs, zs, cells, he, hz, hp => by
    unfold evParts at he
    cases hx : S.ev x with
    | none => rw [hx] at he; simp at he
    | some r =>
      cases hr : evParts S parts with
      | none => rw [hx, hr] at he; simp at he
      | some rs' =>
        rw [hx, hr] at he
        simp at he; subst he
        obtain ⟨n, h1, h2, h3⟩ := hp (i, r) (by simp)
        simp only at h1 h2 h3
        have hR := AV.cells_Rs (hev x r hx)
        have hlen := hR.length
        have hsz : cells.size = zs.length := by rw [hz.length]; simp
        have hcs : (ev x).cells.size = n := by rw [← Array.length_toList, ← hlen, h2]
        have key := Go.Great.foldl_set (plA i) (ev x).cells.toList 0 cells
        have hfold : (ev x).cells.zipIdx.foldl (fun cs (y : Value × Nat) => cs.setIfInBounds (plA i + y.2) y.1) cells = ((ev x).cells.toList.zipIdx 0).foldl (fun cs (y : Value × Nat) => cs.setIfInBounds (plA i + y.2) y.1) cells := by
          rw [← Array.foldl_toList, Array.toList_zipIdx]
        obtain ⟨k1, k2⟩ := key
        rw [← hfold] at k1 k2
        generalize hA1 : (ev x).cells.zipIdx.foldl (fun cs (y : Value × Nat) => cs.setIfInBounds (plA i + y.2) y.1) cells = A1 at k1 k2
        have hnew : Rs ρ (splice zs (plA i) r.cells) A1.toList := by
          refine Rs.of_get (by rw [splice_length (by omega)]; have e_ : A1.toList.length = A1.size := Array.length_toList; omega) fun j y hy => ?_
          rw [splice_get (by omega)] at hy
          simp only [Array.getElem?_toList]
          rw [k2 j]
          simp only [Nat.add_zero, Array.length_toList, hcs]
          by_cases g1 : j < plA i
          · rw [if_pos g1] at hy
            rw [if_neg (by omega)]
            obtain ⟨v, q1, q2⟩ := hz.get j y hy
            exact ⟨v, by simpa using q1, q2⟩
          · rw [if_neg g1] at hy
            by_cases g2 : j < plA i + r.cells.length
            · rw [if_pos g2] at hy
              rw [if_pos ⟨by omega, by omega, by omega⟩]
              exact hR.get _ y hy
            · rw [if_neg g2] at hy
              rw [if_neg (by omega)]
              obtain ⟨v, q1, q2⟩ := hz.get j y hy
              exact ⟨v, by simpa using q1, q2⟩
        obtain ⟨arr, a1, a2⟩ := fill_R hev place plA parts rs' _ _ hr hnew (fun y hy => by
          obtain ⟨m, m1, m2, m3⟩ := hp y (by simp [hy])
          exact ⟨m, m1, m2, by rw [splice_length (by omega)]; exact m3⟩)
        refine ⟨arr, ?_, a2⟩
        simp only [List.map_cons]
        unfold Instr.fill
        simp only [h1]
        rw [if_neg (by simp [hcs]; omega), hA1]
        exact a1

section
variable {E : Env} {ops : Array Oper} {l : List Oper} {Q : Exit → Slots → Store → Prop} {S : Slots} {σ : Store} {d : Option Tmp} {ty : TypeId} {pos : String} {af : Array Edge} {g : Option (Nat × Bool)} {n0 : Nat} {x y : Operand}

/-- Where a struct's fields lie, and how many cells each has. -/
class StructAt (P : Program) (t : TypeId) (places : outParam (List (Nat × Nat))) : Prop where
  ok : ∃ (fs : Array Field), P.underlying t = some (.struct fs) ∧ ∀ w : World, (fs.mapM (fun f => do pure (f.offset, ← sizeOf f.type)) : Sem (Array (Nat × Nat))).run P w = .ok places.toArray w
/-- A struct that is written down: 'places' tells where each field lies and how many cells it has. -/
theorem po_build {t : TypeId} {parts : Array (Nat × Operand)} {rs : List (Nat × AV)} {agg : Bool} {size bytes : Nat} {z : Value} {places : List (Nat × Nat)} {cs : List AV} (hst : StructAt E.P t places) (ht : Ty E.P t agg size bytes z)
    (hp : evParts S parts.toList = some rs) 
    (hok : ∀ x ∈ rs, ∃ o n, places[x.1]? = some (o, n) ∧ x.2.cells.length = n ∧ o + n ≤ z.cells.size) (hcs : fillA (fun i => (places[i]?.getD (0, 0)).1) (z.cells.toList.map .lit) rs = cs) :
    PO E S σ n0 ⟨d, .build t parts, ty, pos, af, g⟩ (.agg cs) := by
  intro a w ρ W0 hw hag hn
  obtain ⟨fs, hs, hpl⟩ := hst.ok
  obtain ⟨arr, h1, h2⟩ := fill_R (ρ := ρ) (ev := a.eval) (S := S) (fun x r hx => hw.ev hx) (fun i => places.toArray[i]?) (fun i => (places[i]?.getD (0, 0)).1) parts.toList rs (z.cells.toList.map .lit) z.cells hp (Rs.lits ρ _) (fun x hx => by
    obtain ⟨o, n, e1, e2, e3⟩ := hok x hx
    exact ⟨n, by simp [e1], e2, by simpa [e1] using e3⟩)
  refine ⟨.agg arr, ?_, fun w' _ => ?_⟩
  rotate_left
  · simp only [execOp, Instr.build, Sem.run_bind, ht.zeroValue, Result.andThen_ok, underlying, run_program, hs, Sem.run_pure, hpl, Array.toList_map]
    rw [show List.map (fun x => (x.1, a.eval x.2)) parts.toList = parts.toList.map fun x => (x.1, a.eval x.2) from rfl, h1]
    rfl
  · rw [← hcs]
    simpa using R.agg h2

/-- A slice that is written down. -/
theorem wl_buildSlice {t e : TypeId} {len : Nat} {parts : Array (Nat × Operand)} {rs : List (Nat × AV)} {agg : Bool} {size bytes : Nat} {z : Value} {cs : List AV} (ht : E.P.underlying t = some (.slice e)) (he : Ty E.P e agg size bytes z) (hz : z.cells.size = size) (hz1 : ∀ v ∈ z.cells.toList, v.oneCell' = true)
    (hsmall : len * size ≤ 16777216) (hp : evParts S parts.toList = some rs) (hok : ∀ x ∈ rs, x.2.cells.length = size ∧ x.1 * size + size ≤ len * size ∧ ∀ c ∈ x.2.cells, c.one = true)
    (hcs : fillA (fun i => i * size) ((List.range (len * size)).map fun i => AV.lit (z.cells.toList.getD (i % size) undef)) rs = cs) (hd : okd E d = true)
    (k : WL E ops l Q (S.put d (.sl σ.length 0 len)) (σ ++ [⟨.own, size, cs, []⟩])) : WL E ops (⟨d, .buildSlice t len parts, ty, pos, af, none⟩ :: l) Q S σ := by
  refine wl_value rfl hd fun a w ρ hw => ?_
  have hz0 : ∀ i, i < len * size → z.cells[i % size]! = z.cells.toList.getD (i % size) undef := by
    intro i hi
    have hs : 0 < size := by rcases Nat.eq_zero_or_pos size with h | h; · simp [h] at hi
                             · exact h
    have hm := Nat.mod_lt i hs
    rw [getElem!_pos z.cells _ (by omega)]
    simp [List.getD_eq_getElem?_getD, hz, hm]
  have hbase : ∀ (f : Nat → Value), Rs ρ ((List.range (len * size)).map fun i => AV.lit (f i)) (((Array.range (len * size)).map f).toList) := by
    intro f
    simp only [Array.toList_map, Array.toList_range]
    have := Rs.lits ρ ((List.range (len * size)).map f)
    rw [List.map_map] at this
    exact this
  have hzr : (if len * size = 0 then (#[] : Array Value) else z.cells) = z.cells ∨ len * size = 0 := by by_cases h : len * size = 0 <;> simp [h]
  let Z : Array Value := (Array.range (len * size)).map (fun i => z.cells.toList.getD (i % size) undef)
  obtain ⟨arr, h1, h2⟩ := fill_R (ρ := ρ) (ev := a.eval) (S := S) (fun x r hx => hw.ev hx) (fun i => some (i * size, size)) (fun i => i * size) parts.toList rs _ Z hp (hbase _) (fun x hx => by
    obtain ⟨e1, e2, _⟩ := hok x hx
    exact ⟨size, rfl, e1, by simpa using e2⟩)
  rw [hcs] at h2
  have hone : ∀ c ∈ cs, c.one = true := by
    rw [← hcs]
    have gen : ∀ (rs : List (Nat × AV)) (zs : List AV), (∀ c ∈ zs, c.one = true) → (∀ x ∈ rs, ∀ c ∈ x.2.cells, c.one = true) → ∀ c ∈ fillA (fun i => i * size) zs rs, c.one = true := by
      intro rs
      induction rs with
      | nil => intro zs h _ c hc; exact h c hc
      | cons r rs ih =>
        intro zs h h' c hc
        refine ih _ ?_ (fun x hx => h' x (by simp [hx])) c hc
        intro c hc
        unfold splice at hc
        simp only [List.append_assoc, List.mem_append] at hc
        rcases hc with hc | hc | hc
        · exact h c (List.mem_of_mem_take hc)
        · exact h' r (by simp) c hc
        · exact h c (List.mem_of_mem_drop hc)
    refine gen rs _ ?_ (fun x hx => (hok x hx).2.2)
    intro c hc
    simp only [List.mem_map, List.mem_range] at hc
    obtain ⟨i, hi, rfl⟩ := hc
    have hs : 0 < size := by rcases Nat.eq_zero_or_pos size with h | h; · simp [h] at hi
                             · exact h
    have hm := Nat.mod_lt i hs
    have : z.cells.toList.getD (i % size) undef ∈ z.cells.toList := by
      rw [List.getD_eq_getElem?_getD, List.getElem?_eq_getElem (by simp; omega)]
      simp
    have := hz1 _ this
    revert this
    cases z.cells.toList.getD (i % size) undef <;> simp [AV.one, Value.oneCell']
  have hsize : arr.size = len * size := by
    have := h2.length
    rw [← hcs] at this
    have g : ∀ (rs : List (Nat × AV)) (zs : List AV), (∀ x ∈ rs, x.2.cells.length = size ∧ x.1 * size + size ≤ zs.length) → (fillA (fun i => i * size) zs rs).length = zs.length := by
      intro rs
      induction rs with
      | nil => intro zs _; rfl
      | cons r rs ih =>
        intro zs h'
        obtain ⟨e1, e2⟩ := h' r (by simp)
        unfold fillA
        rw [ih _ (fun x hx => by rw [splice_length (by omega)]; exact h' x (by simp [hx])), splice_length (by omega)]
    rw [g rs _ (fun x hx => ⟨(hok x hx).1, by simpa using (hok x hx).2.1⟩)] at this
    simpa using this.symm
  refine ⟨.slice (some ⟨w.heap.size, 0, none⟩) len len, w.alloc (.cells arr e), .sl σ.length 0 len, _, more ρ σ.length ⟨w.heap.size, 0, arr.size, size, true⟩, ?_, ?_, ?_, k⟩
  · have hfill : Instr.fill (fun i => some (i * size, size)) ((Array.range (len * size)).map (fun i => (if len * size = 0 then (#[] : Array Value) else z.cells)[i % (if len * size = 0 then (#[] : Array Value) else z.cells).size]!)) (parts.toList.map fun x => (x.1, a.eval x.2)) = some arr := by
      rw [← h1]
      congr 1
      by_cases h0 : len * size = 0
      · simp [Z, h0]
      · simp only [Z, if_neg h0]
        apply Array.ext (by simp)
        intro i hi1 hi2
        simp only [Array.getElem_map, Array.getElem_range]
        rw [hz]
        exact hz0 i (by simpa using hi1)
    by_cases h0 : len * size = 0
    · simp only [h0, if_true] at hfill
      simp only [execOp, Instr.buildSlice, underlying, Sem.run_bind, run_program, Result.andThen_ok, ht, Sem.run_pure, he.sizeOf, h0, if_true, Array.toList_map]
      rw [if_neg (by omega)]
      simp only [Sem.run_bind, Sem.run_pure, Result.andThen_ok]
      rw [hfill]
      simp [newRow, World.alloc_eq]
    · simp only [h0, if_false] at hfill
      simp only [execOp, Instr.buildSlice, underlying, Sem.run_bind, run_program, Result.andThen_ok, ht, Sem.run_pure, he.sizeOf, h0, if_false, Array.toList_map, he.zeroValue]
      rw [if_neg (by omega)]
      simp only [Sem.run_bind, Sem.run_pure, Result.andThen_ok, he.zeroValue]
      rw [hfill]
      simp [newRow, World.alloc_eq]
  · refine R.sl (p := ⟨w.heap.size, 0, arr.size, size, true⟩) (more_at _ _ _) (Nat.le_refl _) ?_
    simp [hsize]
  · exact hw.newCells cs arr size e (by simpa using CellsR.of_Rs h2 hone)
end
end Go.Proofs.Ytemhpkfijoodkaa.Asl
