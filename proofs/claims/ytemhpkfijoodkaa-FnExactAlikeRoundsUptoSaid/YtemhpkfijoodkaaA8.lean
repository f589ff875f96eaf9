/- The program logic's rules for what is left: made slices, cut slices, strings, divisions, guards. -/
import Derived.Test.YtemhpkfijoodkaaA7
namespace Go.Proofs.Ytemhpkfijoodkaa.Asl
open Go.RowKit
set_option linter.unusedVariables false
set_option linter.unusedSimpArgs false

theorem run_equalIn_bool {P : Program} {w : World} {t : TypeId} (n : Nat) (a b : Bool) (ht : P.underlying t = some .bool) : (Op.equalIn (n + 1) t (.bool a) (.bool b)).run P w = .ok (a == b) w := by
  simp [Op.equalIn, underlying, ht]
theorem run_equal_bool {P : Program} {w : World} {t : TypeId} (a b : Bool) (ht : P.underlying t = some .bool) : (Op.equal t (.bool a) (.bool b)).run P w = .ok (a == b) w :=
  run_equalIn_bool 9999 a b ht

section
variable {E : Env} {ops : Array Oper} {l : List Oper} {Q : Exit → Slots → Store → Prop} {S : Slots} {σ : Store} {d : Option Tmp} {ty : TypeId} {pos : String} {af : Array Edge} {g : Option (Nat × Bool)} {n0 : Nat} {x y : Operand}

theorem po_rem {xt yt : TypeId} {kd : IntKind} {a b : Int} (hx : S.ev x = some (.lit (.int kd a))) (hy : S.ev y = some (.lit (.int kd b))) (hb : b ≠ 0) :
    PO E S σ n0 ⟨d, .binOp .rem xt x y yt, ty, pos, af, g⟩ (.lit (.int kd (a.tmod b))) := by
  intro A w ρ W0 hw hag hn
  refine ⟨_, .lit _, fun w' _ => ?_⟩
  simp [execOp, R_lit (hw.ev hx), R_lit (hw.ev hy), eqGuard, binOp, Op.intDiv, hb]
theorem po_quo {xt yt : TypeId} {kd : IntKind} {a b : Int} (hx : S.ev x = some (.lit (.int kd a))) (hy : S.ev y = some (.lit (.int kd b))) (hb : b ≠ 0) :
    PO E S σ n0 ⟨d, .binOp .quo xt x y yt, ty, pos, af, g⟩ (.lit (.int kd (kd.wrap (a.tdiv b)))) := by
  intro A w ρ W0 hw hag hn
  refine ⟨_, .lit _, fun w' _ => ?_⟩
  simp [execOp, R_lit (hw.ev hx), R_lit (hw.ev hy), eqGuard, binOp, Op.intDiv, hb]
theorem po_boolEq {xt yt : TypeId} {a b : Bool} (hx : S.ev x = some (.lit (.bool a))) (hy : S.ev y = some (.lit (.bool b))) (ht : E.P.underlying xt = some .bool) :
    PO E S σ n0 ⟨d, .binOp .eql xt x y yt, ty, pos, af, g⟩ (.lit (.bool (a == b))) := by
  intro A w ρ W0 hw hag hn
  refine ⟨_, .lit _, fun w' _ => ?_⟩
  simp only [execOp, R_lit (hw.ev hx), R_lit (hw.ev hy), eqGuard, binOp, Sem.run_bind, Sem.run_pure, Result.andThen_ok, run_equal_bool a b ht]
  rfl
theorem po_boolNe {xt yt : TypeId} {a b : Bool} (hx : S.ev x = some (.lit (.bool a))) (hy : S.ev y = some (.lit (.bool b))) (ht : E.P.underlying xt = some .bool) :
    PO E S σ n0 ⟨d, .binOp .neq xt x y yt, ty, pos, af, g⟩ (.lit (.bool (a != b))) := by
  intro A w ρ W0 hw hag hn
  refine ⟨_, .lit _, fun w' _ => ?_⟩
  simp only [execOp, R_lit (hw.ev hx), R_lit (hw.ev hy), eqGuard, binOp, Sem.run_bind, Sem.run_pure, Result.andThen_ok, run_equal_bool a b ht]
  rfl
theorem po_concat {xt yt : TypeId} {a b : ByteArray} (hx : S.ev x = some (.lit (.string a))) (hy : S.ev y = some (.lit (.string b))) (hb : a.size + b.size ≤ 9223372036854775807) :
    PO E S σ n0 ⟨d, .binOp .add xt x y yt, ty, pos, af, g⟩ (.lit (.string (a ++ b))) := by
  intro A w ρ W0 hw hag hn
  refine ⟨_, .lit _, fun w' _ => ?_⟩
  have h' : ¬ (IntKind.i64.max < (a.size : Int) + (b.size : Int)) := by
    have : IntKind.i64.max = 9223372036854775807 := rfl
    omega
  simp [execOp, R_lit (hw.ev hx), R_lit (hw.ev hy), eqGuard, binOp, Op.stringOp, h']
  omega
theorem po_max {ats : Array TypeId} {kd : IntKind} {a b : Int} (hx : S.ev x = some (.lit (.int kd a))) (hy : S.ev y = some (.lit (.int kd b))) :
    PO E S σ n0 ⟨d, .call ⟨.builtin .max, #[x, y], ats⟩, ty, pos, af, g⟩ (.lit (.int kd (if b > a then b else a))) := by
  intro A w ρ W0 hw hag hn
  refine ⟨_, .lit _, fun w' _ => ?_⟩
  simp [execOp, resolve, invoke, builtin, R_lit (hw.ev hx), R_lit (hw.ev hy), Builtin.max_, Builtin.max2]
theorem po_min {ats : Array TypeId} {kd : IntKind} {a b : Int} (hx : S.ev x = some (.lit (.int kd a))) (hy : S.ev y = some (.lit (.int kd b))) :
    PO E S σ n0 ⟨d, .call ⟨.builtin .min, #[x, y], ats⟩, ty, pos, af, g⟩ (.lit (.int kd (if b < a then b else a))) := by
  intro A w ρ W0 hw hag hn
  refine ⟨_, .lit _, fun w' _ => ?_⟩
  simp [execOp, resolve, invoke, builtin, R_lit (hw.ev hx), R_lit (hw.ev hy), Builtin.min_, Builtin.min2]

/-- A byte of a string. -/
theorem po_index_str {t : TypeId} {s : ByteArray} {i : Int} (hx : S.ev x = some (.lit (.string s))) (hy : S.ev y = some (.lit (.int .i64 i))) (ht : E.P.underlying t = some .string) (h0 : 0 ≤ i) (h1 : i.toNat < s.size) :
    PO E S σ n0 ⟨d, .index t x y, ty, pos, af, g⟩ (.lit (.int .u8 ((s[i.toNat]'h1).toNat : Int))) := by
  intro A w ρ W0 hw hag hn
  refine ⟨_, .lit _, fun w' _ => ?_⟩
  have hs : s[i.toNat]? = some s[i.toNat] := by simp [h1]
  simp [execOp, R_lit (hw.ev hx), R_lit (hw.ev hy), Instr.index, asIntOf, underlying, ht, h0, hs]

/-- A part of a string. -/
theorem po_slice_str {t : TypeId} {s : ByteArray} {lo hi : Option Operand} {a b : Nat} (hx : S.ev x = some (.lit (.string s))) (ht : E.P.underlying t = some .string)
    (hlo : match lo with | none => a = 0 | some y => S.ev y = some (.lit (.int .i64 (a : Int)))) (hhi : match hi with | none => b = s.size | some y => S.ev y = some (.lit (.int .i64 (b : Int)))) (hab : a ≤ b) (hb : b ≤ s.size) :
    PO E S σ n0 ⟨d, .slice t x lo hi none, ty, pos, af, g⟩ (.lit (.string (s.extract a b))) := by
  intro A w ρ W0 hw hag hn
  refine ⟨_, .lit _, fun w' _ => ?_⟩
  have e1 := R_lit (hw.ev hx)
  cases lo with
  | none =>
    simp only at hlo; subst hlo
    cases hi with
    | none => simp only at hhi; subst hhi; simp [execOp, e1, Instr.sliceAt, Instr.slice, Instr.sliceBounds, Instr.sliceBound, asIntOf, underlying, ht]
    | some y => have e3 := R_lit (hw.ev hhi); simp [execOp, e1, e3, Instr.sliceAt, Instr.slice, Instr.sliceBounds, Instr.sliceBound, asIntOf, underlying, ht, hb]
  | some y' =>
    have e2 := R_lit (hw.ev hlo)
    cases hi with
    | none => simp only at hhi; subst hhi; simp [execOp, e1, e2, Instr.sliceAt, Instr.slice, Instr.sliceBounds, Instr.sliceBound, asIntOf, underlying, ht, hab]
    | some y => have e3 := R_lit (hw.ev hhi); simp [execOp, e1, e2, e3, Instr.sliceAt, Instr.slice, Instr.sliceBounds, Instr.sliceBound, asIntOf, underlying, ht, hb, hab]

/-- A part of a slice that has elements, or begins where the slice begins. -/
theorem po_slice {t e : TypeId} {id off len : Nat} {o : Ob} {lo hi : Option Operand} {a b : Nat} {agg : Bool} {size bytes : Nat} {z : Value} (hx : S.ev x = some (.sl id off len)) (ht : E.P.underlying t = some (.slice e)) (he : Ty E.P e agg size bytes z) (ho : σ[id]? = some o) (hk : o.readable) (hesz : o.esz = size)
    (hlo : match lo with | none => a = 0 | some y => S.ev y = some (.lit (.int .i64 (a : Int)))) (hhi : match hi with | none => b = len | some y => S.ev y = some (.lit (.int .i64 (b : Int)))) (hab : a ≤ b) (hb : b ≤ len) (h0 : a = 0 ∨ a < b) :
    PO E S σ n0 ⟨d, .slice t x lo hi none, ty, pos, af, g⟩ (.sl id (off + a * size) (b - a)) := by
  intro A w ρ W0 hw hag hn
  have e1 := hw.ev hx
  generalize hv : A.eval x = v at e1
  cases e1 with
  | @sl _ _ _ cap p hp hle hroom =>
    have hpe : p.esz = size := by
      have := hw.sim.obs id o p ho hp
      unfold ObRel at this
      rcases hk with hk | hk <;> rw [hk] at this
      · rw [this.2.1, hesz]
      · rw [this.2.1, hesz]
    rw [hpe] at hroom
    have hbounds : ∀ w' : World, (Instr.sliceBounds true len cap (lo.map A.eval) (hi.map A.eval) none).run E.P w' = .ok (a, b, cap) w' := by
      intro w'
      cases lo with
      | none =>
        simp only at hlo; subst hlo
        cases hi with
        | none => simp only at hhi; subst hhi; simp [Instr.sliceBounds, Instr.sliceBound, asIntOf]
        | some y => have e3 := R_lit (hw.ev hhi); simp [e3, Instr.sliceBounds, Instr.sliceBound, asIntOf, show b ≤ cap by omega]
      | some y' =>
        have e2 := R_lit (hw.ev hlo)
        cases hi with
        | none => simp only at hhi; subst hhi; simp [e2, Instr.sliceBounds, Instr.sliceBound, asIntOf, hab]
        | some y => have e3 := R_lit (hw.ev hhi); simp [e2, e3, Instr.sliceBounds, Instr.sliceBound, asIntOf, hab, show b ≤ cap by omega]
    refine ⟨.slice (some ⟨p.blk, p.off + (off + a * size), none⟩) (b - a) (cap - a), .sl hp (by omega) ?_, fun w' _ => ?_⟩
    rotate_left
    · simp only [execOp, hv, Instr.sliceAt, underlying, Sem.run_bind, run_program, Result.andThen_ok, ht, Sem.run_pure, Instr.slice, Option.map_none, hbounds, he.sizeOf]
      by_cases hm : cap = a
      · rw [if_pos hm]
        rcases h0 with h0 | h0
        · subst h0; simp
        · omega
      · rw [if_neg hm]
        simp [addr_add, Nat.add_assoc]
    · rw [hpe, Nat.sub_mul]
      have : a * size ≤ cap * size := Nat.mul_le_mul_right _ (by omega)
      omega

/-- A slice that is made, of zeros. -/
theorem wl_makeSlice {t e : TypeId} {n : Nat} {agg : Bool} {size bytes : Nat} {z : Value} {cs : List AV} (hx : S.ev x = some (.lit (.int .i64 (n : Int)))) (hy : S.ev y = some (.lit (.int .i64 (n : Int)))) (ht : E.P.underlying t = some (.slice e)) (he : Ty E.P e agg size bytes z) (hz : z.cells.size = size) (hs0 : 0 < size) (hz1 : ∀ v ∈ z.cells.toList, v.oneCell' = true)
    (h63 : (n : Int) ≤ 9223372036854775807) (hlim : n * bytes ≤ 281474976710656) (hcs : ((List.range (n * size)).map fun i => AV.lit (z.cells.toList.getD (i % size) undef)) = cs) (hd : okd E d = true)
    (k : WL E ops l Q (S.put d (.sl σ.length 0 n)) (σ ++ [⟨.own, size, cs, []⟩])) : WL E ops (⟨d, .makeSlice t x y, ty, pos, af, none⟩ :: l) Q S σ := by
  refine wl_value rfl hd fun a w ρ hw => ?_
  have e1 := R_lit (hw.ev hx)
  have e2 := R_lit (hw.ev hy)
  obtain ⟨inf, i1, i2, i3, i4⟩ := he.get
  let Z : Array Value := (Array.range (n * size)).map (fun i => z.cells.toList.getD (i % size) undef)
  have hZ : (Array.range (n * size)).map (fun i => (if n * size = 0 then (#[] : Array Value) else z.cells)[i % (if n * size = 0 then (#[] : Array Value) else z.cells).size]!) = Z := by
    by_cases h0 : n * size = 0
    · simp [Z, h0]
    · simp only [Z, if_neg h0]
      apply Array.ext (by simp)
      intro i hi1 hi2
      simp only [Array.getElem_map, Array.getElem_range]
      have hm := Nat.mod_lt i hs0
      rw [hz, getElem!_pos z.cells _ (by omega)]
      simp [List.getD_eq_getElem?_getD, hz, hm]
  have hrs : Rs ρ cs Z.toList := by
    rw [← hcs]
    have := Rs.lits ρ ((List.range (n * size)).map fun i => z.cells.toList.getD (i % size) undef)
    rw [List.map_map] at this
    have hZl : Z.toList = (List.range (n * size)).map fun i => z.cells.toList.getD (i % size) undef := by simp only [Z, Array.toList_map, Array.toList_range]
    rw [hZl]
    exact this
  have hone : ∀ c ∈ cs, c.one = true := by
    rw [← hcs]
    intro c hc
    simp only [List.mem_map, List.mem_range] at hc
    obtain ⟨i, hi, rfl⟩ := hc
    have hm := Nat.mod_lt i hs0
    have : z.cells.toList.getD (i % size) undef ∈ z.cells.toList := by
      rw [List.getD_eq_getElem?_getD, List.getElem?_eq_getElem (by simp; omega)]
      simp
    have := hz1 _ this
    revert this
    cases z.cells.toList.getD (i % size) undef <;> simp [AV.one, Value.oneCell']
  refine ⟨.slice (some ⟨w.heap.size, 0, none⟩) n n, w.alloc (.cells Z e), .sl σ.length 0 n, _, more ρ σ.length ⟨w.heap.size, 0, Z.size, size, true⟩, ?_, ?_, ?_, k⟩
  · have hw64 : IntKind.i64.wrap (n : Int) = (n : Int) := by
      rw [IntKind.wrap_i64]; omega
    have hbt : ¬ (281474976710656 < (bytes : Int) * (n : Int)) := by
      have : ((bytes * n : Nat) : Int) ≤ 281474976710656 := by rw [Nat.mul_comm]; omega
      simp at this; omega
    simp only [execOp, e1, e2, Instr.makeSlice, asInt, asIntOf, underlying, Sem.run_bind, run_program, Result.andThen_ok, ht, Sem.run_pure, typeInfo, i1, i4, hw64]
    rw [if_neg (by simp; omega)]
    simp only [Sem.run_bind, run_askRoom, Result.andThen_ok, he.sizeOf, Sem.run_pure, Int.toNat_natCast, Sem.run_ite]
    by_cases h0 : n * size = 0
    · simp only [h0, if_true, Sem.run_pure, Result.andThen_ok] at hZ ⊢
      rw [hZ]
      simp [newRow, World.alloc_eq]
    · simp only [h0, if_false, Sem.run_bind, Sem.run_pure, he.zeroValue, Result.andThen_ok] at hZ ⊢
      rw [hZ]
      simp [newRow, World.alloc_eq]
  · refine R.sl (p := ⟨w.heap.size, 0, Z.size, size, true⟩) (more_at _ _ _) (Nat.le_refl _) ?_
    simp [Z]
  · exact hw.newCells cs Z size e (by simpa using CellsR.of_Rs hrs hone)

/-- An operation that is not wanted. -/
theorem wl_off {o : Oper} {j : Nat} {b want : Bool} {oj : Oper} {dj : Tmp} (hg : o.guard = some (j, want)) (hj : ops[j]? = some oj) (hdj : oj.dst = some dj) (hb : S.get dj = some (.lit (.bool b))) (hne : b ≠ want) (k : WL E ops l Q (S.put o.dst (.lit undef)) σ) (hd : okd E o.dst = true) :
    WL E ops (o :: l) Q S σ := by
  intro a w ρ hw
  obtain ⟨u, h1, h2⟩ := hw.slots dj _ hb
  have hu := R_lit h2; subst hu
  have hy : yielded ops a.tmps j = some b := by simp [yielded, hj, hdj, h1]
  have hw' : Region.wanted o (yielded ops a.tmps) = false := by simp [Region.wanted, hg, hy, hne]
  simp only [wpOpsL, hw']
  exact k _ _ _ (hw.put hd (.lit _))
/-- An operation that is wanted. -/
theorem wl_on {d : Option Tmp} {op : Op} {ty : TypeId} {pos : String} {af : Array Edge} {j : Nat} {b want : Bool} {oj : Oper} {dj : Tmp} (hj : ops[j]? = some oj) (hdj : oj.dst = some dj) (hb : S.get dj = some (.lit (.bool b))) (heq : b = want)
    (k : WL E ops (⟨d, op, ty, pos, af, none⟩ :: l) Q S σ) : WL E ops (⟨d, op, ty, pos, af, some (j, want)⟩ :: l) Q S σ := by
  intro a w ρ hw
  obtain ⟨u, h1, h2⟩ := hw.slots dj _ hb
  have hu := R_lit h2; subst hu
  have hy : yielded ops a.tmps j = some b := by simp [yielded, hj, hdj, h1]
  have hw' : Region.wanted (⟨d, op, ty, pos, af, some (j, want)⟩ : Oper) (yielded ops a.tmps) = true := by simp [Region.wanted, hy, heq]
  have := k a w ρ hw
  simp only [wpOpsL, Region.wanted, if_true] at this
  simp only [wpOpsL, hw', if_true]
  exact this
end
end Go.Proofs.Ytemhpkfijoodkaa.Asl
