/- The program logic's rules for what is made: variables, structs, rows; addresses, lengths. -/
import Derived.Test.YtemhpkfijoodkaaA3
namespace Go.Proofs.Ytemhpkfijoodkaa.Asl
open Go.RowKit
set_option linter.unusedVariables false
set_option linter.unusedSimpArgs false

theorem CellsR.of_Rs {ρ : Pl} {cs : List AV} {us : List Value} (h : Rs ρ cs us) (h1 : ∀ c ∈ cs, c.one = true) : CellsR ρ cs us.toArray :=
  ⟨by simp [h.length], fun i c hc => ⟨h1 c (List.mem_of_getElem? hc), let ⟨u, h2, h3⟩ := h.get i c hc; ⟨u, by simpa using h2, h3⟩⟩⟩
theorem Rs.lits (ρ : Pl) : ∀ (us : List Value), Rs ρ (us.map .lit) us
  | [] => .nil
  | u :: us => .cons (.lit u) (Rs.lits ρ us)

section
variable {E : Env} {ops : Array Oper} {l : List Oper} {Q : Exit → Slots → Store → Prop} {S : Slots} {σ : Store} {d : Option Tmp} {ty : TypeId} {pos : String} {af : Array Edge} {g : Option (Nat × Bool)} {n0 : Nat} {x y : Operand}

/-- A new variable that holds a value. -/
theorem wl_box {t : TypeId} {r : AV} {cs : List AV} (esz : Nat) (hx : S.ev x = some r) (hcs : r.cells = cs) (h1 : ∀ c ∈ cs, c.one = true) (hd : okd E d = true)
    (k : WL E ops l Q (S.put d (.pt σ.length 0)) (σ ++ [⟨.own, esz, cs, []⟩])) : WL E ops (⟨d, .box t x, ty, pos, af, none⟩ :: l) Q S σ := by
  refine wl_value rfl hd fun a w ρ hw => ?_
  have e := hw.ev hx
  have hrs := AV.cells_Rs e
  rw [hcs] at hrs
  refine ⟨.pointer (some ⟨w.heap.size, 0, none⟩), w.alloc (.cells (a.eval x).cells t), .pt σ.length 0, _, more ρ σ.length ⟨w.heap.size, 0, (a.eval x).cells.size, esz, true⟩, ?_, ?_, ?_, k⟩
  · simp [execOp, Instr.box, newVar, newRow, World.alloc_eq]
  · exact .pt (more_at _ _ _)
  · have := hw.newCells cs (a.eval x).cells esz t (by simpa using CellsR.of_Rs hrs h1)
    exact this
/-- A new variable that holds its type's zero value. -/
theorem wl_alloc {t : TypeId} {agg : Bool} {size bytes : Nat} {z : Value} {cs : List AV} (esz : Nat) (ht : Ty E.P t agg size bytes z) (hcs : z.cells.toList.map .lit = cs) (h1 : ∀ c ∈ cs, c.one = true) (hd : okd E d = true)
    (k : WL E ops l Q (S.put d (.pt σ.length 0)) (σ ++ [⟨.own, esz, cs, []⟩])) : WL E ops (⟨d, .alloc t, ty, pos, af, none⟩ :: l) Q S σ := by
  refine wl_value rfl hd fun a w ρ hw => ?_
  have hrs := Rs.lits ρ z.cells.toList
  rw [hcs] at hrs
  refine ⟨.pointer (some ⟨w.heap.size, 0, none⟩), w.alloc (.cells z.cells t), .pt σ.length 0, _, more ρ σ.length ⟨w.heap.size, 0, z.cells.size, esz, true⟩, ?_, ?_, ?_, k⟩
  · simp [execOp, Instr.alloc, newVar, newRow, World.alloc_eq, ht.zeroValue]
  · exact .pt (more_at _ _ _)
  · have := hw.newCells cs z.cells esz t (by simpa using CellsR.of_Rs hrs h1)
    exact this

/-- Where a struct's field lies. -/
class FieldAt (P : Program) (s : TypeId) (i : Nat) (off : outParam Nat) : Prop where
  ok : ∃ (fs : Array Field) (f : Field), P.underlying s = some (.struct fs) ∧ fs[i]? = some f ∧ f.offset = off ∧ ∃ agg size bytes z, Ty P f.type agg size bytes z ∧ size ≠ 0
/-- The address of a field. -/
theorem po_fieldAddr {s : TypeId} {i id off fo : Nat} (hx : S.ev x = some (.pt id off)) (hf : FieldAt E.P s i fo) :
    PO E S σ n0 ⟨d, .fieldAddr s x i, ty, pos, af, g⟩ (.pt id (off + fo)) := by
  intro a w ρ W0 hw hag hn
  obtain ⟨fs, f, hs, hfi, rfl, agg, size, bytes, z, ht, hz⟩ := hf.ok
  have h1 := hw.ev hx
  generalize hv : a.eval x = v at h1
  cases h1 with
  | @pt _ _ p hp =>
    refine ⟨.pointer (some ⟨p.blk, p.off + off + f.offset, none⟩), by rw [Nat.add_assoc]; exact .pt hp, fun w' _ => ?_⟩
    simp only [execOp, hv, Instr.fieldAt, underlying, Sem.run_bind, run_program, Result.andThen_ok, hs, Sem.run_pure, hfi, Instr.sureAddr, fieldPlace, ht.sizeOf, if_neg hz, addr_add]

/-- The address of an element. -/
theorem po_indexAddr {t e : TypeId} {id off len : Nat} {i : Int} {o : Ob} {agg : Bool} {size bytes : Nat} {z : Value} (hx : S.ev x = some (.sl id off len)) (hy : S.ev y = some (.lit (.int .i64 i))) (ht : E.P.underlying t = some (.slice e)) (he : Ty E.P e agg size bytes z)
    (h0 : 0 ≤ i) (h1 : i < (len : Int)) :
    PO E S σ n0 ⟨d, .indexAddr t x y, ty, pos, af, g⟩ (.pt id (off + i.toNat * size)) := by
  intro a w ρ W0 hw hag hn
  have e1 := hw.ev hx
  have e2 := R_lit (hw.ev hy)
  generalize hv : a.eval x = v at e1
  cases e1 with
  | @sl _ _ _ cap p hp hle hroom =>
    refine ⟨.pointer (some ⟨p.blk, p.off + off + i.toNat * size, none⟩), by rw [Nat.add_assoc]; exact .pt hp, fun w' _ => ?_⟩
    simp only [execOp, hv, e2, Instr.indexAt, asIntOf, underlying, Sem.run_bind, run_program, Result.andThen_ok, ht, Sem.run_pure, he.sizeOf, addr_add]
    rw [if_pos ⟨h0, h1⟩]
    simp only [Sem.run_bind, he.sizeOf, Result.andThen_ok, Sem.run_pure, addr_add]

/-- How long a slice is. -/
theorem po_len {t ri : TypeId} {id off len : Nat} {e : TypeId} (hx : S.ev x = some (.sl id off len)) (ht : E.P.underlying t = some (.slice e)) :
    PO E S σ n0 ⟨d, .call ⟨.builtin .len, #[x], #[t]⟩, ty, pos, af, g⟩ (.lit (.int .i64 (len : Int))) := by
  intro a w ρ W0 hw hag hn
  have e1 := hw.ev hx
  generalize hv : a.eval x = v at e1
  cases e1 with
  | @sl _ _ _ cap p hp hle hroom =>
    refine ⟨_, .lit _, fun w' _ => ?_⟩
    simp [execOp, resolve, invoke, builtin, Builtin.len_, hv, underlying, ht, goInt]
theorem po_len_nil {t ri : TypeId} {e : TypeId} {n c : Nat} (hx : S.ev x = some (.lit (.slice none n c))) (ht : E.P.underlying t = some (.slice e)) :
    PO E S σ n0 ⟨d, .call ⟨.builtin .len, #[x], #[t]⟩, ty, pos, af, g⟩ (.lit (.int .i64 (n : Int))) := by
  intro a w ρ W0 hw hag hn
  have e1 := R_lit (hw.ev hx)
  refine ⟨_, .lit _, fun w' _ => ?_⟩
  simp [execOp, resolve, invoke, builtin, Builtin.len_, e1, underlying, ht, goInt]
theorem po_len_str {t : TypeId} {s : ByteArray} (hx : S.ev x = some (.lit (.string s))) (ht : E.P.underlying t = some .string) :
    PO E S σ n0 ⟨d, .call ⟨.builtin .len, #[x], #[t]⟩, ty, pos, af, g⟩ (.lit (.int .i64 (s.size : Int))) := by
  intro a w ρ W0 hw hag hn
  have e1 := R_lit (hw.ev hx)
  refine ⟨_, .lit _, fun w' _ => ?_⟩
  simp [execOp, resolve, invoke, builtin, Builtin.len_, e1, underlying, ht, goInt]

theorem po_binOp {op : BinOp} {xt yt : TypeId} {a b z : Value} (hx : S.ev x = some (.lit a)) (hy : S.ev y = some (.lit b)) (hz : binLit op a b = some z) :
    PO E S σ n0 ⟨d, .binOp op xt x y yt, ty, pos, af, g⟩ (.lit z) := by
  intro A w ρ W0 hw hag hn
  refine ⟨z, .lit _, fun w' _ => ?_⟩
  have e1 := R_lit (hw.ev hx)
  have e2 := R_lit (hw.ev hy)
  have := run_binLit (P := E.P) (w := w') (t := xt) (x := x) (y := y) hz
  simp only [execOp, e1, e2]
  rw [Sem.run_bind, this]
  rfl
theorem po_not {xt : TypeId} {b : Bool} (hx : S.ev x = some (.lit (.bool b))) :
    PO E S σ n0 ⟨d, .unOp .not xt x, ty, pos, af, g⟩ (.lit (.bool !b)) := by
  intro a w ρ W0 hw hag hn
  refine ⟨_, .lit _, fun w' _ => ?_⟩
  simp [execOp, R_lit (hw.ev hx), Op.unary]
theorem po_neg {xt : TypeId} {kd : IntKind} {n : Int} (hx : S.ev x = some (.lit (.int kd n))) :
    PO E S σ n0 ⟨d, .unOp .neg xt x, ty, pos, af, g⟩ (.lit (.int kd (kd.wrap (0 - n)))) := by
  intro a w ρ W0 hw hag hn
  refine ⟨_, .lit _, fun w' _ => ?_⟩
  simp [execOp, R_lit (hw.ev hx), Op.unary, Op.intArith]
theorem po_pick {c : Operand} {b : Bool} {r : AV} (hc : S.ev c = some (.lit (.bool b))) (hr : (if b then S.ev x else S.ev y) = some r) :
    PO E S σ n0 ⟨d, .pick c x y, ty, pos, af, g⟩ (r) := by
  intro a w ρ W0 hw hag hn
  have e := R_lit (hw.ev hc)
  cases b with
  | true => exact ⟨a.eval x, hw.ev hr, fun w' _ => by simp [execOp, e, asBool]⟩
  | false => exact ⟨a.eval y, hw.ev hr, fun w' _ => by simp [execOp, e, asBool]⟩
theorem po_convInt {s t : TypeId} {k1 k2 : IntKind} {n : Int} (hx : S.ev x = some (.lit (.int k1 n))) (hs : E.P.underlying s = some (.int k1)) (ht : E.P.underlying t = some (.int k2)) :
    PO E S σ n0 ⟨d, .convert s t x, ty, pos, af, g⟩ (.lit (.int k2 (k2.wrap n))) := by
  intro a w ρ W0 hw hag hn
  refine ⟨_, .lit _, fun w' _ => ?_⟩
  simp [execOp, R_lit (hw.ev hx), convert, underlying, hs, ht, Conv.intToInt]
theorem po_extract {i : Nat} {rs : List AV} {r : AV} (hx : S.ev x = some (.tup rs)) (hr : rs[i]? = some r) :
    PO E S σ n0 ⟨d, .extract x i, ty, pos, af, g⟩ (r) := by
  intro a w ρ W0 hw hag hn
  have e := hw.ev hx
  generalize hv : a.eval x = v at e
  cases e with
  | tup h =>
    obtain ⟨u, h1, h2⟩ := h.get i r hr
    exact ⟨u, h2, fun w' _ => by simp [execOp, hv, Instr.extract, h1]⟩
theorem po_nilCheck {id off : Nat} (hx : S.ev x = some (.pt id off)) :
    PO E S σ n0 ⟨d, .nilCheck x, ty, pos, af, g⟩ (.pt id off) := by
  intro a w ρ W0 hw hag hn
  have e := hw.ev hx
  generalize hv : a.eval x = v at e
  cases e with
  | pt hp => exact ⟨_, .pt hp, fun w' _ => by simp [execOp, hv]⟩
theorem po_makeFunc {f : FuncId} {first caps : Array Operand} {rs : List AV} (hf : first = #[]) (hc : caps.toList.mapM S.ev = some rs) :
    PO E S σ n0 ⟨d, .makeFunc (.func f) first caps, ty, pos, af, g⟩ (.fn f rs) := by
  intro a w ρ W0 hw hag hn
  have key : ∀ (xs : List Operand) (rs : List AV), xs.mapM S.ev = some rs → Rs ρ rs (xs.map a.eval) := by
    intro xs
    induction xs with
    | nil => intro rs h; simp at h; subst h; exact .nil
    | cons x xs ih =>
      intro rs h
      rw [List.mapM_cons] at h
      cases h1 : S.ev x with
      | none => rw [h1] at h; simp at h
      | some r =>
        cases h2 : xs.mapM S.ev with
        | none => rw [h1, h2] at h; simp at h
        | some rs' =>
          rw [h1, h2] at h
          simp at h
          subst h
          exact .cons (hw.ev h1) (ih rs' h2)
  refine ⟨.func (.func f) #[] (caps.toList.map a.eval).toArray, .fn (key _ _ hc), fun w' _ => ?_⟩
  subst hf
  simp [execOp, Instr.makeFunc, ← Array.toList_map]
end
end Go.Proofs.Ytemhpkfijoodkaa.Asl
