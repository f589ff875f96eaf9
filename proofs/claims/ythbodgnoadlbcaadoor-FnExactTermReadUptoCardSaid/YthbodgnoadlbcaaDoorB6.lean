/- More rules: pairs of numbers compared, maps, rows cleared and cut. -/
import Derived.Test.YthbodgnoadlbcaaDoorBB
import Derived.Test.YthbodgnoadlbcaaDoorPP
import Derived.Laws.StructEq
import Derived.MapKept
namespace Go.Proofs.YthbodgnoadlbcaaDoor.Asl
open Go.RowKit Go.Proofs.YthbodgnoadlbcaaDoorW.PrintLast
set_option linter.unusedVariables false
set_option linter.unusedSimpArgs false

/-- A struct of two numbers that can be compared. -/
class EqMv (P : Program) (t : TypeId) : Prop where
  st : ∃ f0 f1 : Field, P.underlying t = some (.struct #[f0, f1]) ∧ f0.offset = 0 ∧ f1.offset = 1 ∧ f0.name ≠ "_" ∧ f1.name ≠ "_" ∧ (∃ s b z, Ty P f0.type false s b z) ∧ (∃ s b z, Ty P f1.type false s b z) ∧ (∃ k, P.underlying f0.type = some (.int k)) ∧ (∃ k, P.underlying f1.type = some (.int k))
  held : P.stoodInHeld t = false
  guard : P.eqGuardType P.depth t = false
theorem EqMv.run {P : Program} {t : TypeId} (h : EqMv P t) (w : World) (k k' : IntKind) (a b a' b' : Int) : (Op.equal t (.agg #[.int k a, .int k' b]) (.agg #[.int k a', .int k' b'])).run P w = .ok (decide (a = a' ∧ b = b')) w := by
  obtain ⟨f0, f1, hs, o0, o1, n0, n1, ⟨_, _, _, t0⟩, ⟨_, _, _, t1⟩, ⟨_, i0⟩, ⟨_, i1⟩⟩ := h.st
  have hf : P.fieldsOf t = #[f0, f1] := by simp [Program.fieldsOf, hs]
  unfold Op.equal
  rw [show Op.maxDepth = 9998 + 1 + 1 from rfl, run_equalIn_struct (P := P) w _ t _ _ (by rw [hf]; exact hs) h.held, hf]
  have p0 : ∀ x y : Value, (part f0.type #[x, y] 0).run P w = .ok x w := fun x y => by simp [part, t0.isAgg]
  have p1 : ∀ x y : Value, (part f1.type #[x, y] 1).run P w = .ok y w := fun x y => by simp [part, t1.isAgg]
  simp only [Op.eqFields, if_pos n0, if_pos n1, Sem.run_bind, o0, o1, p0, p1, Result.andThen_ok, run_equalIn_int w _ _ _ _ _ _ i0, run_equalIn_int w _ _ _ _ _ _ i1, Sem.run_ite, Sem.run_pure]
  by_cases e : a = a'
  · by_cases e2 : b = b' <;> simp [e, e2]
  · simp [e]

/-- Keys of a kind. -/
class Key (κ : Type) where
  enc : κ → Value
  kind : TypeDesc → Prop
  same : ∀ d a b, kind d → Instr.sameNow d (enc a) (enc b) = some (prB (a = b))
  isKey : ∀ d a, kind d → MapKept.IsKey d (enc a)
noncomputable instance keyInt : Key Int := ⟨.int .i64, fun d => d = .int .i64, by
  rintro _ a b rfl
  simp only [Instr.sameNow, if_true]
  exact congrArg some (prB_eq beq_iff_eq), by
  rintro _ a rfl; rfl⟩
noncomputable instance keyStr : Key ByteArray := ⟨.string, fun d => d = .string, by
  rintro _ a b rfl
  simp only [Instr.sameNow]
  rw [beq_toListBytes]
  refine congrArg some (prB_eq ?_)
  rw [beq_iff_eq]
  constructor
  · intro h
    rw [ByteArray.toList_eq, ByteArray.toList_eq] at h
    obtain ⟨⟨x⟩⟩ := a
    obtain ⟨⟨y⟩⟩ := b
    simp at h; rw [h]
  · intro h; rw [h], by
  rintro _ a rfl; trivial⟩
/-- An own map. -/
abbrev MapOb {κ : Type} [Key κ] (l : List (κ × AV)) : Ob := ⟨.map, 0, [], l.map fun x => (Key.enc x.1, x.2)⟩
/-- What a map holds of a key. -/
noncomputable def mget {κ : Type} (k : κ) : List (κ × AV) → Option AV
  | [] => none
  | x :: l => match prB (k = x.1) with
    | true => some x.2
    | false => mget k l
section
variable {E : Env} {ops : Array Oper} {l : List Oper} {Q : Exit → Slots → Store → Prop} {S : Slots} {σ σ₀ : Store} {d : Option Tmp} {ty : TypeId} {pos : String} {af : Array Edge} {g : Option (Nat × Bool)} {n0 : Nat} {x y : Operand}
theorem Sim.map {base : Nat} {ρ : Pl} {w : World} {κ : Type} [Key κ] (h : Sim base ρ σ w) {id : Nat} {p : Place} {m : List (κ × AV)} (ho : Has σ id (MapOb m)) (hp : ρ id = some p) :
    p.own = true ∧ base ≤ p.blk ∧ ∃ (es : Array MapEntry) (clock : Nat), w.heap[p.blk]? = some (.map es clock) ∧ es.toList.length = m.length ∧ ∀ (i : Nat) (x : κ × AV), m[i]? = some x → ∃ e : MapEntry, es.toList[i]? = some e ∧ e.key = Key.enc x.1 ∧ R ρ x.2 e.val := by
  have := h.obs id _ p ho.get hp
  unfold ObRel at this
  simp only at this
  obtain ⟨h1, h2, es, clock, h3, h4, h5⟩ := this
  refine ⟨h1, h2, es, clock, h3, by simpa using h4, fun i x hx => ?_⟩
  obtain ⟨e, k1, k2, k3⟩ := h5 i (Key.enc x.1) x.2 (by rw [List.getElem?_map, hx]; rfl)
  exact ⟨e, by simpa using k1, k2, k3⟩
end
end Go.Proofs.YthbodgnoadlbcaaDoor.Asl
