/- More rules: pairs of numbers compared, maps, rows cleared and cut. -/
import Derived.Test.YthbodgnoadlbcaaGreatDoorBB
import Derived.Test.YthbodgnoadlbcaaGreatDoorPP
import Derived.Laws.StructEq
import Derived.MapKept
namespace Go.Proofs.YthbodgnoadlbcaaGreatDoor.Asl
open Go.RowKit Go.Proofs.YthbodgnoadlbcaaGreatDoorW.PrintLast
set_option linter.unusedVariables false
set_option linter.unusedSimpArgs false

class EqMv (P : Program) (t : TypeId) : Prop where
  st : ∃ f0 f1 : Field, P.underlying t = some (.struct #[f0, f1]) ∧ f0.offset = 0 ∧ f1.offset = 1 ∧ f0.name ≠ "_" ∧ f1.name ≠ "_" ∧ (∃ s b z, Ty P f0.type false s b z) ∧ (∃ s b z, Ty P f1.type false s b z) ∧ (∃ k, P.underlying f0.type = some (.int k)) ∧ (∃ k, P.underlying f1.type = some (.int k))
  held : P.stoodInHeld t = false
  guard : P.eqGuardType P.depth t = false
theorem EqMv.run {P : Program} {t : TypeId} (h : EqMv P t) (w : World) (k k' : IntKind) (a b a' b' : Int) : (Op.equal t (.agg #[.int k a, .int k' b]) (.agg #[.int k a', .int k' b'])).run P w = .ok (decide (a = a' ∧ b = b')) w := by
  obtain ⟨f0, f1, hs, o0, o1, n0, n1, ⟨_, _, _, t0⟩, ⟨_, _, _, t1⟩, ⟨_, i0⟩, ⟨_, i1⟩⟩ := h.st
  have hf : P.fieldsOf t = #[f0, f1] := by simp [Program.fieldsOf, hs]
  unfold Op.equal
  rw [show Op.maxDepth = 9998 + 1 + 1 from rfl, run_equalIn_struct (P := P) w _ t _ _ (by rw [hf]; exact hs) h.held, hf]
  have p0 : ∀ x y : Value, (part f0.type #[x, y] 0).run P w = .ok x w := fun x y => by simp [part, t0.isAgg]
  have p1 : ∀ x y : Value, (part f1.type #[x, y] 1).run P w = .ok y w := fun x y => by simp [part, t1.isAgg]
  simp only [Op.eqFields, if_pos n0, if_pos n1, Sem.run_bind, o0, o1, p0, p1, Result.andThen_ok, run_equalIn_int w _ _ _ _ _ _ i0, run_equalIn_int w _ _ _ _ _ _ i1, Sem.run_ite, Sem.run_pure]
  by_cases e : a = a'
  · by_cases e2 : b = b' <;> simp [e, e2]
  · simp [e]

class Key (κ : Type) where
  enc : κ → Value
  kind : TypeDesc → Prop
  same : ∀ d a b, kind d → Instr.sameNow d (enc a) (enc b) = some (prB (a = b))
  isKey : ∀ d a, kind d → MapKept.IsKey d (enc a)
noncomputable instance keyInt : Key Int := ⟨.int .i64, fun d => d = .int .i64, by
  rintro _ a b rfl
  simp only [Instr.sameNow, if_true]
  exact congrArg some (prB_eq beq_iff_eq), by
  rintro _ a rfl; rfl⟩
noncomputable instance keyStr : Key ByteArray := ⟨.string, fun d => d = .string, by
  rintro _ a b rfl
  simp only [Instr.sameNow]
  rw [beq_toListBytes]
  refine congrArg some (prB_eq ?_)
  rw [beq_iff_eq]
  constructor
  · intro h
    rw [ByteArray.toList_eq, ByteArray.toList_eq] at h
    obtain ⟨⟨x⟩⟩ := a
    obtain ⟨⟨y⟩⟩ := b
    simp at h; rw [h]
  · intro h; rw [h], by
  rintro _ a rfl; trivial⟩
abbrev MapOb {κ : Type} [Key κ] (l : List (κ × AV)) : Ob := ⟨.map, 0, [], l.map fun x => (Key.enc x.1, x.2)⟩
noncomputable def mget {κ : Type} (k : κ) : List (κ × AV) → Option AV
  | [] => none
  | x :: l => match prB (k = x.1) with
    | true => some x.2
    | false => mget k l
theorem findNow_spec {κ : Type} [Key κ] {d : TypeDesc} (hd : Key.kind κ d) {ρ : Pl} (k : κ) : ∀ (l : List (κ × AV)) (es : List MapEntry) (i : Nat), es.length = l.length → (∀ (j : Nat) (x : κ × AV), l[j]? = some x → ∃ e : MapEntry, es[j]? = some e ∧ e.key = Key.enc x.1 ∧ R ρ x.2 e.val) →
    (mget k l = none ∧ Instr.findNow d (Key.enc k) es i = some none) ∨ ∃ (j : Nat) (v : AV) (u : Value), mget k l = some v ∧ R ρ v u ∧ Instr.findNow d (Key.enc k) es i = some (some (i + j, u))
  | [], es, i, hl, h => by
    obtain rfl : es = [] := by simpa using hl
    exact .inl ⟨rfl, rfl⟩
  | x :: l, [], i, hl, h => by simp at hl
  | x :: l, e :: es, i, hl, h => by
    obtain ⟨e', h1, h2, h3⟩ := h 0 x rfl
    simp at h1; subst h1
    have hs := Key.same d k x.1 hd
    rw [← h2] at hs
    unfold Instr.findNow mget
    rw [hs]
    cases hb : prB (k = x.1) with
    | true => exact .inr ⟨0, _, _, rfl, h3, rfl⟩
    | false =>
      simp only
      rcases findNow_spec hd k l es (i + 1) (by simpa using hl) (fun j y hy => by simpa using h (j + 1) y (by simpa using hy)) with ⟨a, b⟩ | ⟨j, v, u, a, b, c⟩
      · exact .inl ⟨a, b⟩
      · exact .inr ⟨j + 1, v, u, a, b, by rw [c]; congr 3; omega⟩

section
variable {E : Env} {ops : Array Oper} {l : List Oper} {Q : Exit → Slots → Store → Prop} {S : Slots} {σ σ₀ : Store} {d : Option Tmp} {ty : TypeId} {pos : String} {af : Array Edge} {g : Option (Nat × Bool)} {n0 : Nat} {x y : Operand}
theorem R_agg2 {ρ : Pl} {a b : Int} {v : Value} (h : R ρ (.agg [I a, I b]) v) : v = .agg #[.int .i64 a, .int .i64 b] := by
  cases h with
  | agg h =>
    cases h with
    | cons h1 h2 =>
      cases h2 with
      | cons h2 h3 =>
        cases h3
        rw [R_lit h1, R_lit h2]
theorem pc_eqMv {xt yt : TypeId} {a b a' b' : Int} (hx : S.ev x = some (.agg [I a, I b])) (hy : S.ev y = some (.agg [I a', I b'])) (ht : EqMv E.P xt) :
    PO E S σ n0 ⟨d, .binOp .eql xt x y yt, ty, pos, af, g⟩ (.lit (.bool (decide (a = a' ∧ b = b')))) := by
  intro A w ρ W0 hw hag hn
  refine ⟨_, .lit _, fun w' _ => ?_⟩
  have e1 := R_agg2 (hw.ev hx)
  have e2 := R_agg2 (hw.ev hy)
  simp only [execOp, e1, e2, Sem.run_bind, run_eqGuard_agg w' _ _ _ _ _ _ ht.guard, Result.andThen_ok, binOp, ht.run, Sem.run_pure]
theorem pc_neMv {xt yt : TypeId} {a b a' b' : Int} (hx : S.ev x = some (.agg [I a, I b])) (hy : S.ev y = some (.agg [I a', I b'])) (ht : EqMv E.P xt) :
    PO E S σ n0 ⟨d, .binOp .neq xt x y yt, ty, pos, af, g⟩ (.lit (.bool (!decide (a = a' ∧ b = b')))) := by
  intro A w ρ W0 hw hag hn
  refine ⟨_, .lit _, fun w' _ => ?_⟩
  have e1 := R_agg2 (hw.ev hx)
  have e2 := R_agg2 (hw.ev hy)
  simp only [execOp, e1, e2, Sem.run_bind, run_eqGuard_agg w' _ _ _ _ _ _ ht.guard, Result.andThen_ok, binOp, ht.run, Sem.run_pure]

theorem Sim.map {base : Nat} {ρ : Pl} {w : World} {κ : Type} [Key κ] (h : Sim base ρ σ w) {id : Nat} {p : Place} {m : List (κ × AV)} (ho : Has σ id (MapOb m)) (hp : ρ id = some p) :
    p.own = true ∧ base ≤ p.blk ∧ ∃ (es : Array MapEntry) (clock : Nat), w.heap[p.blk]? = some (.map es clock) ∧ es.toList.length = m.length ∧ ∀ (i : Nat) (x : κ × AV), m[i]? = some x → ∃ e : MapEntry, es.toList[i]? = some e ∧ e.key = Key.enc x.1 ∧ R ρ x.2 e.val := by
  have := h.obs id _ p ho.get hp
  unfold ObRel at this
  simp only at this
  obtain ⟨h1, h2, es, clock, h3, h4, h5⟩ := this
  refine ⟨h1, h2, es, clock, h3, by simpa using h4, fun i x hx => ?_⟩
  obtain ⟨e, k1, k2, k3⟩ := h5 i (Key.enc x.1) x.2 (by rw [List.getElem?_map, hx]; rfl)
  exact ⟨e, by simpa using k1, k2, k3⟩
theorem pc_lookupOk {κ : Type} [Key κ] {t kt et : TypeId} {kd : TypeDesc} {id : Nat} {m : List (κ × AV)} {k : κ} {agg : Bool} {size bytes : Nat} {z : Value} {r : AV} {b : Bool} (hx : S.ev x = some (.mp id)) (hy : S.ev y = some (.lit (Key.enc k))) (ht : E.P.underlying t = some (.map kt et)) (hk : E.P.underlying kt = some kd) (hkd : Key.kind κ kd) (he : Ty E.P et agg size bytes z)
    (h : Has σ₀ id (MapOb m)) (hl : LeS σ₀ σ) (hr : (mget k m).getD (.lit z) = r) (hb : (mget k m).isSome = b) : PO E S σ σ₀.length ⟨d, .lookup t x y true, ty, pos, af, g⟩ (.tup [r, Bo b]) := by
  intro A w ρ W0 hw hag hn
  have e1 := hw.ev hx
  have e2 := R_lit (hw.ev hy)
  generalize hv : A.eval x = v at e1
  cases e1 with
  | @mp _ p hp =>
    have h' : Has σ id (MapOb m) := ⟨hl.keep _ _ h.get⟩
    obtain ⟨_, _, es, clock, h3, h4, h5⟩ := hw.sim.map h' hp
    have hlt := hn _ _ hp h.lt
    have key : ∀ w', Agree W0 w' → w'.heap[p.blk]? = some (.map es clock) := fun w' hw' => by rw [hw'.block _ hlt, ← hag.block _ hlt]; exact h3
    have hz : ∀ w', (zeroValue et).run E.P w' = .ok z w' := fun w' => he.zeroValue
    rcases findNow_spec hkd k m es.toList 0 h4 h5 with ⟨a, b'⟩ | ⟨j, v', u, a, b', c⟩
    · rw [a] at hr hb; simp at hr hb; subst hr hb
      refine ⟨.tuple #[z, .bool false], .tup (.cons (.lit z) (.cons (.lit _) .nil)), fun w' hw' => ?_⟩
      simp [execOp, hv, e2, Instr.lookup, run_underlying ht, MapKept.run_getObj_map (key w' hw'), MapKept.run_checkKey hk (Key.isKey kd k hkd), MapKept.run_findKey hk b', hz]
    · rw [a] at hr hb; simp at hr hb; subst hr hb
      refine ⟨.tuple #[u, .bool true], .tup (.cons b' (.cons (.lit _) .nil)), fun w' hw' => ?_⟩
      simp [execOp, hv, e2, Instr.lookup, run_underlying ht, MapKept.run_getObj_map (key w' hw'), MapKept.run_checkKey hk (Key.isKey kd k hkd), MapKept.run_findKey hk c]
theorem wc_makeMap {κ : Type} [Key κ] {t : TypeId} (hd : okd E d = true) (k : ∀ i σ', Grow σ σ' → New σ i → Has σ' i (MapOb ([] : List (κ × AV))) → WL E ops l Q (S.put d (.mp i)) σ') :
    WL E ops (⟨d, .makeMap t none, ty, pos, af, none⟩ :: l) Q S σ := by
  refine wl_value rfl hd fun a w ρ hw => ?_
  refine ⟨.map (some w.heap.size), w.alloc (.map #[] 0), .mp σ.length, σ ++ [⟨.map, 0, [], []⟩], more ρ σ.length ⟨w.heap.size, 0, 0, 0, true⟩, ?_, ?_, ?_, k _ _ (grow_push _) ⟨Nat.le_refl _⟩ (has_push _)⟩
  · simp [execOp, Instr.makeMap, newObj, Sem.run, Result.andThen]
  · exact .mp (more_at _ _ _)
  · exact hw.new _ _ _ rfl rfl ⟨rfl, hw.sim.le, #[], 0, alloc_at _ _, rfl, by simp⟩
theorem wc_mapNew {κ : Type} [Key κ] {op : Op} {z : Operand} {t kt et : TypeId} {kd : TypeDesc} {id : Nat} {m : List (κ × AV)} {k : κ} {v : AV} (hop : op = .mapUpdate t x y z ∨ op = .insert t x y z) (hx : S.ev x = some (.mp id)) (hy : S.ev y = some (.lit (Key.enc k))) (hz : S.ev z = some v) (ht : E.P.underlying t = some (.map kt et)) (hk : E.P.underlying kt = some kd) (hkd : Key.kind κ kd)
    (h : Has σ id (MapOb m)) (hn : mget k m = none) (hm : E.may id) (kk : ∀ σ', Upd σ id (MapOb (m ++ [(k, v)])) σ' → WL E ops l Q S σ') : WL E ops (⟨none, op, ty, pos, af, none⟩ :: l) Q S σ := by
  intro A w ρ hw
  have e1 := hw.ev hx
  have e2 := R_lit (hw.ev hy)
  have e3 := hw.ev hz
  generalize hv : A.eval x = v' at e1
  cases e1 with
  | @mp _ p hp =>
    obtain ⟨h1, h2, es, clock, h3, h4, h5⟩ := hw.sim.map h hp
    have hlt := hw.sim.size _ _ hp
    rcases findNow_spec hkd k m es.toList 0 h4 h5 with ⟨a, b⟩ | ⟨j, v', u, a, b, c⟩
    · have hrun : (execOp A.eval ⟨none, op, ty, pos, af, none⟩).run E.P w = .ok .skip { w with heap := w.heap.setIfInBounds p.blk (.map (es.push ⟨Key.enc k, A.eval z, clock⟩) (clock + 1)) } := by
        rcases hop with rfl | rfl <;>
        simp [execOp, hv, e2, Instr.mapUpdate, run_underlying ht, MapKept.run_getObj_map h3, MapKept.run_checkKey hk (Key.isKey kd k hkd), MapKept.run_findKey hk b, MapKept.run_setObj_map _ h3]
      simp only [wpOpsL, Region.wanted, if_true, Oper.wp, hrun, Oper.upon, Act.put]
      have hupd := upd_set h (MapOb (m ++ [(k, v)]))
      refine kk _ hupd A _ ρ (hw.write h.get hp (.inr rfl) (.inr rfl) hm rfl rfl rfl (by simp) (fun q hq => by simp [Array.getElem?_setIfInBounds_ne (Ne.symm hq)]) ?_)
      refine ⟨h1, h2, es.push ⟨Key.enc k, A.eval z, clock⟩, clock + 1, by simp [hlt], by simp at h4 ⊢; exact h4, fun i k' c hc => ?_⟩
      simp only [List.map_append, List.map_cons, List.map_nil] at hc
      rw [List.getElem?_append] at hc
      simp only [List.length_map] at hc
      have h4' : es.size = m.length := by simpa using h4
      split at hc
      · rename_i hi
        rw [List.getElem?_map] at hc
        cases hmi : m[i]? with
        | none => rw [hmi] at hc; cases hc
        | some xx =>
          rw [hmi] at hc
          simp at hc
          obtain ⟨rfl, rfl⟩ := hc
          obtain ⟨e, k1, k2, k3⟩ := h5 i xx hmi
          refine ⟨e, ?_, k2, k3⟩
          rw [Array.getElem?_push_lt (by omega)]
          have hi' : i < es.size := by omega
          have : es.toList[i]? = es[i]? := by simp
          rw [this, Array.getElem?_eq_getElem hi'] at k1
          exact k1
      · rename_i hi
        cases hq : i - m.length with
        | zero =>
          rw [hq] at hc
          simp at hc
          obtain ⟨rfl, rfl⟩ := hc
          have hi' : i = es.size := by omega
          subst hi'
          exact ⟨⟨Key.enc k, A.eval z, clock⟩, by simp, rfl, e3⟩
        | succ n => rw [hq] at hc; simp at hc
    · rw [a] at hn; cases hn

theorem pc_sliceLo {t e : TypeId} {id off len : Nat} {o : Ob} {y : Operand} {a : Nat} {agg : Bool} {size bytes : Nat} {z : Value} (hx : S.ev x = some (.sl id off len)) (hy : S.ev y = some (I (a : Int))) (ht : Un E.P t (.slice e)) (he : Ty E.P e agg size bytes z) (ho : Has σ id o) (hk : o.readable) (hesz : o.esz = size) (hab : a < len) :
    PO E S σ n0 ⟨d, .slice t x (some y) none none, ty, pos, af, g⟩ (.sl id (off + a * size) (len - a)) :=
  po_slice (lo := some y) (hi := none) hx ht.eq he ho.get hk hesz hy rfl (by omega) (Nat.le_refl _) (.inr hab)
theorem pc_sliceHi {t e : TypeId} {id off len : Nat} {o : Ob} {y : Operand} {b : Nat} {agg : Bool} {size bytes : Nat} {z : Value} (hx : S.ev x = some (.sl id off len)) (hy : S.ev y = some (I (b : Int))) (ht : Un E.P t (.slice e)) (he : Ty E.P e agg size bytes z) (ho : Has σ id o) (hk : o.readable) (hesz : o.esz = size) (hb : b ≤ len) :
    PO E S σ n0 ⟨d, .slice t x none (some y) none, ty, pos, af, g⟩ (.sl id off b) := by
  have := po_slice (E := E) (S := S) (σ := σ) (n0 := n0) (d := d) (ty := ty) (pos := pos) (af := af) (g := g) (lo := none) (hi := some y) (a := 0) hx ht.eq he ho.get hk hesz rfl hy (by omega) hb (.inl rfl)
  simpa using this

theorem Ctx.trim {a : Act} {w : World} {ρ : Pl} (hw : Ctx E S σ a w ρ) {id e : Nat} {cs : List AV} (h : Has σ id ⟨.own, e, cs, []⟩) (m : Nat) : Ctx E S (σ.set id ⟨.own, e, cs.take m, []⟩) a w ρ := by
  have hs := hw.sim
  refine { hw with sim := ?_, n₀_le := by simpa using hw.n₀_le }
  have key : ∀ (i : Nat) (x : Ob), (σ.set id ⟨.own, e, cs.take m, []⟩)[i]? = some x → (i = id ∧ x = ⟨.own, e, cs.take m, []⟩) ∨ (i ≠ id ∧ σ[i]? = some x) := by
    intro i x hx
    rw [List.getElem?_set] at hx
    by_cases e : id = i
    · subst e; rw [if_pos rfl, if_pos h.lt] at hx; cases hx; exact .inl ⟨rfl, rfl⟩
    · rw [if_neg e] at hx; exact .inr ⟨fun z => e z.symm, hx⟩
  refine ⟨fun i q hq => by simpa using hs.dom i q hq, ?_, ?_, hs.size, hs.le⟩
  · intro i x q hx hq
    rcases key i x hx with ⟨rfl, rfl⟩ | ⟨hne, hx'⟩
    · have := hs.obs _ _ q h.get hq
      unfold ObRel at this ⊢
      simp only at this ⊢
      obtain ⟨k1, k2, k3, k4, arr, ety, k5, k6, k7, k8⟩ := this
      refine ⟨k1, k2, k3, k4, arr, ety, k5, k6, by simp; omega, fun i c hc => k8 i c ?_⟩
      rw [List.getElem?_take] at hc
      split at hc
      · exact hc
      · cases hc
    · exact hs.obs i x q hx' hq
  · intro i j x y q q' hx hy lx ly hq hq' e'
    rcases key i x hx with ⟨rfl, rfl⟩ | ⟨hi, hx'⟩ <;> rcases key j y hy with ⟨rfl, rfl⟩ | ⟨hj, hy'⟩
    · rfl
    · exact hs.inj _ _ _ y q q' h.get hy' (.inl rfl) ly hq hq' e'
    · exact hs.inj _ _ x _ q q' hx' h.get lx (.inl rfl) hq hq' e'
    · exact hs.inj _ _ x y q q' hx' hy' lx ly hq hq' e'
theorem wl_trim {id e : Nat} {cs : List AV} (m : Nat) (h : Has σ id ⟨.own, e, cs, []⟩) (k : ∀ σ', Upd σ id ⟨.own, e, cs.take m, []⟩ σ' → WL E ops l Q S σ') : WL E ops l Q S σ :=
  fun a w ρ hw => k _ (upd_set h _) a w ρ (hw.trim h m)

theorem wc_clear {t e : TypeId} {id off n es : Nat} {cs : List AV} {agg : Bool} {size bytes : Nat} {z : Value} (hx : S.ev x = some (.sl id off n)) (ht : E.P.underlying t = some (.slice e)) (he : Ty E.P e agg size bytes z) (hz : z.cells.size = size) (hz1 : ∀ v ∈ z.cells.toList, v.oneCell' = true)
    (h : Has σ id ⟨.own, es, cs, []⟩) (hoff : off + n * size ≤ cs.length) (hm : E.may id) (hd : d = none)
    (k : ∀ σ' ws, ws.length = n * size → Upd σ id ⟨.own, es, splice cs off ws, []⟩ σ' → WL E ops l Q S σ') : WL E ops (⟨d, .call ⟨.builtin .clear, #[x], #[t]⟩, ty, pos, af, none⟩ :: l) Q S σ := by
  subst hd
  intro A w ρ hw
  have e1 := hw.ev hx
  generalize hv : A.eval x = v at e1
  cases e1 with
  | @sl _ _ _ cap p hp hle hroom =>
    have hob := hw.sim.obs id _ p h.get hp
    unfold ObRel at hob
    simp only at hob
    obtain ⟨q1, q2, q3, q4, arr, ety, q5, q6, q7, q8⟩ := hob
    have hzl : (Builtin.zeroCells z.cells n).toList.length = n * size := by simp [zeroCells_size, hz]
    have hone : ∀ v ∈ (Builtin.zeroCells z.cells n).toList, v.oneCell' = true := by
      intro v hv
      simp only [Builtin.zeroCells] at hv
      simp at hv
      obtain ⟨i, hi, rfl⟩ := hv
      refine hz1 _ ?_
      rcases Nat.eq_zero_or_pos z.cells.size with h0 | h0
      · rw [h0] at hi; omega
      · have hm := Nat.mod_lt i h0
        rw [getElem!_pos z.cells _ hm]
        simp
    have hR1 : ∀ c ∈ (Builtin.zeroCells z.cells n).toList.map AV.lit, c.one = true := by
      intro c hc
      obtain ⟨v, hv, rfl⟩ := List.mem_map.mp hc
      have := hone v hv
      revert this
      cases v <;> simp [AV.one, Value.oneCell']
    obtain ⟨w', r1, r2, r3, r4, r5, r6, arr', r7, r8, r9, r10⟩ := storeCells_own (P := E.P) (Builtin.zeroCells z.cells n).toList 0 w p.blk off arr ety q5 (by rw [hzl]; omega) hone
    simp only [Nat.add_zero] at r9 r10
    have hrun : (execOp A.eval ⟨none, .call ⟨.builtin .clear, #[x], #[t]⟩, ty, pos, af, none⟩).run E.P w = .ok (.value (.tuple #[])) w' ∨ (n = 0 ∧ (execOp A.eval ⟨none, .call ⟨.builtin .clear, #[x], #[t]⟩, ty, pos, af, none⟩).run E.P w = .ok (.value (.tuple #[])) w) := by
      cases n with
      | zero => right; refine ⟨rfl, ?_⟩; simp [execOp, resolve, invoke, builtin, hv, Builtin.clear_, underlying, ht]
      | succ n =>
        left
        rw [q4, Nat.zero_add] at hv
        simp [execOp, resolve, invoke, builtin, hv, Builtin.clear_, underlying, ht, he.zeroValue, r1]
    rcases hrun with hrun | ⟨rfl, hrun⟩
    · simp only [wpOpsL, Region.wanted, if_true, Oper.wp, hrun, Oper.upon, Act.put]
      refine k _ ((Builtin.zeroCells z.cells n).toList.map AV.lit) (by simpa using hzl) (upd_set h _) A w' ρ (hw.write h.get hp (.inl rfl) (.inl rfl) hm r2 r3 r4 r5 r6 ?_)
      unfold ObRel
      simp only
      refine ⟨q1, q2, q3, q4, arr', ety, r7, by rw [r8]; exact q6, by rw [splice_length (by rw [List.length_map, hzl]; exact hoff), r8]; exact q7, fun i c hc => ?_⟩
      rw [splice_get (by rw [List.length_map, hzl]; exact hoff)] at hc
      by_cases g1 : i < off
      · rw [if_pos g1] at hc
        obtain ⟨s1, u', s2, s3⟩ := q8 i c hc
        exact ⟨s1, u', by rw [r9 i (.inl g1)]; exact s2, s3⟩
      · rw [if_neg g1] at hc
        rw [List.length_map, hzl] at hc
        by_cases g2 : i < off + n * size
        · rw [if_pos g2] at hc
          refine ⟨hR1 c (List.mem_of_getElem? hc), ?_⟩
          rw [List.getElem?_map] at hc
          have := r10 (i - off) (by rw [hzl]; omega)
          rw [show off + (i - off) = i by omega] at this
          rw [this]
          cases hzi : (Builtin.zeroCells z.cells n).toList[i - off]? with
          | none => rw [hzi] at hc; cases hc
          | some u => rw [hzi] at hc; simp at hc; subst hc; exact ⟨u, rfl, .lit u⟩
        · rw [if_neg g2] at hc
          obtain ⟨s1, u', s2, s3⟩ := q8 i c hc
          exact ⟨s1, u', by rw [r9 i (.inr (by rw [hzl]; omega))]; exact s2, s3⟩
    · simp only [wpOpsL, Region.wanted, if_true, Oper.wp, hrun, Oper.upon, Act.put]
      refine k σ [] (by simp) ⟨h.lt, ?_⟩ A w ρ hw
      have : splice cs off [] = cs := by unfold splice; simp
      rw [this]
      apply List.ext_getElem?
      intro i
      rw [List.getElem?_set]
      by_cases e : id = i
      · subst e; rw [if_pos rfl, if_pos h.lt]; exact h.get
      · rw [if_neg e]
theorem wp_condPr {c : Operand} {u v : Code} {p : Prop} (hb : S.ev c = some (.lit (.bool (prB p)))) (ht : p → WP E u Q S σ) (hf : ¬ p → WP E v Q S σ) : WP E (.cond c u v) Q S σ :=
  wp_condA hb (fun h => ht (prB_iff.mp h)) (fun h => hf fun hp => by rw [prB_true hp] at h; cases h)
theorem wp_condNPr {c : Operand} {u v : Code} {p : Prop} (hb : S.ev c = some (.lit (.bool (!prB p)))) (ht : ¬ p → WP E u Q S σ) (hf : p → WP E v Q S σ) : WP E (.cond c u v) Q S σ :=
  wp_condA hb (fun h => ht fun hp => by rw [prB_true hp] at h; cases h) (fun h => hf (prB_iff.mp (by simpa using h)))
theorem prB_of {p : Prop} (h : prB p = true) : p := prB_iff.mp h
theorem prB_not {p : Prop} (h : prB p = false) : ¬ p := fun hp => by rw [prB_true hp] at h; cases h
theorem wc_guardNPr_false {d : Option Tmp} {op : Op} {j : Nat} {p : Prop} {oj : Oper} {dj : Tmp} (hj : ops[j]? = some oj) (hdj : oj.dst = some dj) (hb : S.get dj = some (.lit (.bool (!prB p)))) (hd : okd E d = true)
    (h1 : p → WL E ops (⟨d, op, ty, pos, af, none⟩ :: l) Q ((dj, .lit (.bool false)) :: S) σ) (h0 : ¬ p → WL E ops l Q (Slots.put ((dj, .lit (.bool true)) :: S) d (.lit undef)) σ) :
    WL E ops (⟨d, op, ty, pos, af, some (j, false)⟩ :: l) Q S σ :=
  wc_guard hj hdj hb hd (fun h => h1 (prB_of (by simpa using h))) (fun h => h0 (prB_not (by simpa using h)))
end
end Go.Proofs.YthbodgnoadlbcaaGreatDoor.Asl
