/- More rules: numbers in range, conditions told plainly, regions that draw. -/
import Derived.Test.YtemhpkfijoodkaaB0
namespace Go.Proofs.Ytemhpkfijoodkaa.Asl
open Go.RowKit Go.Proofs.YtemhpkfijoodkaaW.PrintLast
set_option linter.unusedVariables false
set_option linter.unusedSimpArgs false

theorem wrap64 {z : Int} (h0 : -9223372036854775808 ≤ z) (h1 : z ≤ 9223372036854775807) : IntKind.i64.wrap z = z := by
  have hb : IntKind.i64.bits = 64 := rfl
  have hs : IntKind.i64.signed = true := rfl
  simp only [IntKind.wrap, hb, hs, Bool.true_and, decide_eq_true_eq]
  have e1 : (2 : Int) ^ 64 = 18446744073709551616 := by decide
  have e2 : (2 : Int) ^ (64 - 1) = 9223372036854775808 := by decide
  rw [e1, e2]
  by_cases h : 0 ≤ z
  · rw [Int.emod_eq_of_lt h (by omega), if_neg (by omega)]
  · have : z % 18446744073709551616 = z + 18446744073709551616 := by omega
    rw [this, if_pos (by omega)]; omega

class NP (Q : Exit → Slots → Store → Prop) : Prop where
  no : ∀ ch S σ, ¬ Q (.panic ch) S σ
instance instNPSeq {K : Slots → Store → Prop} {Q : Exit → Slots → Store → Prop} [h : NP Q] : NP (andThen K Q) := ⟨h.no⟩
instance instNPBlock {id : Nat} {Q : Exit → Slots → Store → Prop} [h : NP Q] : NP (inBlock id Q) := ⟨h.no⟩
instance instNPScope {Q : Exit → Slots → Store → Prop} [h : NP Q] : NP (noGoto Q) := ⟨h.no⟩
instance instNPEnd {P : Program} {fn : Func} {K : AV → Store → Prop} : NP (atEnd P fn K) := ⟨fun _ _ _ h => h⟩

section
variable {E : Env} {ops : Array Oper} {l : List Oper} {Q : Exit → Slots → Store → Prop} {S : Slots} {σ : Store} {d : Option Tmp} {ty : TypeId} {pos : String} {af : Array Edge} {g : Option (Nat × Bool)} {n0 : Nat} {x y : Operand}

theorem pc_add {xt yt : TypeId} {a b : Int} (hx : S.ev x = some (I a)) (hy : S.ev y = some (I b)) (h0 : -9223372036854775808 ≤ a + b) (h1 : a + b ≤ 9223372036854775807) : PO E S σ n0 ⟨d, .binOp .add xt x y yt, ty, pos, af, g⟩ (I (a + b)) := by
  have := po_binOp (E := E) (σ := σ) (n0 := n0) (d := d) (ty := ty) (pos := pos) (af := af) (g := g) (op := .add) (xt := xt) (yt := yt) hx hy rfl
  rwa [wrap64 h0 h1] at this
theorem pc_sub {xt yt : TypeId} {a b : Int} (hx : S.ev x = some (I a)) (hy : S.ev y = some (I b)) (h0 : -9223372036854775808 ≤ a - b) (h1 : a - b ≤ 9223372036854775807) : PO E S σ n0 ⟨d, .binOp .sub xt x y yt, ty, pos, af, g⟩ (I (a - b)) := by
  have := po_binOp (E := E) (σ := σ) (n0 := n0) (d := d) (ty := ty) (pos := pos) (af := af) (g := g) (op := .sub) (xt := xt) (yt := yt) hx hy rfl
  rwa [wrap64 h0 h1] at this
theorem pc_mul {xt yt : TypeId} {a b : Int} (hx : S.ev x = some (I a)) (hy : S.ev y = some (I b)) (h0 : -9223372036854775808 ≤ a * b) (h1 : a * b ≤ 9223372036854775807) : PO E S σ n0 ⟨d, .binOp .mul xt x y yt, ty, pos, af, g⟩ (I (a * b)) := by
  have := po_binOp (E := E) (σ := σ) (n0 := n0) (d := d) (ty := ty) (pos := pos) (af := af) (g := g) (op := .mul) (xt := xt) (yt := yt) hx hy rfl
  rwa [wrap64 h0 h1] at this
theorem pc_indexAddr {t e : TypeId} {id off len : Nat} {i : Nat} {agg : Bool} {size bytes : Nat} {z : Value} (hx : S.ev x = some (.sl id off len)) (hy : S.ev y = some (I (i : Int))) (ht : Un E.P t (.slice e)) (he : Ty E.P e agg size bytes z)
    (h1 : i < len) : PO E S σ n0 ⟨d, .indexAddr t x y, ty, pos, af, g⟩ (.pt id (off + i * size)) := by
  have := po_indexAddr (E := E) (σ := σ) (n0 := n0) (d := d) (ty := ty) (pos := pos) (af := af) (g := g) (o := ⟨.own, 0, [], []⟩) hx hy ht.eq he (by omega) (by omega)
  simpa using this

theorem pc_boolNeSelf {xt yt : TypeId} {a : Bool} (hx : S.ev x = some (Bo a)) (hy : S.ev y = some (Bo a)) (ht : Un E.P xt .bool) : PO E S σ n0 ⟨d, .binOp .neq xt x y yt, ty, pos, af, g⟩ (Bo false) := by
  have := po_boolNe (E := E) (σ := σ) (n0 := n0) (d := d) (ty := ty) (pos := pos) (af := af) (g := g) (yt := yt) hx hy ht.eq
  have e : (a != a) = false := by simp
  rwa [e] at this
theorem pc_boolNe {xt yt : TypeId} {a b : Bool} (hx : S.ev x = some (Bo a)) (hy : S.ev y = some (Bo b)) (ht : Un E.P xt .bool) : PO E S σ n0 ⟨d, .binOp .neq xt x y yt, ty, pos, af, g⟩ (Bo (a != b)) := po_boolNe hx hy ht.eq
theorem pc_boolEq {xt yt : TypeId} {a b : Bool} (hx : S.ev x = some (Bo a)) (hy : S.ev y = some (Bo b)) (ht : Un E.P xt .bool) : PO E S σ n0 ⟨d, .binOp .eql xt x y yt, ty, pos, af, g⟩ (Bo (a == b)) := po_boolEq hx hy ht.eq
theorem pc_max {ats : Array TypeId} {a b : Int} (hx : S.ev x = some (I a)) (hy : S.ev y = some (I b)) : PO E S σ n0 ⟨d, .call ⟨.builtin .max, #[x, y], ats⟩, ty, pos, af, g⟩ (I (max a b)) := by
  have := po_max (E := E) (σ := σ) (n0 := n0) (d := d) (ty := ty) (pos := pos) (af := af) (g := g) (ats := ats) hx hy
  have e : (if b > a then b else a) = max a b := by split <;> omega
  rwa [e] at this
theorem pc_min {ats : Array TypeId} {a b : Int} (hx : S.ev x = some (I a)) (hy : S.ev y = some (I b)) : PO E S σ n0 ⟨d, .call ⟨.builtin .min, #[x, y], ats⟩, ty, pos, af, g⟩ (I (min a b)) := by
  have := po_min (E := E) (σ := σ) (n0 := n0) (d := d) (ty := ty) (pos := pos) (af := af) (g := g) (ats := ats) hx hy
  have e : (if b < a then b else a) = min a b := by split <;> omega
  rwa [e] at this
theorem wp_condP {c : Operand} {u v : Code} {p : Prop} [i : Decidable p] (hb : S.ev c = some (.lit (.bool (decide p)))) (ht : p → WP E u Q S σ) (hf : ¬ p → WP E v Q S σ) : WP E (.cond c u v) Q S σ :=
  wp_condA hb (fun h => ht (by simpa using h)) (fun h => hf (by simpa using h))
theorem wp_condNP {c : Operand} {u v : Code} {p : Prop} [i : Decidable p] (hb : S.ev c = some (.lit (.bool (!decide p)))) (ht : ¬ p → WP E u Q S σ) (hf : p → WP E v Q S σ) : WP E (.cond c u v) Q S σ :=
  wp_condA hb (fun h => ht (by simpa using h)) (fun h => hf (by simpa using h))
theorem wp_condEq {c : Operand} {u v : Code} {a b : Int} (hb : S.ev c = some (.lit (.bool (a == b)))) (ht : a = b → WP E u Q S σ) (hf : a ≠ b → WP E v Q S σ) : WP E (.cond c u v) Q S σ :=
  wp_condA hb (fun h => ht (by simpa using h)) (fun h => hf (by simpa using h))
theorem wp_condNe {c : Operand} {u v : Code} {a b : Int} (hb : S.ev c = some (.lit (.bool (a != b)))) (ht : a ≠ b → WP E u Q S σ) (hf : a = b → WP E v Q S σ) : WP E (.cond c u v) Q S σ :=
  wp_condA hb (fun h => ht (by simpa using h)) (fun h => hf (by simpa using h))
theorem wp_condT {c : Operand} {u v : Code} (hb : S.ev c = some (.lit (.bool true))) (ht : WP E u Q S σ) : WP E (.cond c u v) Q S σ :=
  wp_condA hb (fun _ => ht) (fun h => by cases h)
theorem wp_condF {c : Operand} {u v : Code} (hb : S.ev c = some (.lit (.bool false))) (hf : WP E v Q S σ) : WP E (.cond c u v) Q S σ :=
  wp_condA hb (fun h => by cases h) (fun _ => hf)

theorem wc_guardU {op : Op} {j : Nat} {want : Bool} {oj : Oper} {dj : Tmp} (hj : ops[j]? = some oj) (hdj : oj.dst = some dj) (hb : S.get dj = some (.lit undef)) (hd : okd E d = true)
    (k : WL E ops l Q (S.put d (.lit undef)) σ) : WL E ops (⟨d, op, ty, pos, af, some (j, want)⟩ :: l) Q S σ := by
  intro a w ρ hw
  obtain ⟨u, h1, h2⟩ := hw.slots dj _ hb
  have hu := R_lit h2; subst hu
  have hy : yielded ops a.tmps j = none := by simp [yielded, hj, hdj, h1, undef]
  have hw' : Region.wanted (⟨d, op, ty, pos, af, some (j, want)⟩ : Oper) (yielded ops a.tmps) = false := by simp [Region.wanted, hy]
  simp only [wpOpsL, hw']
  exact k _ _ _ (hw.put hd (.lit _))
theorem wc_guardP_true {op : Op} {j : Nat} {p : Prop} [i : Decidable p] {oj : Oper} {dj : Tmp} (hj : ops[j]? = some oj) (hdj : oj.dst = some dj) (hb : S.get dj = some (.lit (.bool (decide p)))) (hd : okd E d = true)
    (h1 : p → WL E ops (⟨d, op, ty, pos, af, none⟩ :: l) Q ((dj, .lit (.bool true)) :: S) σ) (h0 : ¬ p → WL E ops l Q (Slots.put ((dj, .lit (.bool false)) :: S) d (.lit undef)) σ) :
    WL E ops (⟨d, op, ty, pos, af, some (j, true)⟩ :: l) Q S σ :=
  wc_guard hj hdj hb hd (fun h => h1 (by simpa using h)) (fun h => h0 (by simpa using h))
theorem wc_guardNP_true {op : Op} {j : Nat} {p : Prop} [i : Decidable p] {oj : Oper} {dj : Tmp} (hj : ops[j]? = some oj) (hdj : oj.dst = some dj) (hb : S.get dj = some (.lit (.bool (!decide p)))) (hd : okd E d = true)
    (h1 : ¬ p → WL E ops (⟨d, op, ty, pos, af, none⟩ :: l) Q ((dj, .lit (.bool true)) :: S) σ) (h0 : p → WL E ops l Q (Slots.put ((dj, .lit (.bool false)) :: S) d (.lit undef)) σ) :
    WL E ops (⟨d, op, ty, pos, af, some (j, true)⟩ :: l) Q S σ :=
  wc_guard hj hdj hb hd (fun h => h1 (by simpa using h)) (fun h => h0 (by simpa using h))
theorem wc_guardEq_true {op : Op} {j : Nat} {a b : Int} {oj : Oper} {dj : Tmp} (hj : ops[j]? = some oj) (hdj : oj.dst = some dj) (hb : S.get dj = some (.lit (.bool (a == b)))) (hd : okd E d = true)
    (h1 : a = b → WL E ops (⟨d, op, ty, pos, af, none⟩ :: l) Q ((dj, .lit (.bool true)) :: S) σ) (h0 : a ≠ b → WL E ops l Q (Slots.put ((dj, .lit (.bool false)) :: S) d (.lit undef)) σ) :
    WL E ops (⟨d, op, ty, pos, af, some (j, true)⟩ :: l) Q S σ :=
  wc_guard hj hdj hb hd (fun h => h1 (by simpa using h)) (fun h => h0 (by simpa using h))
theorem wc_guardNe_true {op : Op} {j : Nat} {a b : Int} {oj : Oper} {dj : Tmp} (hj : ops[j]? = some oj) (hdj : oj.dst = some dj) (hb : S.get dj = some (.lit (.bool (a != b)))) (hd : okd E d = true)
    (h1 : a ≠ b → WL E ops (⟨d, op, ty, pos, af, none⟩ :: l) Q ((dj, .lit (.bool true)) :: S) σ) (h0 : a = b → WL E ops l Q (Slots.put ((dj, .lit (.bool false)) :: S) d (.lit undef)) σ) :
    WL E ops (⟨d, op, ty, pos, af, some (j, true)⟩ :: l) Q S σ :=
  wc_guard hj hdj hb hd (fun h => h1 (by simpa using h)) (fun h => h0 (by simpa using h))
theorem wc_guardT_true {op : Op} {j : Nat} {oj : Oper} {dj : Tmp} (hj : ops[j]? = some oj) (hdj : oj.dst = some dj) (hb : S.get dj = some (.lit (.bool true))) 
    (h1 : WL E ops (⟨d, op, ty, pos, af, none⟩ :: l) Q S σ) : WL E ops (⟨d, op, ty, pos, af, some (j, true)⟩ :: l) Q S σ := wl_on hj hdj hb rfl h1
theorem wc_guardF_true {op : Op} {j : Nat} {oj : Oper} {dj : Tmp} (hj : ops[j]? = some oj) (hdj : oj.dst = some dj) (hb : S.get dj = some (.lit (.bool false))) (hd : okd E d = true)
    (h0 : WL E ops l Q (S.put d (.lit undef)) σ) : WL E ops (⟨d, op, ty, pos, af, some (j, true)⟩ :: l) Q S σ := wl_off (o := ⟨d, op, ty, pos, af, some (j, true)⟩) rfl hj hdj hb (by decide) h0 hd
theorem wc_guardP_false {op : Op} {j : Nat} {p : Prop} [i : Decidable p] {oj : Oper} {dj : Tmp} (hj : ops[j]? = some oj) (hdj : oj.dst = some dj) (hb : S.get dj = some (.lit (.bool (decide p)))) (hd : okd E d = true)
    (h1 : ¬ p → WL E ops (⟨d, op, ty, pos, af, none⟩ :: l) Q ((dj, .lit (.bool false)) :: S) σ) (h0 : p → WL E ops l Q (Slots.put ((dj, .lit (.bool true)) :: S) d (.lit undef)) σ) :
    WL E ops (⟨d, op, ty, pos, af, some (j, false)⟩ :: l) Q S σ :=
  wc_guard hj hdj hb hd (fun h => h1 (by simpa using h)) (fun h => h0 (by simpa using h))
theorem wc_guardNP_false {op : Op} {j : Nat} {p : Prop} [i : Decidable p] {oj : Oper} {dj : Tmp} (hj : ops[j]? = some oj) (hdj : oj.dst = some dj) (hb : S.get dj = some (.lit (.bool (!decide p)))) (hd : okd E d = true)
    (h1 : p → WL E ops (⟨d, op, ty, pos, af, none⟩ :: l) Q ((dj, .lit (.bool false)) :: S) σ) (h0 : ¬ p → WL E ops l Q (Slots.put ((dj, .lit (.bool true)) :: S) d (.lit undef)) σ) :
    WL E ops (⟨d, op, ty, pos, af, some (j, false)⟩ :: l) Q S σ :=
  wc_guard hj hdj hb hd (fun h => h1 (by simpa using h)) (fun h => h0 (by simpa using h))
theorem wc_guardEq_false {op : Op} {j : Nat} {a b : Int} {oj : Oper} {dj : Tmp} (hj : ops[j]? = some oj) (hdj : oj.dst = some dj) (hb : S.get dj = some (.lit (.bool (a == b)))) (hd : okd E d = true)
    (h1 : a ≠ b → WL E ops (⟨d, op, ty, pos, af, none⟩ :: l) Q ((dj, .lit (.bool false)) :: S) σ) (h0 : a = b → WL E ops l Q (Slots.put ((dj, .lit (.bool true)) :: S) d (.lit undef)) σ) :
    WL E ops (⟨d, op, ty, pos, af, some (j, false)⟩ :: l) Q S σ :=
  wc_guard hj hdj hb hd (fun h => h1 (by simpa using h)) (fun h => h0 (by simpa using h))
theorem wc_guardNe_false {op : Op} {j : Nat} {a b : Int} {oj : Oper} {dj : Tmp} (hj : ops[j]? = some oj) (hdj : oj.dst = some dj) (hb : S.get dj = some (.lit (.bool (a != b)))) (hd : okd E d = true)
    (h1 : a = b → WL E ops (⟨d, op, ty, pos, af, none⟩ :: l) Q ((dj, .lit (.bool false)) :: S) σ) (h0 : a ≠ b → WL E ops l Q (Slots.put ((dj, .lit (.bool true)) :: S) d (.lit undef)) σ) :
    WL E ops (⟨d, op, ty, pos, af, some (j, false)⟩ :: l) Q S σ :=
  wc_guard hj hdj hb hd (fun h => h1 (by simpa using h)) (fun h => h0 (by simpa using h))
theorem wc_guardT_false {op : Op} {j : Nat} {oj : Oper} {dj : Tmp} (hj : ops[j]? = some oj) (hdj : oj.dst = some dj) (hb : S.get dj = some (.lit (.bool false))) 
    (h1 : WL E ops (⟨d, op, ty, pos, af, none⟩ :: l) Q S σ) : WL E ops (⟨d, op, ty, pos, af, some (j, false)⟩ :: l) Q S σ := wl_on hj hdj hb rfl h1
theorem wc_guardF_false {op : Op} {j : Nat} {oj : Oper} {dj : Tmp} (hj : ops[j]? = some oj) (hdj : oj.dst = some dj) (hb : S.get dj = some (.lit (.bool true))) (hd : okd E d = true)
    (h0 : WL E ops l Q (S.put d (.lit undef)) σ) : WL E ops (⟨d, op, ty, pos, af, some (j, false)⟩ :: l) Q S σ := wl_off (o := ⟨d, op, ty, pos, af, some (j, false)⟩) rfl hj hdj hb (by decide) h0 hd
theorem sub_int {S' : Slots} {t : Nat} {z z' : Int} (h : S'.get t = some (I z')) (e : z' = z) (hs : Sub S S') : Sub ((t, I z) :: S) S' := by subst e; exact sub_cons h hs

variable {ds : List Nat} {fuel : Nat} {listed : Array Bool}
theorem wc_drawn {id n : Nat} (ds : List Nat) (hm : E.P.follows .mixedOrders = true) (hn : ops.size = n) (h : DA E ops ds n (Array.replicate n false) Q σ.length S σ) : WP E (.region id ops true) Q S σ := by
  subst hn; exact wp_region_drawn hm ds h
theorem da_takeC (i : Nat) {op : Op} {r : AV} [hQ : NP Q] (ho : ops[i]? = some ⟨d, op, ty, pos, af, none⟩) (hd : okd E d = true) (hc : takeB .any ops ds listed (listed.setIfInBounds i true) i = true) (h : PO E S σ n0 ⟨d, op, ty, pos, af, none⟩ r)
    (k : DA E ops ds fuel (listed.setIfInBounds i true) Q n0 (S.put d r) σ) : DA E ops ds (fuel + 1) listed Q n0 S σ :=
  da_take i _ ho rfl hd hc hQ.no h k
theorem da_case {t : Nat} {b : Bool} (hb : S.get t = some (.lit (.bool b))) (h1 : b = true → DA E ops ds fuel listed Q n0 ((t, .lit (.bool true)) :: S) σ) (h0 : b = false → DA E ops ds fuel listed Q n0 ((t, .lit (.bool false)) :: S) σ) : DA E ops ds fuel listed Q n0 S σ := by
  cases b with
  | true => exact fun a w ρ W0 hw => h1 rfl a w ρ W0 (hw.less (sub_put hb))
  | false => exact fun a w ρ W0 hw => h0 rfl a w ρ W0 (hw.less (sub_put hb))
theorem da_onC (i : Nat) {op : Op} {oj : Oper} {r : AV} {j : Nat} {dj : Tmp} {b : Bool} [hQ : NP Q] (ho : ops[i]? = some ⟨d, op, ty, pos, af, some (j, b)⟩) (hj : ops[j]? = some oj) (hdj : oj.dst = some dj) (hb : S.get dj = some (.lit (.bool b))) (hd : okd E d = true) (hc : takeB .any ops ds listed (listed.setIfInBounds i true) i = true) (h : PO E S σ n0 ⟨d, op, ty, pos, af, some (j, b)⟩ r)
    (k : DA E ops ds fuel (listed.setIfInBounds i true) Q n0 (S.put d r) σ) : DA E ops ds (fuel + 1) listed Q n0 S σ :=
  da_takeOn i _ ho rfl hj hdj hb hd hc hQ.no h k
theorem da_offC (i : Nat) {op : Op} {oj : Oper} {j : Nat} {dj : Tmp} {b b' : Bool} [hQ : NP Q] (ho : ops[i]? = some ⟨d, op, ty, pos, af, some (j, b)⟩) (hj : ops[j]? = some oj) (hdj : oj.dst = some dj) (hb : S.get dj = some (.lit (.bool b'))) (hne : (b' == b) = false) (hd : okd E d = true) (hc : takeB .any ops ds listed (listed.setIfInBounds i true) i = true)
    (k : DA E ops ds fuel (listed.setIfInBounds i true) Q n0 (S.put d (.lit undef)) σ) : DA E ops ds (fuel + 1) listed Q n0 S σ :=
  da_takeOff i _ ho rfl hj hdj hb (by simpa using hne) hd hc hQ.no k
/-- A call in a region that draws, the only one that is left to come up: whatever it answers. -/
theorem da_call (i : Nat) {args : Array Operand} {ats : Array TypeId} {f : FuncId} {rs caps : List AV} {K : AV → Store → Prop} (ho : ops[i]? = some ⟨d, .call ⟨.value x, args, ats⟩, ty, pos, af, none⟩) (hr : Region.ready .any ops listed = [i]) (hf : S.ev x = some (.fn f caps)) (hc : Callable E.P f) (hargs : evs S args.toList = some rs)
    (h : ACall E.P E.base f (rs ++ caps) σ (fun _ => False) K) (hd : okd E d = true) (k : ∀ r σ', K r σ' → σ.length ≤ σ'.length ∧ DA E ops ds fuel (listed.setIfInBounds i true) Q n0 (S.put d r) σ') :
    DA E ops ds (fuel + 1) listed Q n0 S σ := by
  refine da_step i _ ho hr rfl ?_
  intro E' hP hbase hn _
  obtain ⟨P, base, n, may, N, B, w₀, ρ₀, n₀⟩ := E
  obtain ⟨P', base', n', may', N', B', w₀', ρ₀', n₀'⟩ := E'
  simp only at hP hbase hn
  subst hP hbase hn
  exact wc_call hf hc hargs h hd fun r σ' hK => wl_nil ⟨rfl, (k r σ' hK).1, (k r σ' hK).2⟩
/-- A call in a region that draws, the only one that is left to come up. -/
theorem da_callR (i : Nat) {args : Array Operand} {ats : Array TypeId} {f : FuncId} {rs caps : List AV} {r : AV} (ho : ops[i]? = some ⟨d, .call ⟨.value x, args, ats⟩, ty, pos, af, none⟩) (hr : Region.ready .any ops listed = [i]) (hf : S.ev x = some (.fn f caps)) (hc : Callable E.P f) (hargs : evs S args.toList = some rs)
    (h : ACall E.P E.base f (rs ++ caps) σ (fun _ => False) (Ret σ r)) (hd : okd E d = true) (k : ∀ σ', Grow σ σ' → DA E ops ds fuel (listed.setIfInBounds i true) Q n0 (S.put d r) σ') :
    DA E ops ds (fuel + 1) listed Q n0 S σ := by
  refine da_step i _ ho hr rfl ?_
  intro E' hP hbase hn _
  obtain ⟨P, base, n, may, N, B, w₀, ρ₀, n₀⟩ := E
  obtain ⟨P', base', n', may', N', B', w₀', ρ₀', n₀'⟩ := E'
  simp only at hP hbase hn
  subst hP hbase hn
  refine wc_callR hf hc hargs h hd fun σ' hg => wl_nil ⟨rfl, hg.len, k σ' hg⟩

theorem wc_storeA {t : TypeId} {size bytes : Nat} {z : Value} {id off e : Nat} {l' cs : List AV} (hx : S.ev x = some (.pt id off)) (hy : S.ev y = some (.agg cs)) (ht : Ty E.P t true size bytes z) (ho : Has σ id ⟨.own, e, l', []⟩)
    (hn : cs.length = size) (h1 : Ones cs) (hoff : off + size ≤ l'.length) (hm : E.may id)
    (k : ∀ σ', Upd σ id ⟨.own, e, splice l' off cs, []⟩ σ' → WL E ops l Q S σ') : WL E ops (⟨none, .store t x y, ty, pos, af, none⟩ :: l) Q S σ :=
  wc_store hx hy ht ho rfl hn h1.eq hoff rfl hm k
theorem wc_store1 {t : TypeId} {bytes : Nat} {z : Value} {id off e : Nat} {l' : List AV} {v : AV} (hx : S.ev x = some (.pt id off)) (hy : S.ev y = some v) (ht : Ty E.P t false 1 bytes z) (ho : Has σ id ⟨.own, e, l', []⟩)
    (h1 : One v) (hoff : off + 1 ≤ l'.length) (hm : E.may id)
    (k : ∀ σ', Upd σ id ⟨.own, e, splice l' off [v], []⟩ σ' → WL E ops l Q S σ') : WL E ops (⟨none, .store t x y, ty, pos, af, none⟩ :: l) Q S σ :=
  wc_store hx hy ht ho (AV.cells_one h1.eq) rfl (by simpa using h1.eq) hoff rfl hm k
theorem pc_load1L {σ₀ : Store} {t : TypeId} {size bytes : Nat} {z : Value} {id off : Nat} {c : AV} (hx : S.ev x = some (.pt id off)) (ht : Ty E.P t false size bytes z) (ha : At σ₀ id off 1 [c]) (hl : LeS σ₀ σ) : PO E S σ σ₀.length ⟨d, .load t x, ty, pos, af, g⟩ c :=
  pc_load1 hx ht (ha.grow hl) ha.lt
theorem pc_loadnL {σ₀ : Store} {t : TypeId} {size bytes : Nat} {z : Value} {id off : Nat} {cs : List AV} (hx : S.ev x = some (.pt id off)) (ht : Ty E.P t true size bytes z) (ha : At σ₀ id off size cs) (hl : LeS σ₀ σ) : PO E S σ σ₀.length ⟨d, .load t x, ty, pos, af, g⟩ (.agg cs) :=
  pc_loadn hx ht (ha.grow hl) ha.lt
theorem lt_n0 (id : Nat) {i off n : Nat} {cs : List AV} (h : At σ i off n cs) : i < σ.length := h.lt

theorem res_cell {P : Program} {fn : Func} {c : Tmp} {t : TypeId} {id off size bytes : Nat} {z : Value} {cs : List AV} (h : fn.results = #[.cell c t]) (hx : S.get c = some (.pt id off)) (ht : Ty P t true size bytes z) (ha : At σ id off size cs) : ResOK P fn S σ (.agg cs) :=
  let ⟨_, h1, h2, h3, h4⟩ := ha.get
  resC h hx ht h1 h2 h3 h4
theorem res_cell2 {P : Program} {fn : Func} {c u : Tmp} {t : TypeId} {id off size bytes : Nat} {z : Value} {cs : List AV} {y : AV} (h : fn.results = #[.cell c t, .tmp u]) (hx : S.get c = some (.pt id off)) (ht : Ty P t true size bytes z) (ha : At σ id off size cs) (hy : S.get u = some y) : ResOK P fn S σ (.tup [.agg cs, y]) :=
  let ⟨_, h1, h2, h3, h4⟩ := ha.get
  resCT h hx ht h1 h2 h3 h4 hy
end

/-- A walk stops here. -/
def Hold (p : Prop) : Prop := p
section
variable {E : Env} {Q : Exit → Slots → Store → Prop} {S : Slots} {σ : Store} {x y : Code}
variable {R : Exit → Slots → Store → Prop}
theorem wc_hold (id : Nat) (h : Hold (WP E (.block id x) (andThen (WP E y Q) R) S σ)) : WP E (.block id x) (andThen (WP E y Q) R) S σ := h
theorem wc_holdIf {z : Code} {c : Operand} (h : Hold (WP E (.cond c x z) (andThen (WP E y Q) R) S σ)) : WP E (.cond c x z) (andThen (WP E y Q) R) S σ := h
/-- A cut behind a block or a condition. -/
theorem wc_cut {ι : Type} (S₀ : Slots) (V : ι → Slots) (J : ι → Store → Prop) (h : WP E x (andThen (fun S' σ' => ∃ y, J y σ' ∧ Sub (V y ++ S₀) S') R) S σ)
    (k : ∀ z σ', J z σ' → WP E y Q (V z ++ S₀) σ') : Hold (WP E x (andThen (WP E y Q) R) S σ) := by
  refine WP.cut (K := WP E y Q) _ h ?_
  rintro S' σ' ⟨z, h1, h2⟩
  exact (k z σ' h1).less h2
end

/-- Are two things the same? -/
noncomputable def eqB {α : Type} (a b : α) : Bool := @decide (a = b) (Classical.propDecidable _)
theorem eqB_self {α : Type} (a : α) : eqB a a = true := by simp [eqB]
theorem eqB_ne {α : Type} {a b : α} (h : a ≠ b) : eqB a b = false := by simp [eqB, h]
theorem eqB_iff {α : Type} {a b : α} : eqB a b = true ↔ a = b := by simp [eqB]
theorem eqB_false {α : Type} {a b : α} : eqB a b = false ↔ a ≠ b := by simp [eqB]

def cutL (l : List AV) (off n : Nat) : List AV := (l.drop off).take n
theorem cut_cutL {k : Kind} {e : Nat} {l : List AV} {m : List (Value × AV)} {off n : Nat} : cut ⟨k, e, l, m⟩ off n = cutL l off n := rfl
theorem cutL_splice_eq {l cs : List AV} {off n : Nat} (h : off + cs.length ≤ l.length) (hn : cs.length = n) : cutL (splice l off cs) off n = cs := by
  subst hn
  unfold cutL splice
  rw [List.append_assoc, List.drop_append_of_le_length (by simp; omega), List.drop_of_length_le (by simp; omega)]
  simp
theorem cutL_splice_ne {l cs : List AV} {off off' n : Nat} (h : off + cs.length ≤ l.length) (hn : off' + n ≤ off ∨ off + cs.length ≤ off') : cutL (splice l off cs) off' n = cutL l off' n := by
  unfold cutL
  apply List.ext_getElem?
  intro j
  simp only [List.getElem?_take, List.getElem?_drop]
  split
  · rw [splice_get h]
    rcases hn with hn | hn
    · rw [if_pos (by omega)]
    · rw [if_neg (by omega), if_neg (by omega)]
  · rfl
end Go.Proofs.Ytemhpkfijoodkaa.Asl
