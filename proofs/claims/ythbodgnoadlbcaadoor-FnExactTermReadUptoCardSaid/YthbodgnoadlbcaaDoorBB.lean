/- Several texts in one. -/
import Derived.Test.YthbodgnoadlbcaaDoorAA
/- The program logic's rules with what is known of the store as instances. -/
namespace Go.Proofs.YthbodgnoadlbcaaDoor.Asl
open Go.RowKit
set_option linter.unusedVariables false
set_option linter.unusedSimpArgs false

abbrev I (z : Int) : AV := .lit (.int .i64 z)
abbrev Bo (b : Bool) : AV := .lit (.bool b)
abbrev Str (s : ByteArray) : AV := .lit (.string s)
abbrev nilS : AV := .lit (.slice none 0 0)

/-- An object that is there. -/
class Has (σ : Store) (i : Nat) (o : outParam Ob) : Prop where
  get : σ[i]? = some o
/-- The next store: all that was is as it was. -/
class Grow (σ : outParam Store) (σ' : Store) : Prop where
  keep : ∀ (i : Nat) (o : Ob), σ[i]? = some o → σ'[i]? = some o
/-- The next store: one object is changed. -/
class Upd (σ : outParam Store) (i : outParam Nat) (o' : outParam Ob) (σ' : Store) : Prop where
  lt : i < σ.length
  eq : σ' = σ.set i o'
/-- An object that was not there. -/
class New (σ : outParam Store) (i : Nat) : Prop where
  le : σ.length ≤ i
class Dif (i j : Nat) : Prop where
  ne : i ≠ j
/-- A later store: all that was is as it was. -/
class LeS (σ σ' : Store) : Prop where
  keep : ∀ (i : Nat) (o : Ob), σ[i]? = some o → σ'[i]? = some o
/-- Cells that lie one behind another in an object that can be read. -/
class At (σ : Store) (i off n : Nat) (cs : outParam (List AV)) : Prop where
  get : ∃ o, σ[i]? = some o ∧ o.readable ∧ cut o off n = cs ∧ cs.length = n

theorem Has.lt {σ : Store} {i : Nat} {o : Ob} (h : Has σ i o) : i < σ.length := by
  rcases Nat.lt_or_ge i σ.length with k | k
  · exact k
  · have := h.get; rw [List.getElem?_eq_none k] at this; cases this
theorem keep_len {σ σ' : Store} (h : ∀ (i : Nat) (o : Ob), σ[i]? = some o → σ'[i]? = some o) : σ.length ≤ σ'.length := by
  rcases Nat.lt_or_ge σ'.length σ.length with k | k
  · have := h σ'.length σ[σ'.length] (by simp [k])
    simp at this
  · exact k
theorem Grow.len {σ σ' : Store} (h : Grow σ σ') : σ.length ≤ σ'.length := keep_len h.keep
theorem LeS.len {σ σ' : Store} (h : LeS σ σ') : σ.length ≤ σ'.length := keep_len h.keep
theorem LeS.trans {a b c : Store} (h : LeS a b) (k : LeS b c) : LeS a c := ⟨fun i o ho => k.keep i o (h.keep i o ho)⟩

instance instHasGrow {σ σ' : Store} {i : Nat} {o : Ob} [g : Grow σ σ'] [h : Has σ i o] : Has σ' i o := ⟨g.keep _ _ h.get⟩
instance instHasUpd {σ σ' : Store} {i : Nat} {o : Ob} [g : Upd σ i o σ'] : Has σ' i o := ⟨by
  have := g.lt; rw [g.eq]; simp [this]⟩
instance instHasUpdNe {σ σ' : Store} {i j : Nat} {o o' : Ob} [g : Upd σ i o' σ'] [d : Dif j i] [h : Has σ j o] : Has σ' j o := ⟨by
  rw [g.eq, List.getElem?_set_ne (Ne.symm d.ne)]; exact h.get⟩
instance instDif {σ : Store} {i j : Nat} {o : Ob} [n : New σ i] [h : Has σ j o] : Dif j i := ⟨by have := h.lt; have := n.le; omega⟩
instance instDif' {σ : Store} {i j : Nat} {o : Ob} [n : New σ i] [h : Has σ j o] : Dif i j := ⟨by have := h.lt; have := n.le; omega⟩
instance instLeRefl {σ : Store} : LeS σ σ := ⟨fun _ _ h => h⟩
instance instLeGrow {σ₀ σ σ' : Store} [g : Grow σ σ'] [h : LeS σ₀ σ] : LeS σ₀ σ' := ⟨fun i o ho => g.keep i o (h.keep i o ho)⟩
instance instLeUpd {σ₀ σ σ' σa : Store} {i : Nat} {o' : Ob} [g : Upd σ i o' σ'] [n : New σa i] [k : LeS σ₀ σa] [h : LeS σ₀ σ] : LeS σ₀ σ' := ⟨fun j o ho => by
  have h1 : j < σ₀.length := by
    rcases Nat.lt_or_ge j σ₀.length with k | k
    · exact k
    · rw [List.getElem?_eq_none k] at ho; cases ho
  have := n.le
  have := k.len
  rw [g.eq, List.getElem?_set_ne (by omega)]
  exact h.keep j o ho⟩
theorem may_new (σ₀ : Store) {σ : Store} {i : Nat} [n : New σ i] [h : LeS σ₀ σ] : σ₀.length ≤ i := Nat.le_trans h.len n.le
theorem New.mono {σ₀ σ : Store} {i : Nat} (n : New σ i) (h : LeS σ₀ σ) : New σ₀ i := ⟨Nat.le_trans h.len n.le⟩

theorem at_has {σ : Store} {i off n : Nat} {k : Kind} {e : Nat} {l cs : List AV} [h : Has σ i ⟨k, e, l, []⟩] (hr : k = .own ∨ k = .ro) (hc : cut ⟨k, e, l, []⟩ off n = cs) (hn : cs.length = n) : At σ i off n cs :=
  ⟨_, h.get, hr.symm, hc, hn⟩
theorem At.grow {σ σ' : Store} (g : LeS σ σ') {i off n : Nat} {cs : List AV} (h : At σ i off n cs) : At σ' i off n cs :=
  let ⟨o, h1, h2⟩ := h.get
  ⟨o, g.keep _ _ h1, h2⟩
instance instAtGrow {σ σ' : Store} {i off n : Nat} {cs : List AV} [g : Grow σ σ'] [h : At σ i off n cs] : At σ' i off n cs := let ⟨o, h1, h2⟩ := h.get; ⟨o, g.keep _ _ h1, h2⟩
instance instAtUpd {σ σ' σa : Store} {j : Nat} {o' : Ob} {i off n : Nat} {cs : List AV} [g : Upd σ j o' σ'] [n' : New σa j] [h : At σa i off n cs] [k : LeS σa σ] : At σ' i off n cs :=
  let ⟨o, h1, h2⟩ := h.get
  ⟨o, by
    have := n'.le
    have h1' : i < σa.length := by
      rcases Nat.lt_or_ge i σa.length with k | k
      · exact k
      · rw [List.getElem?_eq_none k] at h1; cases h1
    rw [g.eq, List.getElem?_set_ne (by omega)]; exact k.keep _ _ h1, h2⟩

section
variable {E : Env} {ops : Array Oper} {l : List Oper} {Q : Exit → Slots → Store → Prop} {S : Slots} {σ : Store} {d : Option Tmp} {ty : TypeId} {pos : String} {af : Array Edge} {g : Option (Nat × Bool)} {n0 : Nat} {x y : Operand}

theorem At.lt {i off n : Nat} {cs : List AV} (h : At σ i off n cs) : i < σ.length := let ⟨_, h1, _⟩ := h.get; Has.lt ⟨h1⟩

/-- A load of one cell. -/
theorem pc_load1 {t : TypeId} {size bytes : Nat} {z : Value} {id off : Nat} {c : AV} (hx : S.ev x = some (.pt id off)) (ht : Ty E.P t false size bytes z) (ha : At σ id off 1 [c]) (hn : id < n0) : PO E S σ n0 ⟨d, .load t x, ty, pos, af, g⟩ c := by
  obtain ⟨o, h1, h2, h3, _⟩ := ha.get
  refine po_load1 hx ht h1 h2 ?_ hn
  unfold cut at h3
  have : ((o.cells.drop off).take 1)[0]? = some c := by rw [h3]; rfl
  rw [List.getElem?_take] at this
  simpa using this
theorem wc_load1 {t : TypeId} {size bytes : Nat} {z : Value} {id off : Nat} {c : AV} (hx : S.ev x = some (.pt id off)) (ht : Ty E.P t false size bytes z) (ha : At σ id off 1 [c]) (hd : okd E d = true) (k : WL E ops l Q (S.put d c) σ) : WL E ops (⟨d, .load t x, ty, pos, af, none⟩ :: l) Q S σ :=
  wl_po rfl hd (pc_load1 hx ht ha ha.lt) k
theorem pc_loadn {t : TypeId} {size bytes : Nat} {z : Value} {id off : Nat} {cs : List AV} (hx : S.ev x = some (.pt id off)) (ht : Ty E.P t true size bytes z) (ha : At σ id off size cs) (hn : id < n0) : PO E S σ n0 ⟨d, .load t x, ty, pos, af, g⟩ (.agg cs) := by
  obtain ⟨o, h1, h2, h3, h4⟩ := ha.get
  exact po_loadn hx ht h1 h2 h3 h4 hn
theorem wc_loadn {t : TypeId} {size bytes : Nat} {z : Value} {id off : Nat} {cs : List AV} (hx : S.ev x = some (.pt id off)) (ht : Ty E.P t true size bytes z) (ha : At σ id off size cs) (hd : okd E d = true) (k : WL E ops l Q (S.put d (.agg cs)) σ) : WL E ops (⟨d, .load t x, ty, pos, af, none⟩ :: l) Q S σ :=
  wl_po rfl hd (pc_loadn hx ht ha ha.lt) k

theorem grow_push (o : Ob) : Grow σ (σ ++ [o]) := ⟨fun i x h => by
  have : i < σ.length := Has.lt ⟨h⟩
  rw [List.getElem?_append_left this]; exact h⟩
theorem has_push (o : Ob) : Has (σ ++ [o]) σ.length o := ⟨by simp⟩
theorem upd_set {i : Nat} {o : Ob} (h : Has σ i o) (o' : Ob) : Upd σ i o' (σ.set i o') := ⟨h.lt, rfl⟩

theorem wc_box {t : TypeId} {r : AV} {cs : List AV} (hx : S.ev x = some r) (hcs : r.cells = cs) (h1 : ∀ c ∈ cs, c.one = true) (hd : okd E d = true)
    (k : ∀ i σ', Grow σ σ' → New σ i → Has σ' i ⟨.own, 1, cs, []⟩ → WL E ops l Q (S.put d (.pt i 0)) σ') : WL E ops (⟨d, .box t x, ty, pos, af, none⟩ :: l) Q S σ :=
  wl_box 1 hx hcs h1 hd (k _ _ (grow_push _) ⟨Nat.le_refl _⟩ (has_push _))
theorem wc_alloc {t : TypeId} {agg : Bool} {size bytes : Nat} {z : Value} {cs : List AV} (ht : Ty E.P t agg size bytes z) (hcs : z.cells.toList.map .lit = cs) (h1 : ∀ c ∈ cs, c.one = true) (hd : okd E d = true)
    (k : ∀ i σ', Grow σ σ' → New σ i → Has σ' i ⟨.own, 1, cs, []⟩ → WL E ops l Q (S.put d (.pt i 0)) σ') : WL E ops (⟨d, .alloc t, ty, pos, af, none⟩ :: l) Q S σ :=
  wl_alloc 1 ht hcs h1 hd (k _ _ (grow_push _) ⟨Nat.le_refl _⟩ (has_push _))
/-- A value that fills one cell. -/
class One (v : AV) : Prop where
  eq : v.one = true
class Ones (l : List AV) : Prop where
  eq : ∀ c ∈ l, c.one = true
instance instOneInt {k : IntKind} {z : Int} : One (.lit (.int k z)) := ⟨rfl⟩
instance instOneBool {b : Bool} : One (.lit (.bool b)) := ⟨rfl⟩
instance instOneStr {b : ByteArray} : One (.lit (.string b)) := ⟨rfl⟩
instance instOneNil {a : Option Addr} {b c : Nat} : One (.lit (.slice a b c)) := ⟨rfl⟩
instance instOneSl {a b c : Nat} : One (.sl a b c) := ⟨rfl⟩
instance instOnePt {a b : Nat} : One (.pt a b) := ⟨rfl⟩
instance instOneFn {f : FuncId} {l : List AV} : One (.fn f l) := ⟨rfl⟩
instance instOneMp {a : Nat} : One (.mp a) := ⟨rfl⟩
instance instOnesNil : Ones [] := ⟨by simp⟩
instance instOnesCons {v : AV} {l : List AV} [h : One v] [k : Ones l] : Ones (v :: l) := ⟨by
  intro c hc
  rcases List.mem_cons.mp hc with rfl | hc
  · exact h.eq
  · exact k.eq c hc⟩
theorem AV.cells_one {v : AV} (h : v.one = true) : v.cells = [v] := by
  cases v with
  | lit x => cases x <;> simp [AV.one] at h <;> rfl
  | agg l => cases h
  | tup l => cases h
  | _ => rfl
/-- An operation that only computes, or reads. -/
theorem wl_pop {op : Op} {r : AV} (hd : okd E d = true) (h : PO E S σ σ.length ⟨d, op, ty, pos, af, none⟩ r) (k : WL E ops l Q (S.put d r) σ) : WL E ops (⟨d, op, ty, pos, af, none⟩ :: l) Q S σ := wl_po rfl hd h k
theorem wc_boxA {t : TypeId} {cs : List AV} (hx : S.ev x = some (.agg cs)) (h1 : Ones cs) (hd : okd E d = true)
    (k : ∀ i σ', Grow σ σ' → New σ i → Has σ' i ⟨.own, 1, cs, []⟩ → WL E ops l Q (S.put d (.pt i 0)) σ') : WL E ops (⟨d, .box t x, ty, pos, af, none⟩ :: l) Q S σ :=
  wc_box hx rfl h1.eq hd k
theorem wc_box1 {t : TypeId} {v : AV} (hx : S.ev x = some v) (h1 : One v) (hd : okd E d = true)
    (k : ∀ i σ', Grow σ σ' → New σ i → Has σ' i ⟨.own, 1, [v], []⟩ → WL E ops l Q (S.put d (.pt i 0)) σ') : WL E ops (⟨d, .box t x, ty, pos, af, none⟩ :: l) Q S σ :=
  wc_box hx (AV.cells_one h1.eq) (by simpa using h1.eq) hd k
theorem wc_allocA {t : TypeId} {size bytes : Nat} {z : Value} {cs : List AV} (ht : Ty E.P t true size bytes z) (hcs : z.cells.toList.map .lit = cs) (h1 : Ones cs) (hd : okd E d = true)
    (k : ∀ i σ', Grow σ σ' → New σ i → Has σ' i ⟨.own, 1, cs, []⟩ → WL E ops l Q (S.put d (.pt i 0)) σ') : WL E ops (⟨d, .alloc t, ty, pos, af, none⟩ :: l) Q S σ :=
  wc_alloc ht hcs h1.eq hd k
theorem wc_store {t : TypeId} {agg : Bool} {size bytes : Nat} {z : Value} {id off e : Nat} {r : AV} {l' cs cs' : List AV} (hx : S.ev x = some (.pt id off)) (hy : S.ev y = some r) (ht : Ty E.P t agg size bytes z) (ho : Has σ id ⟨.own, e, l', []⟩)
    (hcs : r.cells = cs) (hn : cs.length = size) (h1 : ∀ c ∈ cs, c.one = true) (hoff : off + size ≤ l'.length) (hsp : splice l' off cs = cs') (hm : E.may id)
    (k : ∀ σ', Upd σ id ⟨.own, e, cs', []⟩ σ' → WL E ops l Q S σ') : WL E ops (⟨none, .store t x y, ty, pos, af, none⟩ :: l) Q S σ := by
  subst hsp
  exact wl_store hx hy ht ho.get rfl hcs hn h1 hoff hm (k _ (upd_set ho _))
theorem wc_buildSlice {t e : TypeId} {len : Nat} {parts : Array (Nat × Operand)} {rs : List (Nat × AV)} {agg : Bool} {size bytes : Nat} {z : Value} {cs : List AV} (ht : E.P.underlying t = some (.slice e)) (he : Ty E.P e agg size bytes z) (hz : z.cells.size = size) (hz1 : ∀ v ∈ z.cells.toList, v.oneCell' = true)
    (hsmall : len * size ≤ 16777216) (hp : evParts S parts.toList = some rs) (hok : ∀ x ∈ rs, x.2.cells.length = size ∧ x.1 * size + size ≤ len * size ∧ ∀ c ∈ x.2.cells, c.one = true)
    (hcs : fillA (fun i => i * size) ((List.range (len * size)).map fun i => AV.lit (z.cells.toList.getD (i % size) undef)) rs = cs) (hd : okd E d = true)
    (k : ∀ i σ', Grow σ σ' → New σ i → Has σ' i ⟨.own, size, cs, []⟩ → WL E ops l Q (S.put d (.sl i 0 len)) σ') : WL E ops (⟨d, .buildSlice t len parts, ty, pos, af, none⟩ :: l) Q S σ :=
  wl_buildSlice ht he hz hz1 hsmall hp hok hcs hd (k _ _ (grow_push _) ⟨Nat.le_refl _⟩ (has_push _))
theorem wc_append {t e : TypeId} {id len n : Nat} {es : Nat} {l' : List AV} {r : AV} {cs : List AV} {agg : Bool} {size bytes : Nat} {z : Value} (hx : S.ev x = some (.sl id 0 len)) (hy : S.ev y = some r) (ht : E.P.underlying t = some (.slice e)) (he : Ty E.P e agg size bytes z) (hz : z.cells.size = size) (hb0 : 0 < bytes)
    (ho : Has σ id ⟨.own, es, l', []⟩) (hesz : es = size) (hlen : l'.length = len * size) (ha : Appends E.P σ size n r cs) (hm : E.may id) (hlim : (len + n) * bytes ≤ 140737488355328) (hd : okd E d = true)
    (k : ∀ i σ₁ σ', Upd σ id ⟨.dead, es, l', []⟩ σ₁ → Grow σ₁ σ' → New σ i → Has σ' i ⟨.own, size, l' ++ cs, []⟩ → WL E ops l Q (S.put d (.sl i 0 (len + n))) σ') :
    WL E ops (⟨d, .call ⟨.builtin .append, #[x, y], #[t, t]⟩, ty, pos, af, none⟩ :: l) Q S σ :=
  wl_append hx hy ht he hz hb0 ho.get rfl hesz hlen ha hm hlim hd (k _ _ _ (upd_set ho _) (grow_push _) ⟨Nat.le_refl _⟩ (by
    have := has_push (σ := σ.set id ⟨.dead, es, l', []⟩) ⟨.own, size, l' ++ cs, []⟩
    simpa [Ob.killed] using this))
theorem wc_append_nil {t e : TypeId} {n : Nat} {r : AV} {cs : List AV} {agg : Bool} {size bytes : Nat} {z : Value} (hx : S.ev x = some (.lit (.slice none 0 0))) (hy : S.ev y = some r) (ht : E.P.underlying t = some (.slice e)) (he : Ty E.P e agg size bytes z) (hz : z.cells.size = size) (hb0 : 0 < bytes)
    (ha : Appends E.P σ size n r cs) (hn : 0 < n) (hlim : n * bytes ≤ 140737488355328) (hd : okd E d = true)
    (k : ∀ i σ', Grow σ σ' → New σ i → Has σ' i ⟨.own, size, cs, []⟩ → WL E ops l Q (S.put d (.sl i 0 n)) σ') :
    WL E ops (⟨d, .call ⟨.builtin .append, #[x, y], #[t, t]⟩, ty, pos, af, none⟩ :: l) Q S σ :=
  wl_append_nil hx hy ht he hz hb0 ha hn hlim hd (k _ _ (grow_push _) ⟨Nat.le_refl _⟩ (has_push _))

/-- A call that changes nothing of what is there. -/
theorem wc_call {args : Array Operand} {ats : Array TypeId} {f : FuncId} {rs caps : List AV} {K : AV → Store → Prop} (hf : S.ev x = some (.fn f caps)) (hc : Callable E.P f) (hargs : evs S args.toList = some rs)
    (h : ACall E.P E.base f (rs ++ caps) σ (fun _ => False) K) (hd : okd E d = true) (k : ∀ r σ', K r σ' → WL E ops l Q (S.put d r) σ') :
    WL E ops (⟨d, .call ⟨.value x, args, ats⟩, ty, pos, af, none⟩ :: l) Q S σ := wl_call hf hc hargs h (fun _ f => f.elim) hd k

theorem thru_seq {K : Slots → Store → Prop} {id : Nat} (h : Q (.exit id) S σ) : andThen K Q (.exit id) S σ := h
theorem thru_seq_ret {K : Slots → Store → Prop} (h : Q .ret S σ) : andThen K Q .ret S σ := h
theorem thru_seq_next {K : Slots → Store → Prop} (h : K S σ) : andThen K Q .normal S σ := h
theorem thru_block_ret {id : Nat} (h : Q .ret S σ) : inBlock id Q .ret S σ := h
theorem thru_block_next {id : Nat} (h : Q .normal S σ) : inBlock id Q .normal S σ := h
theorem at_ret {P : Program} {fn : Func} {K : AV → Store → Prop} {r : AV} (h : ResOK P fn S σ r) (k : K r σ) : atEnd P fn K .ret S σ := ⟨r, h, k⟩
theorem at_next {P : Program} {fn : Func} {K : AV → Store → Prop} {r : AV} (h : ResOK P fn S σ r) (k : K r σ) : atEnd P fn K .normal S σ := ⟨r, h, k⟩

/-- Slots that a loop does not change. -/
def keepS (D : List Nat) (S : Slots) : Slots := S.filter fun x => !D.contains x.1
/-- A loop: the slots of D change as V tells, the store as J tells; every round lowers the measure. -/
theorem wc_loop {ι : Type} {c : Code} (S₀ : Slots) (V : ι → Slots) (J : ι → Store → Prop) (m : ι → Nat) (x₀ : ι) (h₀ : J x₀ σ) (hs : Sub (V x₀ ++ S₀) S)
    (round : ∀ x σ', J x σ' → WP E c (andThen (fun S' σ'' => ∃ y, m y < m x ∧ J y σ'' ∧ Sub (V y ++ S₀) S') Q) (V x ++ S₀) σ') : WP E (.loop c) Q S σ := by
  refine wp_loopA (fun n S σ => ∃ x, n = m x ∧ J x σ ∧ Sub (V x ++ S₀) S) (m x₀) ⟨x₀, rfl, h₀, hs⟩ ?_
  rintro n S σ ⟨x, rfl, hJ, hS⟩
  refine (WP.mono (round x σ hJ) ?_).less hS
  intro e S' σ' h
  cases e with
  | normal =>
    obtain ⟨y, h1, h2, h3⟩ := h
    exact ⟨m y, h1, y, rfl, h2, h3⟩
  | _ => exact h

/-- A truth that is known from here on. -/
theorem sub_put {t : Nat} {v : AV} (h : S.get t = some v) : Sub ((t, v) :: S) S := by
  intro t' v' h'
  by_cases e : t' = t
  · subst e; rw [lookup_cons_eq] at h'; cases h'; exact h
  · rw [lookup_cons_ne e] at h'; exact h'
/-- A guard: it is met, or it is not. -/
theorem wc_guard {op : Op} {j : Nat} {b want : Bool} {oj : Oper} {dj : Tmp} (hj : ops[j]? = some oj) (hdj : oj.dst = some dj) (hb : S.get dj = some (.lit (.bool b))) (hd : okd E d = true)
    (h1 : b = want → WL E ops (⟨d, op, ty, pos, af, none⟩ :: l) Q ((dj, .lit (.bool want)) :: S) σ) (h0 : b = (!want) → WL E ops l Q (Slots.put ((dj, .lit (.bool (!want))) :: S) d (.lit undef)) σ) :
    WL E ops (⟨d, op, ty, pos, af, some (j, want)⟩ :: l) Q S σ := by
  by_cases h : b = want
  · subst h
    exact wl_on hj hdj hb rfl ((h1 rfl).less (sub_put hb))
  · have h' : b = (!want) := by cases b <;> cases want <;> simp_all
    subst h'
    refine WL.less ?_ (sub_put hb)
    exact wl_off (dj := dj) rfl hj hdj lookup_cons_eq (by cases want <;> simp) (h0 rfl) hd
end
/-- What a call answers, where it changes nothing of what is there. -/
def Ret (σ : Store) (r : AV) : AV → Store → Prop := fun r' σ' => r' = r ∧ Grow σ σ'
/-- Some number is answered. -/
def RetInt (σ : Store) : AV → Store → Prop := fun r' σ' => (∃ z, r' = I z) ∧ Grow σ σ'
section
variable {E : Env} {ops : Array Oper} {l : List Oper} {Q : Exit → Slots → Store → Prop} {S : Slots} {σ : Store} {d : Option Tmp} {ty : TypeId} {pos : String} {af : Array Edge} {x y : Operand}
theorem wc_callR {args : Array Operand} {ats : Array TypeId} {f : FuncId} {rs caps : List AV} {r : AV} (hf : S.ev x = some (.fn f caps)) (hc : Callable E.P f) (hargs : evs S args.toList = some rs)
    (h : ACall E.P E.base f (rs ++ caps) σ (fun _ => False) (Ret σ r)) (hd : okd E d = true) (k : ∀ σ', Grow σ σ' → WL E ops l Q (S.put d r) σ') :
    WL E ops (⟨d, .call ⟨.value x, args, ats⟩, ty, pos, af, none⟩ :: l) Q S σ :=
  wc_call hf hc hargs h hd fun r' σ' h => by obtain ⟨e, hg⟩ := h; subst e; exact k σ' hg
end
theorem ret_ {σ σ' : Store} {r r' : AV} (h : LeS σ σ') (e : r' = r) : Ret σ r r' σ' := ⟨e, ⟨h.keep⟩⟩
section
variable {P : Program} {base : Nat} {f : FuncId} {fn : Func} {c : Code} {n : Nat} {a b e g : AV} {σ : Store} {T : Nat → Prop} {K : AV → Store → Prop}
theorem acall0 (hf : P.funcs[f]? = some fn) (hb : fn.body = some c) (hn : fn.ntmps = n)
    (h : ∀ (N : Nat) (B : Nat → Prop) (w₀ : World) (ρ₀ : Pl), WP ⟨P, base, n, fun i => T i ∨ σ.length ≤ i, N, B, w₀, ρ₀, σ.length⟩ c (atEnd P fn K) [] σ) : ACall P base f [] σ T K := acall_of_wp hf hb hn (by simp) h
theorem acall1 (hf : P.funcs[f]? = some fn) (hb : fn.body = some c) (hn : fn.ntmps = n) (hl : Nat.ble 1 n = true)
    (h : ∀ (N : Nat) (B : Nat → Prop) (w₀ : World) (ρ₀ : Pl), WP ⟨P, base, n, fun i => T i ∨ σ.length ≤ i, N, B, w₀, ρ₀, σ.length⟩ c (atEnd P fn K) [(0, a)] σ) : ACall P base f [a] σ T K := acall_of_wp hf hb hn (Nat.le_of_ble_eq_true hl) h
theorem acall2 (hf : P.funcs[f]? = some fn) (hb : fn.body = some c) (hn : fn.ntmps = n) (hl : Nat.ble 2 n = true)
    (h : ∀ (N : Nat) (B : Nat → Prop) (w₀ : World) (ρ₀ : Pl), WP ⟨P, base, n, fun i => T i ∨ σ.length ≤ i, N, B, w₀, ρ₀, σ.length⟩ c (atEnd P fn K) [(0, a), (1, b)] σ) : ACall P base f [a, b] σ T K := acall_of_wp hf hb hn (Nat.le_of_ble_eq_true hl) h
theorem acall3 (hf : P.funcs[f]? = some fn) (hb : fn.body = some c) (hn : fn.ntmps = n) (hl : Nat.ble 3 n = true)
    (h : ∀ (N : Nat) (B : Nat → Prop) (w₀ : World) (ρ₀ : Pl), WP ⟨P, base, n, fun i => T i ∨ σ.length ≤ i, N, B, w₀, ρ₀, σ.length⟩ c (atEnd P fn K) [(0, a), (1, b), (2, e)] σ) : ACall P base f [a, b, e] σ T K := acall_of_wp hf hb hn (Nat.le_of_ble_eq_true hl) h
end
theorem LeS.grow {σ σ' : Store} (h : LeS σ σ') : Grow σ σ' := ⟨h.keep⟩
end Go.Proofs.YthbodgnoadlbcaaDoor.Asl

/- More rules: numbers in range, conditions told plainly, regions that draw. -/
namespace Go.Proofs.YthbodgnoadlbcaaDoor.Asl
open Go.RowKit Go.Proofs.YthbodgnoadlbcaaDoorW.PrintLast
set_option linter.unusedVariables false
set_option linter.unusedSimpArgs false

theorem wrap64 {z : Int} (h0 : -9223372036854775808 ≤ z) (h1 : z ≤ 9223372036854775807) : IntKind.i64.wrap z = z := by
  have hb : IntKind.i64.bits = 64 := rfl
  have hs : IntKind.i64.signed = true := rfl
  simp only [IntKind.wrap, hb, hs, Bool.true_and, decide_eq_true_eq]
  have e1 : (2 : Int) ^ 64 = 18446744073709551616 := by decide
  have e2 : (2 : Int) ^ (64 - 1) = 9223372036854775808 := by decide
  rw [e1, e2]
  by_cases h : 0 ≤ z
  · rw [Int.emod_eq_of_lt h (by omega), if_neg (by omega)]
  · have : z % 18446744073709551616 = z + 18446744073709551616 := by omega
    rw [this, if_pos (by omega)]; omega

class NP (Q : Exit → Slots → Store → Prop) : Prop where
  no : ∀ ch S σ, ¬ Q (.panic ch) S σ
instance instNPSeq {K : Slots → Store → Prop} {Q : Exit → Slots → Store → Prop} [h : NP Q] : NP (andThen K Q) := ⟨h.no⟩
instance instNPBlock {id : Nat} {Q : Exit → Slots → Store → Prop} [h : NP Q] : NP (inBlock id Q) := ⟨h.no⟩
instance instNPScope {Q : Exit → Slots → Store → Prop} [h : NP Q] : NP (noGoto Q) := ⟨h.no⟩
instance instNPEnd {P : Program} {fn : Func} {K : AV → Store → Prop} : NP (atEnd P fn K) := ⟨fun _ _ _ h => h⟩

section
variable {E : Env} {ops : Array Oper} {l : List Oper} {Q : Exit → Slots → Store → Prop} {S : Slots} {σ : Store} {d : Option Tmp} {ty : TypeId} {pos : String} {af : Array Edge} {g : Option (Nat × Bool)} {n0 : Nat} {x y : Operand}

theorem pc_add {xt yt : TypeId} {a b : Int} (hx : S.ev x = some (I a)) (hy : S.ev y = some (I b)) (h0 : -9223372036854775808 ≤ a + b) (h1 : a + b ≤ 9223372036854775807) : PO E S σ n0 ⟨d, .binOp .add xt x y yt, ty, pos, af, g⟩ (I (a + b)) := by
  have := po_binOp (E := E) (σ := σ) (n0 := n0) (d := d) (ty := ty) (pos := pos) (af := af) (g := g) (op := .add) (xt := xt) (yt := yt) hx hy rfl
  rwa [wrap64 h0 h1] at this
theorem pc_sub {xt yt : TypeId} {a b : Int} (hx : S.ev x = some (I a)) (hy : S.ev y = some (I b)) (h0 : -9223372036854775808 ≤ a - b) (h1 : a - b ≤ 9223372036854775807) : PO E S σ n0 ⟨d, .binOp .sub xt x y yt, ty, pos, af, g⟩ (I (a - b)) := by
  have := po_binOp (E := E) (σ := σ) (n0 := n0) (d := d) (ty := ty) (pos := pos) (af := af) (g := g) (op := .sub) (xt := xt) (yt := yt) hx hy rfl
  rwa [wrap64 h0 h1] at this
theorem pc_indexAddr {t e : TypeId} {id off len : Nat} {i : Nat} {agg : Bool} {size bytes : Nat} {z : Value} (hx : S.ev x = some (.sl id off len)) (hy : S.ev y = some (I (i : Int))) (ht : Un E.P t (.slice e)) (he : Ty E.P e agg size bytes z)
    (h1 : i < len) : PO E S σ n0 ⟨d, .indexAddr t x y, ty, pos, af, g⟩ (.pt id (off + i * size)) := by
  have := po_indexAddr (E := E) (σ := σ) (n0 := n0) (d := d) (ty := ty) (pos := pos) (af := af) (g := g) (o := ⟨.own, 0, [], []⟩) hx hy ht.eq he (by omega) (by omega)
  simpa using this

theorem pc_boolNeSelf {xt yt : TypeId} {a : Bool} (hx : S.ev x = some (Bo a)) (hy : S.ev y = some (Bo a)) (ht : Un E.P xt .bool) : PO E S σ n0 ⟨d, .binOp .neq xt x y yt, ty, pos, af, g⟩ (Bo false) := by
  have := po_boolNe (E := E) (σ := σ) (n0 := n0) (d := d) (ty := ty) (pos := pos) (af := af) (g := g) (yt := yt) hx hy ht.eq
  have e : (a != a) = false := by simp
  rwa [e] at this
theorem pc_max {ats : Array TypeId} {a b : Int} (hx : S.ev x = some (I a)) (hy : S.ev y = some (I b)) : PO E S σ n0 ⟨d, .call ⟨.builtin .max, #[x, y], ats⟩, ty, pos, af, g⟩ (I (max a b)) := by
  have := po_max (E := E) (σ := σ) (n0 := n0) (d := d) (ty := ty) (pos := pos) (af := af) (g := g) (ats := ats) hx hy
  have e : (if b > a then b else a) = max a b := by split <;> omega
  rwa [e] at this
theorem pc_min {ats : Array TypeId} {a b : Int} (hx : S.ev x = some (I a)) (hy : S.ev y = some (I b)) : PO E S σ n0 ⟨d, .call ⟨.builtin .min, #[x, y], ats⟩, ty, pos, af, g⟩ (I (min a b)) := by
  have := po_min (E := E) (σ := σ) (n0 := n0) (d := d) (ty := ty) (pos := pos) (af := af) (g := g) (ats := ats) hx hy
  have e : (if b < a then b else a) = min a b := by split <;> omega
  rwa [e] at this
theorem wp_condP {c : Operand} {u v : Code} {p : Prop} [i : Decidable p] (hb : S.ev c = some (.lit (.bool (decide p)))) (ht : p → WP E u Q S σ) (hf : ¬ p → WP E v Q S σ) : WP E (.cond c u v) Q S σ :=
  wp_condA hb (fun h => ht (by simpa using h)) (fun h => hf (by simpa using h))
theorem wp_condNP {c : Operand} {u v : Code} {p : Prop} [i : Decidable p] (hb : S.ev c = some (.lit (.bool (!decide p)))) (ht : ¬ p → WP E u Q S σ) (hf : p → WP E v Q S σ) : WP E (.cond c u v) Q S σ :=
  wp_condA hb (fun h => ht (by simpa using h)) (fun h => hf (by simpa using h))
theorem wp_condT {c : Operand} {u v : Code} (hb : S.ev c = some (.lit (.bool true))) (ht : WP E u Q S σ) : WP E (.cond c u v) Q S σ :=
  wp_condA hb (fun _ => ht) (fun h => by cases h)
theorem wp_condF {c : Operand} {u v : Code} (hb : S.ev c = some (.lit (.bool false))) (hf : WP E v Q S σ) : WP E (.cond c u v) Q S σ :=
  wp_condA hb (fun h => by cases h) (fun _ => hf)

theorem wc_guardU {op : Op} {j : Nat} {want : Bool} {oj : Oper} {dj : Tmp} (hj : ops[j]? = some oj) (hdj : oj.dst = some dj) (hb : S.get dj = some (.lit undef)) (hd : okd E d = true)
    (k : WL E ops l Q (S.put d (.lit undef)) σ) : WL E ops (⟨d, op, ty, pos, af, some (j, want)⟩ :: l) Q S σ := by
  intro a w ρ hw
  obtain ⟨u, h1, h2⟩ := hw.slots dj _ hb
  have hu := R_lit h2; subst hu
  have hy : yielded ops a.tmps j = none := by simp [yielded, hj, hdj, h1, undef]
  have hw' : Region.wanted (⟨d, op, ty, pos, af, some (j, want)⟩ : Oper) (yielded ops a.tmps) = false := by simp [Region.wanted, hy]
  simp only [wpOpsL, hw']
  exact k _ _ _ (hw.put hd (.lit _))
theorem wc_guardP_true {op : Op} {j : Nat} {p : Prop} [i : Decidable p] {oj : Oper} {dj : Tmp} (hj : ops[j]? = some oj) (hdj : oj.dst = some dj) (hb : S.get dj = some (.lit (.bool (decide p)))) (hd : okd E d = true)
    (h1 : p → WL E ops (⟨d, op, ty, pos, af, none⟩ :: l) Q ((dj, .lit (.bool true)) :: S) σ) (h0 : ¬ p → WL E ops l Q (Slots.put ((dj, .lit (.bool false)) :: S) d (.lit undef)) σ) :
    WL E ops (⟨d, op, ty, pos, af, some (j, true)⟩ :: l) Q S σ :=
  wc_guard hj hdj hb hd (fun h => h1 (by simpa using h)) (fun h => h0 (by simpa using h))
theorem wc_guardNP_true {op : Op} {j : Nat} {p : Prop} [i : Decidable p] {oj : Oper} {dj : Tmp} (hj : ops[j]? = some oj) (hdj : oj.dst = some dj) (hb : S.get dj = some (.lit (.bool (!decide p)))) (hd : okd E d = true)
    (h1 : ¬ p → WL E ops (⟨d, op, ty, pos, af, none⟩ :: l) Q ((dj, .lit (.bool true)) :: S) σ) (h0 : p → WL E ops l Q (Slots.put ((dj, .lit (.bool false)) :: S) d (.lit undef)) σ) :
    WL E ops (⟨d, op, ty, pos, af, some (j, true)⟩ :: l) Q S σ :=
  wc_guard hj hdj hb hd (fun h => h1 (by simpa using h)) (fun h => h0 (by simpa using h))
theorem wc_guardT_true {op : Op} {j : Nat} {oj : Oper} {dj : Tmp} (hj : ops[j]? = some oj) (hdj : oj.dst = some dj) (hb : S.get dj = some (.lit (.bool true))) 
    (h1 : WL E ops (⟨d, op, ty, pos, af, none⟩ :: l) Q S σ) : WL E ops (⟨d, op, ty, pos, af, some (j, true)⟩ :: l) Q S σ := wl_on hj hdj hb rfl h1
theorem wc_guardF_true {op : Op} {j : Nat} {oj : Oper} {dj : Tmp} (hj : ops[j]? = some oj) (hdj : oj.dst = some dj) (hb : S.get dj = some (.lit (.bool false))) (hd : okd E d = true)
    (h0 : WL E ops l Q (S.put d (.lit undef)) σ) : WL E ops (⟨d, op, ty, pos, af, some (j, true)⟩ :: l) Q S σ := wl_off (o := ⟨d, op, ty, pos, af, some (j, true)⟩) rfl hj hdj hb (by decide) h0 hd
theorem wc_guardP_false {op : Op} {j : Nat} {p : Prop} [i : Decidable p] {oj : Oper} {dj : Tmp} (hj : ops[j]? = some oj) (hdj : oj.dst = some dj) (hb : S.get dj = some (.lit (.bool (decide p)))) (hd : okd E d = true)
    (h1 : ¬ p → WL E ops (⟨d, op, ty, pos, af, none⟩ :: l) Q ((dj, .lit (.bool false)) :: S) σ) (h0 : p → WL E ops l Q (Slots.put ((dj, .lit (.bool true)) :: S) d (.lit undef)) σ) :
    WL E ops (⟨d, op, ty, pos, af, some (j, false)⟩ :: l) Q S σ :=
  wc_guard hj hdj hb hd (fun h => h1 (by simpa using h)) (fun h => h0 (by simpa using h))
theorem wc_guardNP_false {op : Op} {j : Nat} {p : Prop} [i : Decidable p] {oj : Oper} {dj : Tmp} (hj : ops[j]? = some oj) (hdj : oj.dst = some dj) (hb : S.get dj = some (.lit (.bool (!decide p)))) (hd : okd E d = true)
    (h1 : p → WL E ops (⟨d, op, ty, pos, af, none⟩ :: l) Q ((dj, .lit (.bool false)) :: S) σ) (h0 : ¬ p → WL E ops l Q (Slots.put ((dj, .lit (.bool true)) :: S) d (.lit undef)) σ) :
    WL E ops (⟨d, op, ty, pos, af, some (j, false)⟩ :: l) Q S σ :=
  wc_guard hj hdj hb hd (fun h => h1 (by simpa using h)) (fun h => h0 (by simpa using h))
theorem wc_guardT_false {op : Op} {j : Nat} {oj : Oper} {dj : Tmp} (hj : ops[j]? = some oj) (hdj : oj.dst = some dj) (hb : S.get dj = some (.lit (.bool false))) 
    (h1 : WL E ops (⟨d, op, ty, pos, af, none⟩ :: l) Q S σ) : WL E ops (⟨d, op, ty, pos, af, some (j, false)⟩ :: l) Q S σ := wl_on hj hdj hb rfl h1
theorem wc_guardF_false {op : Op} {j : Nat} {oj : Oper} {dj : Tmp} (hj : ops[j]? = some oj) (hdj : oj.dst = some dj) (hb : S.get dj = some (.lit (.bool true))) (hd : okd E d = true)
    (h0 : WL E ops l Q (S.put d (.lit undef)) σ) : WL E ops (⟨d, op, ty, pos, af, some (j, false)⟩ :: l) Q S σ := wl_off (o := ⟨d, op, ty, pos, af, some (j, false)⟩) rfl hj hdj hb (by decide) h0 hd
theorem sub_int {S' : Slots} {t : Nat} {z z' : Int} (h : S'.get t = some (I z')) (e : z' = z) (hs : Sub S S') : Sub ((t, I z) :: S) S' := by subst e; exact sub_cons h hs

variable {ds : List Nat} {fuel : Nat} {listed : Array Bool}
theorem wc_drawn {id n : Nat} (ds : List Nat) (hm : E.P.follows .mixedOrders = true) (hn : ops.size = n) (h : DA E ops ds n (Array.replicate n false) Q σ.length S σ) : WP E (.region id ops true) Q S σ := by
  subst hn; exact wp_region_drawn hm ds h
theorem da_takeC (i : Nat) {op : Op} {r : AV} [hQ : NP Q] (ho : ops[i]? = some ⟨d, op, ty, pos, af, none⟩) (hd : okd E d = true) (hc : takeB .any ops ds listed (listed.setIfInBounds i true) i = true) (h : PO E S σ n0 ⟨d, op, ty, pos, af, none⟩ r)
    (k : DA E ops ds fuel (listed.setIfInBounds i true) Q n0 (S.put d r) σ) : DA E ops ds (fuel + 1) listed Q n0 S σ :=
  da_take i _ ho rfl hd hc hQ.no h k
/-- A call in a region that draws, the only one that is left to come up. -/
theorem da_callR (i : Nat) {args : Array Operand} {ats : Array TypeId} {f : FuncId} {rs caps : List AV} {r : AV} (ho : ops[i]? = some ⟨d, .call ⟨.value x, args, ats⟩, ty, pos, af, none⟩) (hr : Region.ready .any ops listed = [i]) (hf : S.ev x = some (.fn f caps)) (hc : Callable E.P f) (hargs : evs S args.toList = some rs)
    (h : ACall E.P E.base f (rs ++ caps) σ (fun _ => False) (Ret σ r)) (hd : okd E d = true) (k : ∀ σ', Grow σ σ' → DA E ops ds fuel (listed.setIfInBounds i true) Q n0 (S.put d r) σ') :
    DA E ops ds (fuel + 1) listed Q n0 S σ := by
  refine da_step i _ ho hr rfl ?_
  intro E' hP hbase hn _
  obtain ⟨P, base, n, may, N, B, w₀, ρ₀, n₀⟩ := E
  obtain ⟨P', base', n', may', N', B', w₀', ρ₀', n₀'⟩ := E'
  simp only at hP hbase hn
  subst hP hbase hn
  refine wc_callR hf hc hargs h hd fun σ' hg => wl_nil ⟨rfl, hg.len, k σ' hg⟩

theorem wc_storeA {t : TypeId} {size bytes : Nat} {z : Value} {id off e : Nat} {l' cs : List AV} (hx : S.ev x = some (.pt id off)) (hy : S.ev y = some (.agg cs)) (ht : Ty E.P t true size bytes z) (ho : Has σ id ⟨.own, e, l', []⟩)
    (hn : cs.length = size) (h1 : Ones cs) (hoff : off + size ≤ l'.length) (hm : E.may id)
    (k : ∀ σ', Upd σ id ⟨.own, e, splice l' off cs, []⟩ σ' → WL E ops l Q S σ') : WL E ops (⟨none, .store t x y, ty, pos, af, none⟩ :: l) Q S σ :=
  wc_store hx hy ht ho rfl hn h1.eq hoff rfl hm k
theorem wc_store1 {t : TypeId} {bytes : Nat} {z : Value} {id off e : Nat} {l' : List AV} {v : AV} (hx : S.ev x = some (.pt id off)) (hy : S.ev y = some v) (ht : Ty E.P t false 1 bytes z) (ho : Has σ id ⟨.own, e, l', []⟩)
    (h1 : One v) (hoff : off + 1 ≤ l'.length) (hm : E.may id)
    (k : ∀ σ', Upd σ id ⟨.own, e, splice l' off [v], []⟩ σ' → WL E ops l Q S σ') : WL E ops (⟨none, .store t x y, ty, pos, af, none⟩ :: l) Q S σ :=
  wc_store hx hy ht ho (AV.cells_one h1.eq) rfl (by simpa using h1.eq) hoff rfl hm k
theorem pc_load1L {σ₀ : Store} {t : TypeId} {size bytes : Nat} {z : Value} {id off : Nat} {c : AV} (hx : S.ev x = some (.pt id off)) (ht : Ty E.P t false size bytes z) (ha : At σ₀ id off 1 [c]) (hl : LeS σ₀ σ) : PO E S σ σ₀.length ⟨d, .load t x, ty, pos, af, g⟩ c :=
  pc_load1 hx ht (ha.grow hl) ha.lt
theorem pc_loadnL {σ₀ : Store} {t : TypeId} {size bytes : Nat} {z : Value} {id off : Nat} {cs : List AV} (hx : S.ev x = some (.pt id off)) (ht : Ty E.P t true size bytes z) (ha : At σ₀ id off size cs) (hl : LeS σ₀ σ) : PO E S σ σ₀.length ⟨d, .load t x, ty, pos, af, g⟩ (.agg cs) :=
  pc_loadn hx ht (ha.grow hl) ha.lt
theorem res_cell {P : Program} {fn : Func} {c : Tmp} {t : TypeId} {id off size bytes : Nat} {z : Value} {cs : List AV} (h : fn.results = #[.cell c t]) (hx : S.get c = some (.pt id off)) (ht : Ty P t true size bytes z) (ha : At σ id off size cs) : ResOK P fn S σ (.agg cs) :=
  let ⟨_, h1, h2, h3, h4⟩ := ha.get
  resC h hx ht h1 h2 h3 h4
theorem res_cell2 {P : Program} {fn : Func} {c u : Tmp} {t : TypeId} {id off size bytes : Nat} {z : Value} {cs : List AV} {y : AV} (h : fn.results = #[.cell c t, .tmp u]) (hx : S.get c = some (.pt id off)) (ht : Ty P t true size bytes z) (ha : At σ id off size cs) (hy : S.get u = some y) : ResOK P fn S σ (.tup [.agg cs, y]) :=
  let ⟨_, h1, h2, h3, h4⟩ := ha.get
  resCT h hx ht h1 h2 h3 h4 hy
end

/-- A walk stops here. -/
def Hold (p : Prop) : Prop := p
section
variable {E : Env} {Q : Exit → Slots → Store → Prop} {S : Slots} {σ : Store} {x y : Code}
variable {R : Exit → Slots → Store → Prop}
theorem wc_hold (id : Nat) (h : Hold (WP E (.block id x) (andThen (WP E y Q) R) S σ)) : WP E (.block id x) (andThen (WP E y Q) R) S σ := h
theorem wc_holdIf {z : Code} {c : Operand} (h : Hold (WP E (.cond c x z) (andThen (WP E y Q) R) S σ)) : WP E (.cond c x z) (andThen (WP E y Q) R) S σ := h
/-- A cut behind a block or a condition. -/
theorem wc_cut {ι : Type} (S₀ : Slots) (V : ι → Slots) (J : ι → Store → Prop) (h : WP E x (andThen (fun S' σ' => ∃ y, J y σ' ∧ Sub (V y ++ S₀) S') R) S σ)
    (k : ∀ z σ', J z σ' → WP E y Q (V z ++ S₀) σ') : Hold (WP E x (andThen (WP E y Q) R) S σ) := by
  refine WP.cut (K := WP E y Q) _ h ?_
  rintro S' σ' ⟨z, h1, h2⟩
  exact (k z σ' h1).less h2
end

/-- Are two things the same? -/
noncomputable def eqB {α : Type} (a b : α) : Bool := @decide (a = b) (Classical.propDecidable _)
theorem eqB_self {α : Type} (a : α) : eqB a a = true := by simp [eqB]
theorem eqB_ne {α : Type} {a b : α} (h : a ≠ b) : eqB a b = false := by simp [eqB, h]
def cutL (l : List AV) (off n : Nat) : List AV := (l.drop off).take n
theorem cut_cutL {k : Kind} {e : Nat} {l : List AV} {m : List (Value × AV)} {off n : Nat} : cut ⟨k, e, l, m⟩ off n = cutL l off n := rfl
end Go.Proofs.YthbodgnoadlbcaaDoor.Asl

/- More rules: arrays, calls that write one object, regions that draw and write last. -/
namespace Go.Proofs.YthbodgnoadlbcaaDoor.Asl
open Go.RowKit Go.Proofs.YthbodgnoadlbcaaDoorW.PrintLast
set_option linter.unusedVariables false
set_option linter.unusedSimpArgs false

section
variable {E : Env} {ops : Array Oper} {l : List Oper} {Q : Exit → Slots → Store → Prop} {S : Slots} {σ : Store} {d : Option Tmp} {ty : TypeId} {pos : String} {af : Array Edge} {g : Option (Nat × Bool)} {n0 : Nat} {x y : Operand}

theorem pc_neg {xt : TypeId} {a : Int} (hx : S.ev x = some (I a)) (h0 : -9223372036854775807 ≤ a) (h1 : a ≤ 9223372036854775807) : PO E S σ n0 ⟨d, .unOp .neg xt x, ty, pos, af, g⟩ (I (-a)) := by
  have := po_neg (E := E) (σ := σ) (n0 := n0) (d := d) (ty := ty) (pos := pos) (af := af) (g := g) (xt := xt) hx
  rwa [wrap64 (by omega) (by omega), Int.zero_sub] at this
end

theorem hold_go {p : Prop} (h : p) : Hold p := h
theorem wc_holdR (id : Nat) {E : Env} {Q R : Exit → Slots → Store → Prop} {S : Slots} {σ : Store} {ops : Array Oper} {b : Bool} {y : Code} (h : Hold (WP E (.region id ops b) (andThen (WP E y Q) R) S σ)) : WP E (.region id ops b) (andThen (WP E y Q) R) S σ := h

/-- What a call leaves that may write one object. -/
structure LeX (i : Nat) (σ σ' : Store) : Prop where
  keep : ∀ (j : Nat) (o : Ob), j ≠ i → σ[j]? = some o → σ'[j]? = some o
def RetUpd (σ : Store) (i : Nat) (r : AV) (o' : Ob) : AV → Store → Prop := fun r' σ' => r' = r ∧ Has σ' i o' ∧ LeX i σ σ'
theorem LeX.split {i : Nat} {σ σ' : Store} {o o' : Ob} (h : LeX i σ σ') (ho : Has σ i o) (ho' : Has σ' i o') : ∃ σ₁, Grow σ σ₁ ∧ Upd σ₁ i o' σ' := by
  have hlt := ho'.lt
  refine ⟨σ'.set i o, ⟨fun j x hj => ?_⟩, by simpa using hlt, ?_⟩
  · by_cases e : j = i
    · subst e
      have := ho.get
      rw [this] at hj; cases hj
      simp [hlt]
    · rw [List.getElem?_set_ne (Ne.symm e)]
      exact h.keep j x e hj
  · apply List.ext_getElem?
    intro j
    rw [List.set_set]
    by_cases e : j = i
    · subst e; rw [ho'.get]; simp [hlt]
    · rw [List.getElem?_set_ne (Ne.symm e)]
theorem LeX.refl (i : Nat) (σ : Store) : LeX i σ σ := ⟨fun _ _ _ h => h⟩
theorem LeX.grow {i : Nat} {σ₀ σ σ' : Store} (h : LeX i σ₀ σ) (g : Grow σ σ') : LeX i σ₀ σ' := ⟨fun j o hj ho => g.keep j o (h.keep j o hj ho)⟩
theorem LeX.les {i : Nat} {σ₀ σ σ' : Store} (h : LeX i σ₀ σ) (g : LeS σ σ') : LeX i σ₀ σ' := ⟨fun j o hj ho => g.keep j o (h.keep j o hj ho)⟩
theorem LeX.upd {i : Nat} {σ₀ σ σ' : Store} {o : Ob} (h : LeX i σ₀ σ) (g : Upd σ i o σ') : LeX i σ₀ σ' := ⟨fun j x hj ho => by rw [g.eq, List.getElem?_set_ne (Ne.symm hj)]; exact h.keep j x hj ho⟩
theorem LeX.updNew {i k : Nat} {σ₀ σ σ' : Store} {o : Ob} (h : LeX i σ₀ σ) (g : Upd σ k o σ') (n : σ₀.length ≤ k) : LeX i σ₀ σ' := ⟨fun j x hj ho => by
  have : j < σ₀.length := Has.lt ⟨ho⟩
  rw [g.eq, List.getElem?_set_ne (by omega)]; exact h.keep j x hj ho⟩
end Go.Proofs.YthbodgnoadlbcaaDoor.Asl

/- More rules for regions that draw: a slice that is written down, and what comes up behind a write. -/
namespace Go.Proofs.YthbodgnoadlbcaaDoor.Asl
open Go.RowKit Go.Proofs.YthbodgnoadlbcaaDoorW.PrintLast
set_option linter.unusedVariables false
set_option linter.unusedSimpArgs false
section
variable {E : Env} {ops : Array Oper} {Q : Exit → Slots → Store → Prop} {S : Slots} {σ : Store} {d : Option Tmp} {ty : TypeId} {pos : String} {af : Array Edge} {n0 : Nat} {x y : Operand} {ds : List Nat} {fuel : Nat} {listed : Array Bool}
/-- One that comes up behind the first write, told by a walk over it alone. -/
theorem da_last (i : Nat) {g : Option (Nat × Bool)} {op : Op} (ho : ops[i]? = some ⟨d, op, ty, pos, af, g⟩) (hi : i ∈ ds) (hr : Region.ready .any ops listed = [i])
    (h : WL E ops [⟨d, op, ty, pos, af, g⟩] (fun e S' σ' => e = .normal ∧ DL E ops ds fuel (listed.setIfInBounds i true) Q S' σ') S σ) : DA E ops ds (fuel + 1) listed Q n0 S σ := (dl_step i _ ho hi hr rfl h).da
theorem dl_last (i : Nat) {g : Option (Nat × Bool)} {op : Op} (ho : ops[i]? = some ⟨d, op, ty, pos, af, g⟩) (hi : i ∈ ds) (hr : Region.ready .any ops listed = [i])
    (h : WL E ops [⟨d, op, ty, pos, af, g⟩] (fun e S' σ' => e = .normal ∧ DL E ops ds fuel (listed.setIfInBounds i true) Q S' σ') S σ) : DL E ops ds (fuel + 1) listed Q S σ := dl_step i _ ho hi hr rfl h
theorem dl_in {P : Prop} (h : P) : Exit.normal = .normal ∧ P := ⟨rfl, h⟩
end
end Go.Proofs.YthbodgnoadlbcaaDoor.Asl

/- More rules for regions that draw: cases, guards that hold nothing, one that makes something new, either of two. -/
namespace Go.Proofs.YthbodgnoadlbcaaDoor.Asl
open Go.RowKit Go.Proofs.YthbodgnoadlbcaaDoorW.PrintLast
set_option linter.unusedVariables false
set_option linter.unusedSimpArgs false
section
variable {E : Env} {ops : Array Oper} {Q : Exit → Slots → Store → Prop} {S : Slots} {σ : Store} {d : Option Tmp} {ty : TypeId} {pos : String} {af : Array Edge} {n0 : Nat} {x y : Operand} {ds : List Nat} {fuel : Nat} {listed : Array Bool}

/-- Some that can come up, each of which leaves what was there when the region began as it was. -/
theorem da_some (is : List Nat) (hr : Region.ready .any ops listed = is) (hne : is ≠ [])
    (h : ∀ i ∈ is, ∃ o, ops[i]? = some o ∧ ∀ (N : Nat) (B : Nat → Prop) (w₀ : World) (ρ₀ : Pl), WL ⟨E.P, E.base, E.n, fun id => False ∨ n0 ≤ id, N, B, w₀, ρ₀, σ.length⟩ ops [o] (fun e S' σ' => e = .normal ∧ σ.length ≤ σ'.length ∧ DA E ops ds fuel (listed.setIfInBounds i true) Q n0 S' σ') S σ) : DA E ops ds (fuel + 1) listed Q n0 S σ := by
  intro a w ρ W0 hw hag hn hle
  refine wpAnyLast_all hr (by simpa using hne) fun j hj => ?_
  obtain ⟨o, ho, h⟩ := h j hj
  have hw' : Ctx ⟨E.P, E.base, E.n, fun id => False ∨ n0 ≤ id, W0.heap.size, fun _ => False, w, ρ, σ.length⟩ S σ a w ρ := by
    refine { defers := hw.defers, size := hw.size, slots := hw.slots, sim := hw.sim, fr := Fr.refl _ _ _, le := Le.refl _, old := fun _ _ h _ => h, may := ?_, fresh := ?_, n₀_le := Nat.le_refl _, N_le := hag.size, later := fun _ h => .inr (Nat.le_trans hle.le h) }
    · intro id p hp _ hm
      simp only [false_or] at hm
      exact .inr (hle.fr id p hp hm).2
    · intro id p hp hm
      have := hw.sim.dom id p hp
      simp only at hm; omega
  refine wpOp_of_L (Q' := lift _ (fun e S' σ' => e = .normal ∧ σ.length ≤ σ'.length ∧ DA E ops ds fuel (listed.setIfInBounds j true) Q n0 S' σ')) ho (h _ _ _ _ a w ρ hw') ?_ ?_
  · rintro a' w' ⟨S', σ', ρ', ⟨_, hlen, hD⟩, hC⟩
    have hfr := hC.fr
    have hag' : Agree W0 w' := ⟨Nat.le_trans hag.size hfr.size, fun k hk => (hfr.block k hk (fun f => f)).trans (hag.block k hk)⟩
    refine ⟨fun _ _ => hag', ?_⟩
    have hlow : ∀ id p, ρ' id = some p → σ.length ≤ id → p.own = true ∧ W0.heap.size ≤ p.blk := fun id p hp hi => by
      obtain ⟨k1, k2⟩ := hC.fresh id p hp hi
      exact ⟨k1, k2.resolve_left (fun f => f)⟩
    have hCE : Ctx E S' σ' a' w' ρ' := by
      refine { defers := hC.defers, size := hC.size, slots := hC.slots, sim := hC.sim, fr := hw.fr.trans ⟨hfr.os, hfr.tape, hfr.output, hfr.size, fun k hk _ => hfr.block k (Nat.lt_of_lt_of_le hk hle.N) (fun f => f)⟩, le := hw.le.trans hC.le, old := ?_, may := ?_, fresh := ?_, n₀_le := Nat.le_trans hw.n₀_le hlen, N_le := Nat.le_trans hw.N_le hfr.size, later := hw.later }
      · intro id p hp hi
        exact hw.old id p (hC.old id p hp (Nat.lt_of_lt_of_le hi hw.n₀_le)) hi
      · intro id p hp h1 h2
        rcases Nat.lt_or_ge id σ.length with hi | hi
        · exact hw.may id p (hC.old id p hp hi) h1 h2
        · exact .inr (Nat.le_trans hle.N (hlow id p hp hi).2)
      · intro id p hp h1
        rcases Nat.lt_or_ge id σ.length with hi | hi
        · exact hw.fresh id p (hC.old id p hp hi) h1
        · exact ⟨(hlow id p hp hi).1, .inr (Nat.le_trans hle.N (hlow id p hp hi).2)⟩
    refine hD a' w' ρ' W0 hCE hag' ?_ ⟨Nat.le_trans hle.le hlen, ?_, hle.N⟩
    · intro id p hp hi
      exact hn id p (hC.old id p hp (Nat.lt_of_lt_of_le hi hle.le)) hi
    · intro id p hp hi
      rcases Nat.lt_or_ge id σ.length with h1 | h1
      · exact hle.fr id p (hC.old id p hp h1) hi
      · exact hlow id p hp h1
  · rintro e a' w' ⟨S', σ', ρ', ⟨h1, _⟩, _⟩ h2
    exact absurd h1 h2
end
section
variable {P : Program} {base n : Nat} {may : Nat → Prop} {M : Nat} {B : Nat → Prop} {w₀ : World} {ρ₀ : Pl} {n₀ : Nat} {ops : Array Oper} {Q : Exit → Slots → Store → Prop} {S : Slots} {σ : Store} {n0 : Nat} {ds : List Nat} {fuel : Nat} {listed : Array Bool}
theorem da_one (i : Nat) {d : Option Tmp} {op : Op} {ty : TypeId} {pos : String} {af : Array Edge} {g : Option (Nat × Bool)} (ho : ops[i]? = some ⟨d, op, ty, pos, af, g⟩) (hr : Region.ready .any ops listed = [i])
    (h : ∀ (N' : Nat) (B' : Nat → Prop) (w₀' : World) (ρ₀' : Pl), WL ⟨P, base, n, fun id => False ∨ n0 ≤ id, N', B', w₀', ρ₀', σ.length⟩ ops [⟨d, op, ty, pos, af, g⟩] (fun e S' σ' => e = .normal ∧ σ.length ≤ σ'.length ∧ DA ⟨P, base, n, may, M, B, w₀, ρ₀, n₀⟩ ops ds fuel (listed.setIfInBounds i true) Q n0 S' σ') S σ) : DA ⟨P, base, n, may, M, B, w₀, ρ₀, n₀⟩ ops ds (fuel + 1) listed Q n0 S σ :=
  da_some [i] hr (by simp) fun j hj => by
    obtain rfl : j = i := by simpa using hj
    exact ⟨_, ho, h⟩
end
end Go.Proofs.YthbodgnoadlbcaaDoor.Asl

/- What marking leaves: what is new since two stores may turn. -/
namespace Go.Proofs.YthbodgnoadlbcaaDoor.Asl
open Go.RowKit
set_option linter.unusedVariables false

/-- The next store: only objects that are of a later time than σa and no later than σb may have turned. -/
class Mk (σ σa σb : outParam Store) (σ' : Store) : Prop where
  keep : ∀ (j : Nat) (o : Ob), (j < σa.length ∨ σb.length ≤ j) → σ[j]? = some o → σ'[j]? = some o
instance instHasMk {σ σa σb σ' : Store} {j : Nat} {o oa : Ob} [m : Mk σ σa σb σ'] [a : Has σa j oa] [h : Has σ j o] : Has σ' j o := ⟨m.keep j o (.inl a.lt) h.get⟩
instance instHasMk2 {σ σa σb σn σ' : Store} {j : Nat} {o : Ob} [m : Mk σ σa σb σ'] [n : New σn j] [k : LeS σb σn] [h : Has σ j o] : Has σ' j o := ⟨m.keep j o (.inr (Nat.le_trans k.len n.le)) h.get⟩
instance instLeMk {σ₀ σ σa σb σ' : Store} [m : Mk σ σa σb σ'] [a : LeS σ₀ σa] [h : LeS σ₀ σ] : LeS σ₀ σ' := ⟨fun j o ho => m.keep j o (.inl (Nat.lt_of_lt_of_le (Has.lt ⟨ho⟩) a.len)) (h.keep j o ho)⟩
end Go.Proofs.YthbodgnoadlbcaaDoor.Asl

/- Regions that draw, with a call that writes one object which no other operation of the region reads. -/
namespace Go.Proofs.YthbodgnoadlbcaaDoor.Asl
open Go.RowKit Go.Proofs.YthbodgnoadlbcaaDoorW.PrintLast
set_option linter.unusedVariables false
set_option linter.unusedSimpArgs false

/-- All blocks but one agree. -/
structure AgreeX (b : Nat) (w w' : World) : Prop where
  size : w.heap.size ≤ w'.heap.size
  block : ∀ k, k < w.heap.size → k ≠ b → w'.heap[k]? = w.heap[k]?
theorem AgreeX.refl (b : Nat) (w : World) : AgreeX b w w := ⟨Nat.le_refl _, fun _ _ _ => rfl⟩
theorem AgreeX.trans {b : Nat} {u v w : World} (h : AgreeX b u v) (k : AgreeX b v w) : AgreeX b u w :=
  ⟨Nat.le_trans h.size k.size, fun i hi hb => (k.block i (Nat.lt_of_lt_of_le hi h.size) hb).trans (h.block i hi hb)⟩
/-- As DA, but object i0 may be written by what is not among the last. -/
def DX (E : Env) (ops : Array Oper) (ds : List Nat) (fuel : Nat) (listed : Array Bool) (Q : Exit → Slots → Store → Prop) (n0 i0 : Nat) (S : Slots) (σ : Store) : Prop :=
  ∀ a w ρ W0 p0, Ctx E S σ a w ρ → ρ i0 = some p0 → AgreeX p0.blk W0 w → (∀ id p, ρ id = some p → id < n0 → p.blk < W0.heap.size) → n0 ≤ σ.length → wpAnyLast E.P .any ops (lift E Q) (fun w' => AgreeX p0.blk W0 w') ds fuel listed a w

section
variable {E : Env} {ops : Array Oper} {ds : List Nat} {fuel n0 i0 : Nat} {listed : Array Bool} {Q : Exit → Slots → Store → Prop} {S : Slots} {σ : Store} {d : Option Tmp} {ty : TypeId} {pos : String} {af : Array Edge} {x : Operand}

theorem dx_pure (i : Nat) {op : Op} {r : AV} [hQ : NP Q] (ho : ops[i]? = some ⟨d, op, ty, pos, af, none⟩) (hd : okd E d = true) (hc : anyB .any ops listed (listed.setIfInBounds i true) i = true) (h : PO E S σ 0 ⟨d, op, ty, pos, af, none⟩ r)
    (k : DX E ops ds fuel (listed.setIfInBounds i true) Q n0 i0 (S.put d r) σ) : DX E ops ds (fuel + 1) listed Q n0 i0 S σ := by
  intro a w ρ W0 p0 hw hp hag hn hle
  have key : ∀ w' : World, Agree { w with heap := #[] } w' := fun w' => ⟨Nat.zero_le _, fun k hk => absurd hk (Nat.not_lt_zero k)⟩
  obtain ⟨u, h1, h2⟩ := h a w ρ { w with heap := #[] } hw (key w) (fun id p _ hi => absurd hi (Nat.not_lt_zero id))
  exact pure_ _ ho rfl hc (hQ_of hQ.no) (.inl ⟨by simp [Region.wanted], fun w' => h2 w' (key w')⟩) rfl (k _ w ρ W0 p0 (hw.put hd h1) hp hag hn hle)
/-- A load of one cell of another object. -/
theorem dx_load1 (i : Nat) {t : TypeId} {size bytes : Nat} {z : Value} {j off e : Nat} {cs : List AV} {c : AV} [hQ : NP Q] (ho : ops[i]? = some ⟨d, .load t x, ty, pos, af, none⟩) (hd : okd E d = true) (hc : takeB .any ops ds listed (listed.setIfInBounds i true) i = true)
    (hx : S.ev x = some (.pt j off)) (ht : Ty E.P t false size bytes z) (ha : At σ j off 1 [c]) (hj : j < n0) (h0 : Has σ i0 ⟨.own, e, cs, []⟩) (hne : j ≠ i0)
    (k : DX E ops ds fuel (listed.setIfInBounds i true) Q n0 i0 (S.put d c) σ) : DX E ops ds (fuel + 1) listed Q n0 i0 S σ := by
  intro a w ρ W0 p0 hw hp0 hag hn hle
  obtain ⟨o, o1, o2, o3, _⟩ := ha.get
  have hcell : o.cells[off]? = some c := by
    unfold cut at o3
    have : ((o.cells.drop off).take 1)[0]? = some c := by rw [o3]; rfl
    rw [List.getElem?_take] at this
    simpa using this
  have e1 := hw.ev hx
  generalize hv : a.eval x = v at e1
  cases e1 with
  | @pt _ _ p hp =>
    obtain ⟨_, u, hu, hr⟩ := hw.sim.cell o1 hp o2 hcell
    have hlt := hn _ _ hp hj
    have hbase := (Ob.live_own (hw.sim.obs i0 _ p0 h0.get hp0) (.inl rfl)).2
    have hb : p.blk ≠ p0.blk := by
      rcases o2 with hk | hk
      · have := (hw.sim.obs j o p o1 hp).ro_lt hk; omega
      · intro e; exact hne (hw.sim.inj j i0 o _ p p0 o1 h0.get (.inl hk) (.inl rfl) hp hp0 e)
    have hblk : ∀ w' : World, AgreeX p0.blk W0 w' → w'.cell? ⟨p.blk, p.off + off, none⟩ = some u := fun w' hw' => by
      rw [← hu]
      exact World.cell?_of_block (w := w) (w' := w') ((hw'.block _ hlt hb).trans (hag.block _ hlt hb).symm)
    refine take_ _ ho rfl hc (hQ_of hQ.no) (.inl ⟨by simp [Region.wanted], fun w' hw' => ?_⟩) hag rfl (k _ w ρ W0 p0 (hw.put hd hr) hp0 hag hn hle)
    simp only [execOp, hv, Instr.loadAt, Instr.sureAddr, loadVar, Sem.run_bind, Sem.run_pure, Result.andThen_ok, ht.isAgg, run_load_cell (hblk w' hw'), if_neg, Bool.false_eq_true, if_false]
/-- The one operation that can come up: it may write that object, and new ones. -/
theorem dx_step (i : Nat) {o : Oper} {e : Nat} {cs : List AV} (ho : ops[i]? = some o) (hr : Region.ready .any ops listed = [i]) (h0 : Has σ i0 ⟨.own, e, cs, []⟩) (hm : E.may i0)
    (h : ∀ E' : Env, E'.P = E.P → E'.base = E.base → E'.n = E.n → E'.n₀ = σ.length → (∀ id, id = i0 ∨ σ.length ≤ id → E'.may id) → WL E' ops [o] (fun e S' σ' => e = .normal ∧ σ.length ≤ σ'.length ∧ DX E ops ds fuel (listed.setIfInBounds i true) Q n0 i0 S' σ') S σ) : DX E ops ds (fuel + 1) listed Q n0 i0 S σ := by
  intro a w ρ W0 p0 hw hp0 hag hn hle
  refine wpAnyLast_all hr (by simp) fun j hj => ?_
  obtain rfl : j = i := by simpa using hj
  have hown := (Ob.live_own (hw.sim.obs i0 _ p0 h0.get hp0) (.inl rfl)).1
  let E' : Env := ⟨E.P, E.base, E.n, fun id => id = i0 ∨ σ.length ≤ id, w.heap.size, fun b => b = p0.blk, w, ρ, σ.length⟩
  have hw' : Ctx E' S σ a w ρ := by
    refine { defers := hw.defers, size := hw.size, slots := hw.slots, sim := hw.sim, fr := Fr.refl _ _ _, le := Le.refl _, old := fun _ _ h _ => h, may := ?_, fresh := ?_, n₀_le := Nat.le_refl _, N_le := Nat.le_refl _, later := fun _ h => .inr h }
    · intro id p hp _ hm
      have := hw.sim.dom id p hp
      rcases hm with rfl | hm
      · rw [hp0] at hp; cases hp; exact .inl rfl
      · omega
    · intro id p hp hm
      have := hw.sim.dom id p hp
      simp only [E'] at hm; omega
  refine wpOp_of_L (Q' := lift E' (fun e S' σ' => e = .normal ∧ σ.length ≤ σ'.length ∧ DX E ops ds fuel (listed.setIfInBounds j true) Q n0 i0 S' σ')) ho (h E' rfl rfl rfl rfl (fun _ h => h) a w ρ hw') ?_ ?_
  · rintro a' w' ⟨S', σ', ρ', ⟨_, hlen, hD⟩, hC⟩
    have hfr := hC.fr
    have hag' : AgreeX p0.blk w w' := ⟨hfr.size, fun k hk hb => hfr.block k hk hb⟩
    refine ⟨fun _ _ => hag.trans hag', ?_⟩
    have hCE : Ctx E S' σ' a' w' ρ' := by
      have := hw.called (σ' := σ') (w' := w') (ρ' := ρ') (T := fun q => q = i0) (fun q hq => by subst hq; exact hm) hC.sim hC.le hlen hC.old (fun id p hp hi => by
        obtain ⟨k1, k2⟩ := hC.fresh id p hp hi
        exact ⟨k1, k2.imp (fun k => ⟨i0, p0, rfl, hp0, k.symm⟩) (fun k => k)⟩) (fun q p hq hp => by subst hq; rw [hp0] at hp; cases hp; exact hown) ⟨hfr.os, hfr.tape, hfr.output, hfr.size, fun k hk hB => hfr.block k hk (fun f => hB ⟨i0, p0, rfl, hp0, hown, f.symm⟩)⟩
      exact { this with defers := hC.defers, size := hC.size, slots := hC.slots }
    refine hD a' w' ρ' W0 p0 hCE (hC.le _ _ hp0) (hag.trans hag') ?_ (Nat.le_trans hle hlen)
    intro id p hp hi
    exact hn id p (hC.old id p hp (Nat.lt_of_lt_of_le hi hle)) hi
  · rintro e a' w' ⟨S', σ', ρ', ⟨h1, _⟩, _⟩ h2
    exact absurd h1 h2
/-- The one operation that can come up: it writes new objects alone. -/
theorem dx_stepN (i : Nat) {o : Oper} (ho : ops[i]? = some o) (hr : Region.ready .any ops listed = [i])
    (h : ∀ E' : Env, E'.P = E.P → E'.base = E.base → E'.n = E.n → E'.n₀ = σ.length → (∀ id, σ.length ≤ id → E'.may id) → WL E' ops [o] (fun e S' σ' => e = .normal ∧ σ.length ≤ σ'.length ∧ DX E ops ds fuel (listed.setIfInBounds i true) Q n0 i0 S' σ') S σ) : DX E ops ds (fuel + 1) listed Q n0 i0 S σ := by
  intro a w ρ W0 p0 hw hp0 hag hn hle
  refine wpAnyLast_all hr (by simp) fun j hj => ?_
  obtain rfl : j = i := by simpa using hj
  let E' : Env := ⟨E.P, E.base, E.n, fun id => σ.length ≤ id, w.heap.size, fun _ => False, w, ρ, σ.length⟩
  have hw' : Ctx E' S σ a w ρ := by
    refine { defers := hw.defers, size := hw.size, slots := hw.slots, sim := hw.sim, fr := Fr.refl _ _ _, le := Le.refl _, old := fun _ _ h _ => h, may := ?_, fresh := ?_, n₀_le := Nat.le_refl _, N_le := Nat.le_refl _, later := fun _ h => h }
    · intro id p hp _ hm
      have := hw.sim.dom id p hp
      simp only [E'] at hm; omega
    · intro id p hp hm
      have := hw.sim.dom id p hp
      simp only [E'] at hm; omega
  refine wpOp_of_L (Q' := lift E' (fun e S' σ' => e = .normal ∧ σ.length ≤ σ'.length ∧ DX E ops ds fuel (listed.setIfInBounds j true) Q n0 i0 S' σ')) ho (h E' rfl rfl rfl rfl (fun _ h => h) a w ρ hw') ?_ ?_
  · rintro a' w' ⟨S', σ', ρ', ⟨_, hlen, hD⟩, hC⟩
    have hfr := hC.fr
    have hag' : AgreeX p0.blk w w' := ⟨hfr.size, fun k hk hb => hfr.block k hk (fun f => f)⟩
    refine ⟨fun _ _ => hag.trans hag', ?_⟩
    have hCE : Ctx E S' σ' a' w' ρ' := by
      have := hw.called (σ' := σ') (w' := w') (ρ' := ρ') (T := fun _ => False) (fun _ f => f.elim) hC.sim hC.le hlen hC.old (fun id p hp hi => by
        obtain ⟨k1, k2⟩ := hC.fresh id p hp hi
        exact ⟨k1, .inr (k2.resolve_left (fun f => f))⟩) (fun _ _ f => f.elim) ⟨hfr.os, hfr.tape, hfr.output, hfr.size, fun k hk _ => hfr.block k hk (fun f => f)⟩
      exact { this with defers := hC.defers, size := hC.size, slots := hC.slots }
    refine hD a' w' ρ' W0 p0 hCE (hC.le _ _ hp0) (hag.trans hag') ?_ (Nat.le_trans hle hlen)
    intro id p hp hi
    exact hn id p (hC.old id p hp (Nat.lt_of_lt_of_le hi hle)) hi
  · rintro e a' w' ⟨S', σ', ρ', ⟨h1, _⟩, _⟩ h2
    exact absurd h1 h2
end
section
variable {P : Program} {base n : Nat} {may : Nat → Prop} {M : Nat} {B : Nat → Prop} {w₀ : World} {ρ₀ : Pl} {n₀ : Nat} {ops : Array Oper} {ds : List Nat} {fuel n0 i0 : Nat} {listed : Array Bool} {Q : Exit → Slots → Store → Prop} {S : Slots} {σ : Store}
theorem dx_one (i : Nat) {o : Oper} {e : Nat} {cs : List AV} (ho : ops[i]? = some o) (hr : Region.ready .any ops listed = [i]) (h0 : Has σ i0 ⟨.own, e, cs, []⟩) (hm : may i0)
    (h : ∀ (N' : Nat) (B' : Nat → Prop) (w₀' : World) (ρ₀' : Pl) (may' : Nat → Prop), (∀ id, id = i0 ∨ σ.length ≤ id → may' id) → WL ⟨P, base, n, may', N', B', w₀', ρ₀', σ.length⟩ ops [o] (fun e S' σ' => e = .normal ∧ σ.length ≤ σ'.length ∧ DX ⟨P, base, n, may, M, B, w₀, ρ₀, n₀⟩ ops ds fuel (listed.setIfInBounds i true) Q n0 i0 S' σ') S σ) : DX ⟨P, base, n, may, M, B, w₀, ρ₀, n₀⟩ ops ds (fuel + 1) listed Q n0 i0 S σ := by
  refine dx_step i ho hr h0 hm ?_
  intro E' hP hbase hn hn0 hmay
  obtain ⟨P', base', n', may', N', B', w₀', ρ₀', n₀'⟩ := E'
  simp only at hP hbase hn hn0 hmay
  subst hP hbase hn hn0
  exact h _ _ _ _ _ hmay
theorem dx_new (i : Nat) {o : Oper} (ho : ops[i]? = some o) (hr : Region.ready .any ops listed = [i])
    (h : ∀ (N' : Nat) (B' : Nat → Prop) (w₀' : World) (ρ₀' : Pl) (may' : Nat → Prop), (∀ id, σ.length ≤ id → may' id) → WL ⟨P, base, n, may', N', B', w₀', ρ₀', σ.length⟩ ops [o] (fun e S' σ' => e = .normal ∧ σ.length ≤ σ'.length ∧ DX ⟨P, base, n, may, M, B, w₀, ρ₀, n₀⟩ ops ds fuel (listed.setIfInBounds i true) Q n0 i0 S' σ') S σ) : DX ⟨P, base, n, may, M, B, w₀, ρ₀, n₀⟩ ops ds (fuel + 1) listed Q n0 i0 S σ := by
  refine dx_stepN i ho hr ?_
  intro E' hP hbase hn hn0 hmay
  obtain ⟨P', base', n', may', N', B', w₀', ρ₀', n₀'⟩ := E'
  simp only at hP hbase hn hn0 hmay
  subst hP hbase hn hn0
  exact h _ _ _ _ _ hmay
end
section
variable {E : Env} {ops : Array Oper} {ds : List Nat} {fuel n0 i0 : Nat} {listed : Array Bool} {Q : Exit → Slots → Store → Prop} {S : Slots} {σ : Store} {d : Option Tmp} {ty : TypeId} {pos : String} {af : Array Edge} {x : Operand}
theorem DL.dx (h : DL E ops ds fuel listed Q S σ) : DX E ops ds fuel listed Q n0 i0 S σ := fun a w ρ W0 p0 hw _ _ _ _ => h a w ρ _ hw
theorem dx_last (i : Nat) {g : Option (Nat × Bool)} {op : Op} (ho : ops[i]? = some ⟨d, op, ty, pos, af, g⟩) (hi : i ∈ ds) (hr : Region.ready .any ops listed = [i])
    (h : WL E ops [⟨d, op, ty, pos, af, g⟩] (fun e S' σ' => e = .normal ∧ DL E ops ds fuel (listed.setIfInBounds i true) Q S' σ') S σ) : DX E ops ds (fuel + 1) listed Q n0 i0 S σ := (dl_step i _ ho hi hr rfl h).dx
end
theorem ACall.len {P : Program} {base : Nat} {f : FuncId} {args : List AV} {σ : Store} {T : Nat → Prop} {Q : AV → Store → Prop} (h : ACall P base f args σ T Q) : ACall P base f args σ T (fun r σ' => Q r σ' ∧ σ.length ≤ σ'.length) := by
  intro w ρ vs h1 h2
  refine (h w ρ vs h1 h2).mono ?_
  rintro e w' ⟨r, v, σ', ρ', he, hr, hQ, hs, hl, hlen, rest⟩
  exact ⟨r, v, σ', ρ', he, hr, ⟨hQ, hlen⟩, hs, hl, hlen, rest⟩
end Go.Proofs.YthbodgnoadlbcaaDoor.Asl
