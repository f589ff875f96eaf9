/- The program logic's rules with what is known of the store as instances. -/
import Derived.Test.YtemhpkfijoodkaaA9
namespace Go.Proofs.Ytemhpkfijoodkaa.Asl
open Go.RowKit
set_option linter.unusedVariables false
set_option linter.unusedSimpArgs false

abbrev I (z : Int) : AV := .lit (.int .i64 z)
abbrev Bo (b : Bool) : AV := .lit (.bool b)
abbrev Str (s : ByteArray) : AV := .lit (.string s)
abbrev nilS : AV := .lit (.slice none 0 0)

/-- An object that is there. -/
class Has (σ : Store) (i : Nat) (o : outParam Ob) : Prop where
  get : σ[i]? = some o
/-- The next store: all that was is as it was. -/
class Grow (σ : outParam Store) (σ' : Store) : Prop where
  keep : ∀ (i : Nat) (o : Ob), σ[i]? = some o → σ'[i]? = some o
/-- The next store: one object is changed. -/
class Upd (σ : outParam Store) (i : outParam Nat) (o' : outParam Ob) (σ' : Store) : Prop where
  lt : i < σ.length
  eq : σ' = σ.set i o'
/-- An object that was not there. -/
class New (σ : outParam Store) (i : Nat) : Prop where
  le : σ.length ≤ i
class Dif (i j : Nat) : Prop where
  ne : i ≠ j
/-- A later store: all that was is as it was. -/
class LeS (σ σ' : Store) : Prop where
  keep : ∀ (i : Nat) (o : Ob), σ[i]? = some o → σ'[i]? = some o
/-- Cells that lie one behind another in an object that can be read. -/
class At (σ : Store) (i off n : Nat) (cs : outParam (List AV)) : Prop where
  get : ∃ o, σ[i]? = some o ∧ o.readable ∧ cut o off n = cs ∧ cs.length = n

theorem Has.lt {σ : Store} {i : Nat} {o : Ob} (h : Has σ i o) : i < σ.length := by
  rcases Nat.lt_or_ge i σ.length with k | k
  · exact k
  · have := h.get; rw [List.getElem?_eq_none k] at this; cases this
theorem keep_len {σ σ' : Store} (h : ∀ (i : Nat) (o : Ob), σ[i]? = some o → σ'[i]? = some o) : σ.length ≤ σ'.length := by
  rcases Nat.lt_or_ge σ'.length σ.length with k | k
  · have := h σ'.length σ[σ'.length] (by simp [k])
    simp at this
  · exact k
theorem Grow.len {σ σ' : Store} (h : Grow σ σ') : σ.length ≤ σ'.length := keep_len h.keep
theorem LeS.len {σ σ' : Store} (h : LeS σ σ') : σ.length ≤ σ'.length := keep_len h.keep
theorem LeS.trans {a b c : Store} (h : LeS a b) (k : LeS b c) : LeS a c := ⟨fun i o ho => k.keep i o (h.keep i o ho)⟩

instance instHasGrow {σ σ' : Store} {i : Nat} {o : Ob} [g : Grow σ σ'] [h : Has σ i o] : Has σ' i o := ⟨g.keep _ _ h.get⟩
instance instHasUpd {σ σ' : Store} {i : Nat} {o : Ob} [g : Upd σ i o σ'] : Has σ' i o := ⟨by
  have := g.lt; rw [g.eq]; simp [this]⟩
instance instHasUpdNe {σ σ' : Store} {i j : Nat} {o o' : Ob} [g : Upd σ i o' σ'] [d : Dif j i] [h : Has σ j o] : Has σ' j o := ⟨by
  rw [g.eq, List.getElem?_set_ne (Ne.symm d.ne)]; exact h.get⟩
instance instDif {σ : Store} {i j : Nat} {o : Ob} [n : New σ i] [h : Has σ j o] : Dif j i := ⟨by have := h.lt; have := n.le; omega⟩
instance instDif' {σ : Store} {i j : Nat} {o : Ob} [n : New σ i] [h : Has σ j o] : Dif i j := ⟨by have := h.lt; have := n.le; omega⟩
instance instLeRefl {σ : Store} : LeS σ σ := ⟨fun _ _ h => h⟩
instance instLeGrow {σ₀ σ σ' : Store} [g : Grow σ σ'] [h : LeS σ₀ σ] : LeS σ₀ σ' := ⟨fun i o ho => g.keep i o (h.keep i o ho)⟩
instance instLeUpd {σ₀ σ σ' σa : Store} {i : Nat} {o' : Ob} [g : Upd σ i o' σ'] [n : New σa i] [k : LeS σ₀ σa] [h : LeS σ₀ σ] : LeS σ₀ σ' := ⟨fun j o ho => by
  have h1 : j < σ₀.length := by
    rcases Nat.lt_or_ge j σ₀.length with k | k
    · exact k
    · rw [List.getElem?_eq_none k] at ho; cases ho
  have := n.le
  have := k.len
  rw [g.eq, List.getElem?_set_ne (by omega)]
  exact h.keep j o ho⟩
theorem may_new (σ₀ : Store) {σ : Store} {i : Nat} [n : New σ i] [h : LeS σ₀ σ] : σ₀.length ≤ i := Nat.le_trans h.len n.le
theorem New.mono {σ₀ σ : Store} {i : Nat} (n : New σ i) (h : LeS σ₀ σ) : New σ₀ i := ⟨Nat.le_trans h.len n.le⟩

theorem at_has {σ : Store} {i off n : Nat} {k : Kind} {e : Nat} {l cs : List AV} [h : Has σ i ⟨k, e, l, []⟩] (hr : k = .own ∨ k = .ro) (hc : cut ⟨k, e, l, []⟩ off n = cs) (hn : cs.length = n) : At σ i off n cs :=
  ⟨_, h.get, hr.symm, hc, hn⟩
theorem At.grow {σ σ' : Store} (g : LeS σ σ') {i off n : Nat} {cs : List AV} (h : At σ i off n cs) : At σ' i off n cs :=
  let ⟨o, h1, h2⟩ := h.get
  ⟨o, g.keep _ _ h1, h2⟩
instance instAtGrow {σ σ' : Store} {i off n : Nat} {cs : List AV} [g : Grow σ σ'] [h : At σ i off n cs] : At σ' i off n cs := let ⟨o, h1, h2⟩ := h.get; ⟨o, g.keep _ _ h1, h2⟩
instance instAtUpd {σ σ' σa : Store} {j : Nat} {o' : Ob} {i off n : Nat} {cs : List AV} [g : Upd σ j o' σ'] [n' : New σa j] [h : At σa i off n cs] [k : LeS σa σ] : At σ' i off n cs :=
  let ⟨o, h1, h2⟩ := h.get
  ⟨o, by
    have := n'.le
    have h1' : i < σa.length := by
      rcases Nat.lt_or_ge i σa.length with k | k
      · exact k
      · rw [List.getElem?_eq_none k] at h1; cases h1
    rw [g.eq, List.getElem?_set_ne (by omega)]; exact k.keep _ _ h1, h2⟩

section
variable {E : Env} {ops : Array Oper} {l : List Oper} {Q : Exit → Slots → Store → Prop} {S : Slots} {σ : Store} {d : Option Tmp} {ty : TypeId} {pos : String} {af : Array Edge} {g : Option (Nat × Bool)} {n0 : Nat} {x y : Operand}

theorem At.lt {i off n : Nat} {cs : List AV} (h : At σ i off n cs) : i < σ.length := let ⟨_, h1, _⟩ := h.get; Has.lt ⟨h1⟩

/-- A load of one cell. -/
theorem pc_load1 {t : TypeId} {size bytes : Nat} {z : Value} {id off : Nat} {c : AV} (hx : S.ev x = some (.pt id off)) (ht : Ty E.P t false size bytes z) (ha : At σ id off 1 [c]) (hn : id < n0) : PO E S σ n0 ⟨d, .load t x, ty, pos, af, g⟩ c := by
  obtain ⟨o, h1, h2, h3, _⟩ := ha.get
  refine po_load1 hx ht h1 h2 ?_ hn
  unfold cut at h3
  have : ((o.cells.drop off).take 1)[0]? = some c := by rw [h3]; rfl
  rw [List.getElem?_take] at this
  simpa using this
theorem wc_load1 {t : TypeId} {size bytes : Nat} {z : Value} {id off : Nat} {c : AV} (hx : S.ev x = some (.pt id off)) (ht : Ty E.P t false size bytes z) (ha : At σ id off 1 [c]) (hd : okd E d = true) (k : WL E ops l Q (S.put d c) σ) : WL E ops (⟨d, .load t x, ty, pos, af, none⟩ :: l) Q S σ :=
  wl_po rfl hd (pc_load1 hx ht ha ha.lt) k
theorem pc_loadn {t : TypeId} {size bytes : Nat} {z : Value} {id off : Nat} {cs : List AV} (hx : S.ev x = some (.pt id off)) (ht : Ty E.P t true size bytes z) (ha : At σ id off size cs) (hn : id < n0) : PO E S σ n0 ⟨d, .load t x, ty, pos, af, g⟩ (.agg cs) := by
  obtain ⟨o, h1, h2, h3, h4⟩ := ha.get
  exact po_loadn hx ht h1 h2 h3 h4 hn
theorem wc_loadn {t : TypeId} {size bytes : Nat} {z : Value} {id off : Nat} {cs : List AV} (hx : S.ev x = some (.pt id off)) (ht : Ty E.P t true size bytes z) (ha : At σ id off size cs) (hd : okd E d = true) (k : WL E ops l Q (S.put d (.agg cs)) σ) : WL E ops (⟨d, .load t x, ty, pos, af, none⟩ :: l) Q S σ :=
  wl_po rfl hd (pc_loadn hx ht ha ha.lt) k

theorem grow_push (o : Ob) : Grow σ (σ ++ [o]) := ⟨fun i x h => by
  have : i < σ.length := Has.lt ⟨h⟩
  rw [List.getElem?_append_left this]; exact h⟩
theorem has_push (o : Ob) : Has (σ ++ [o]) σ.length o := ⟨by simp⟩
theorem upd_set {i : Nat} {o : Ob} (h : Has σ i o) (o' : Ob) : Upd σ i o' (σ.set i o') := ⟨h.lt, rfl⟩

theorem wc_box {t : TypeId} {r : AV} {cs : List AV} (hx : S.ev x = some r) (hcs : r.cells = cs) (h1 : ∀ c ∈ cs, c.one = true) (hd : okd E d = true)
    (k : ∀ i σ', Grow σ σ' → New σ i → Has σ' i ⟨.own, 1, cs, []⟩ → WL E ops l Q (S.put d (.pt i 0)) σ') : WL E ops (⟨d, .box t x, ty, pos, af, none⟩ :: l) Q S σ :=
  wl_box 1 hx hcs h1 hd (k _ _ (grow_push _) ⟨Nat.le_refl _⟩ (has_push _))
theorem wc_alloc {t : TypeId} {agg : Bool} {size bytes : Nat} {z : Value} {cs : List AV} (ht : Ty E.P t agg size bytes z) (hcs : z.cells.toList.map .lit = cs) (h1 : ∀ c ∈ cs, c.one = true) (hd : okd E d = true)
    (k : ∀ i σ', Grow σ σ' → New σ i → Has σ' i ⟨.own, 1, cs, []⟩ → WL E ops l Q (S.put d (.pt i 0)) σ') : WL E ops (⟨d, .alloc t, ty, pos, af, none⟩ :: l) Q S σ :=
  wl_alloc 1 ht hcs h1 hd (k _ _ (grow_push _) ⟨Nat.le_refl _⟩ (has_push _))
/-- A value that fills one cell. -/
class One (v : AV) : Prop where
  eq : v.one = true
class Ones (l : List AV) : Prop where
  eq : ∀ c ∈ l, c.one = true
instance instOneInt {k : IntKind} {z : Int} : One (.lit (.int k z)) := ⟨rfl⟩
instance instOneBool {b : Bool} : One (.lit (.bool b)) := ⟨rfl⟩
instance instOneStr {b : ByteArray} : One (.lit (.string b)) := ⟨rfl⟩
instance instOneNil {a : Option Addr} {b c : Nat} : One (.lit (.slice a b c)) := ⟨rfl⟩
instance instOneSl {a b c : Nat} : One (.sl a b c) := ⟨rfl⟩
instance instOnePt {a b : Nat} : One (.pt a b) := ⟨rfl⟩
instance instOneFn {f : FuncId} {l : List AV} : One (.fn f l) := ⟨rfl⟩
instance instOneMp {a : Nat} : One (.mp a) := ⟨rfl⟩
instance instOnesNil : Ones [] := ⟨by simp⟩
instance instOnesCons {v : AV} {l : List AV} [h : One v] [k : Ones l] : Ones (v :: l) := ⟨by
  intro c hc
  rcases List.mem_cons.mp hc with rfl | hc
  · exact h.eq
  · exact k.eq c hc⟩
theorem AV.cells_one {v : AV} (h : v.one = true) : v.cells = [v] := by
  cases v with
  | lit x => cases x <;> simp [AV.one] at h <;> rfl
  | agg l => cases h
  | tup l => cases h
  | _ => rfl
/-- An operation that only computes, or reads. -/
theorem wl_pop {op : Op} {r : AV} (hd : okd E d = true) (h : PO E S σ σ.length ⟨d, op, ty, pos, af, none⟩ r) (k : WL E ops l Q (S.put d r) σ) : WL E ops (⟨d, op, ty, pos, af, none⟩ :: l) Q S σ := wl_po rfl hd h k
theorem wc_boxA {t : TypeId} {cs : List AV} (hx : S.ev x = some (.agg cs)) (h1 : Ones cs) (hd : okd E d = true)
    (k : ∀ i σ', Grow σ σ' → New σ i → Has σ' i ⟨.own, 1, cs, []⟩ → WL E ops l Q (S.put d (.pt i 0)) σ') : WL E ops (⟨d, .box t x, ty, pos, af, none⟩ :: l) Q S σ :=
  wc_box hx rfl h1.eq hd k
theorem wc_box1 {t : TypeId} {v : AV} (hx : S.ev x = some v) (h1 : One v) (hd : okd E d = true)
    (k : ∀ i σ', Grow σ σ' → New σ i → Has σ' i ⟨.own, 1, [v], []⟩ → WL E ops l Q (S.put d (.pt i 0)) σ') : WL E ops (⟨d, .box t x, ty, pos, af, none⟩ :: l) Q S σ :=
  wc_box hx (AV.cells_one h1.eq) (by simpa using h1.eq) hd k
theorem wc_allocA {t : TypeId} {size bytes : Nat} {z : Value} {cs : List AV} (ht : Ty E.P t true size bytes z) (hcs : z.cells.toList.map .lit = cs) (h1 : Ones cs) (hd : okd E d = true)
    (k : ∀ i σ', Grow σ σ' → New σ i → Has σ' i ⟨.own, 1, cs, []⟩ → WL E ops l Q (S.put d (.pt i 0)) σ') : WL E ops (⟨d, .alloc t, ty, pos, af, none⟩ :: l) Q S σ :=
  wc_alloc ht hcs h1.eq hd k
theorem wc_alloc1 {t : TypeId} {size bytes : Nat} {z : Value} (ht : Ty E.P t false size bytes z) (hc : z.cells.toList = [z]) (h1 : One (.lit z)) (hd : okd E d = true)
    (k : ∀ i σ', Grow σ σ' → New σ i → Has σ' i ⟨.own, 1, [.lit z], []⟩ → WL E ops l Q (S.put d (.pt i 0)) σ') : WL E ops (⟨d, .alloc t, ty, pos, af, none⟩ :: l) Q S σ :=
  wc_alloc (cs := [.lit z]) ht (by rw [hc]; rfl) (by simpa using h1.eq) hd k
theorem wc_store {t : TypeId} {agg : Bool} {size bytes : Nat} {z : Value} {id off e : Nat} {r : AV} {l' cs cs' : List AV} (hx : S.ev x = some (.pt id off)) (hy : S.ev y = some r) (ht : Ty E.P t agg size bytes z) (ho : Has σ id ⟨.own, e, l', []⟩)
    (hcs : r.cells = cs) (hn : cs.length = size) (h1 : ∀ c ∈ cs, c.one = true) (hoff : off + size ≤ l'.length) (hsp : splice l' off cs = cs') (hm : E.may id)
    (k : ∀ σ', Upd σ id ⟨.own, e, cs', []⟩ σ' → WL E ops l Q S σ') : WL E ops (⟨none, .store t x y, ty, pos, af, none⟩ :: l) Q S σ := by
  subst hsp
  exact wl_store hx hy ht ho.get rfl hcs hn h1 hoff hm (k _ (upd_set ho _))
theorem wc_buildSlice {t e : TypeId} {len : Nat} {parts : Array (Nat × Operand)} {rs : List (Nat × AV)} {agg : Bool} {size bytes : Nat} {z : Value} {cs : List AV} (ht : E.P.underlying t = some (.slice e)) (he : Ty E.P e agg size bytes z) (hz : z.cells.size = size) (hz1 : ∀ v ∈ z.cells.toList, v.oneCell' = true)
    (hsmall : len * size ≤ 16777216) (hp : evParts S parts.toList = some rs) (hok : ∀ x ∈ rs, x.2.cells.length = size ∧ x.1 * size + size ≤ len * size ∧ ∀ c ∈ x.2.cells, c.one = true)
    (hcs : fillA (fun i => i * size) ((List.range (len * size)).map fun i => AV.lit (z.cells.toList.getD (i % size) undef)) rs = cs) (hd : okd E d = true)
    (k : ∀ i σ', Grow σ σ' → New σ i → Has σ' i ⟨.own, size, cs, []⟩ → WL E ops l Q (S.put d (.sl i 0 len)) σ') : WL E ops (⟨d, .buildSlice t len parts, ty, pos, af, none⟩ :: l) Q S σ :=
  wl_buildSlice ht he hz hz1 hsmall hp hok hcs hd (k _ _ (grow_push _) ⟨Nat.le_refl _⟩ (has_push _))
theorem wc_makeSlice {t e : TypeId} {n : Nat} {agg : Bool} {size bytes : Nat} {z : Value} (hx : S.ev x = some (.lit (.int .i64 (n : Int)))) (hy : S.ev y = some (.lit (.int .i64 (n : Int)))) (ht : E.P.underlying t = some (.slice e)) (he : Ty E.P e agg size bytes z) (hz : z.cells.size = size) (hs0 : 0 < size) (hz1 : ∀ v ∈ z.cells.toList, v.oneCell' = true)
    (hlim : n * bytes ≤ 281474976710656) (h63 : (n : Int) ≤ 9223372036854775807) (hd : okd E d = true)
    (k : ∀ i σ', Grow σ σ' → New σ i → Has σ' i ⟨.own, size, (List.range (n * size)).map fun i => AV.lit (z.cells.toList.getD (i % size) undef), []⟩ → WL E ops l Q (S.put d (.sl i 0 n)) σ') : WL E ops (⟨d, .makeSlice t x y, ty, pos, af, none⟩ :: l) Q S σ :=
  wl_makeSlice hx hy ht he hz hs0 hz1 h63 hlim rfl hd (k _ _ (grow_push _) ⟨Nat.le_refl _⟩ (has_push _))
theorem wc_append {t e : TypeId} {id len n : Nat} {es : Nat} {l' : List AV} {r : AV} {cs : List AV} {agg : Bool} {size bytes : Nat} {z : Value} (hx : S.ev x = some (.sl id 0 len)) (hy : S.ev y = some r) (ht : E.P.underlying t = some (.slice e)) (he : Ty E.P e agg size bytes z) (hz : z.cells.size = size) (hb0 : 0 < bytes)
    (ho : Has σ id ⟨.own, es, l', []⟩) (hesz : es = size) (hlen : l'.length = len * size) (ha : Appends E.P σ size n r cs) (hm : E.may id) (hlim : (len + n) * bytes ≤ 140737488355328) (hd : okd E d = true)
    (k : ∀ i σ₁ σ', Upd σ id ⟨.dead, es, l', []⟩ σ₁ → Grow σ₁ σ' → New σ i → Has σ' i ⟨.own, size, l' ++ cs, []⟩ → WL E ops l Q (S.put d (.sl i 0 (len + n))) σ') :
    WL E ops (⟨d, .call ⟨.builtin .append, #[x, y], #[t, t]⟩, ty, pos, af, none⟩ :: l) Q S σ :=
  wl_append hx hy ht he hz hb0 ho.get rfl hesz hlen ha hm hlim hd (k _ _ _ (upd_set ho _) (grow_push _) ⟨Nat.le_refl _⟩ (by
    have := has_push (σ := σ.set id ⟨.dead, es, l', []⟩) ⟨.own, size, l' ++ cs, []⟩
    simpa [Ob.killed] using this))
theorem wc_append_nil {t e : TypeId} {n : Nat} {r : AV} {cs : List AV} {agg : Bool} {size bytes : Nat} {z : Value} (hx : S.ev x = some (.lit (.slice none 0 0))) (hy : S.ev y = some r) (ht : E.P.underlying t = some (.slice e)) (he : Ty E.P e agg size bytes z) (hz : z.cells.size = size) (hb0 : 0 < bytes)
    (ha : Appends E.P σ size n r cs) (hn : 0 < n) (hlim : n * bytes ≤ 140737488355328) (hd : okd E d = true)
    (k : ∀ i σ', Grow σ σ' → New σ i → Has σ' i ⟨.own, size, cs, []⟩ → WL E ops l Q (S.put d (.sl i 0 n)) σ') :
    WL E ops (⟨d, .call ⟨.builtin .append, #[x, y], #[t, t]⟩, ty, pos, af, none⟩ :: l) Q S σ :=
  wl_append_nil hx hy ht he hz hb0 ha hn hlim hd (k _ _ (grow_push _) ⟨Nat.le_refl _⟩ (has_push _))

/-- A call that changes nothing of what is there. -/
theorem wc_call {args : Array Operand} {ats : Array TypeId} {f : FuncId} {rs caps : List AV} {K : AV → Store → Prop} (hf : S.ev x = some (.fn f caps)) (hc : Callable E.P f) (hargs : evs S args.toList = some rs)
    (h : ACall E.P E.base f (rs ++ caps) σ (fun _ => False) K) (hd : okd E d = true) (k : ∀ r σ', K r σ' → WL E ops l Q (S.put d r) σ') :
    WL E ops (⟨d, .call ⟨.value x, args, ats⟩, ty, pos, af, none⟩ :: l) Q S σ := wl_call hf hc hargs h (fun _ f => f.elim) hd k

theorem thru_seq {K : Slots → Store → Prop} {id : Nat} (h : Q (.exit id) S σ) : andThen K Q (.exit id) S σ := h
theorem thru_seq_ret {K : Slots → Store → Prop} (h : Q .ret S σ) : andThen K Q .ret S σ := h
theorem thru_seq_next {K : Slots → Store → Prop} (h : K S σ) : andThen K Q .normal S σ := h
theorem thru_block_ret {id : Nat} (h : Q .ret S σ) : inBlock id Q .ret S σ := h
theorem thru_block_next {id : Nat} (h : Q .normal S σ) : inBlock id Q .normal S σ := h
theorem thru_scope_ret (h : Q .ret S σ) : noGoto Q .ret S σ := h
theorem thru_scope_next (h : Q .normal S σ) : noGoto Q .normal S σ := h
theorem thru_scope {id : Nat} (h : Q (.exit id) S σ) : noGoto Q (.exit id) S σ := h
theorem at_ret {P : Program} {fn : Func} {K : AV → Store → Prop} {r : AV} (h : ResOK P fn S σ r) (k : K r σ) : atEnd P fn K .ret S σ := ⟨r, h, k⟩
theorem at_next {P : Program} {fn : Func} {K : AV → Store → Prop} {r : AV} (h : ResOK P fn S σ r) (k : K r σ) : atEnd P fn K .normal S σ := ⟨r, h, k⟩

/-- Slots that a loop does not change. -/
def keepS (D : List Nat) (S : Slots) : Slots := S.filter fun x => !D.contains x.1
theorem sub_keep (D : List Nat) : Sub (keepS D S) S := by
  intro t v h
  induction S with
  | nil => exact h
  | cons p S ih =>
    obtain ⟨d, u⟩ := p
    unfold keepS at h
    rw [List.filter_cons] at h
    split at h
    · by_cases e : t = d
      · subst e; rw [lookup_cons_eq] at h ⊢; exact h
      · rw [lookup_cons_ne e] at h ⊢; exact ih h
    · rename_i hn
      by_cases e : t = d
      · subst e
        exfalso
        have : ∀ S : Slots, Slots.get (S.filter fun x => !D.contains x.1) t = some v → False := by
          intro S
          induction S with
          | nil => intro h; simp [Slots.get] at h
          | cons q S ih2 =>
            intro h
            rw [List.filter_cons] at h
            split at h
            · rename_i hq
              by_cases e2 : t = q.1
              · rw [← e2] at hq; simp at hn hq; exact hq hn
              · obtain ⟨q1, q2⟩ := q
                rw [lookup_cons_ne e2] at h; exact ih2 h
            · exact ih2 h
        exact this S h
      · rw [lookup_cons_ne e]; exact ih h

/-- A loop: the slots of D change as V tells, the store as J tells; every round lowers the measure. -/
theorem wc_loop {ι : Type} {c : Code} (S₀ : Slots) (V : ι → Slots) (J : ι → Store → Prop) (m : ι → Nat) (x₀ : ι) (h₀ : J x₀ σ) (hs : Sub (V x₀ ++ S₀) S)
    (round : ∀ x σ', J x σ' → WP E c (andThen (fun S' σ'' => ∃ y, m y < m x ∧ J y σ'' ∧ Sub (V y ++ S₀) S') Q) (V x ++ S₀) σ') : WP E (.loop c) Q S σ := by
  refine wp_loopA (fun n S σ => ∃ x, n = m x ∧ J x σ ∧ Sub (V x ++ S₀) S) (m x₀) ⟨x₀, rfl, h₀, hs⟩ ?_
  rintro n S σ ⟨x, rfl, hJ, hS⟩
  refine (WP.mono (round x σ hJ) ?_).less hS
  intro e S' σ' h
  cases e with
  | normal =>
    obtain ⟨y, h1, h2, h3⟩ := h
    exact ⟨m y, h1, y, rfl, h2, h3⟩
  | _ => exact h

/-- A truth that is known from here on. -/
theorem sub_put {t : Nat} {v : AV} (h : S.get t = some v) : Sub ((t, v) :: S) S := by
  intro t' v' h'
  by_cases e : t' = t
  · subst e; rw [lookup_cons_eq] at h'; cases h'; exact h
  · rw [lookup_cons_ne e] at h'; exact h'
/-- A guard: it is met, or it is not. -/
theorem wc_guard {op : Op} {j : Nat} {b want : Bool} {oj : Oper} {dj : Tmp} (hj : ops[j]? = some oj) (hdj : oj.dst = some dj) (hb : S.get dj = some (.lit (.bool b))) (hd : okd E d = true)
    (h1 : b = want → WL E ops (⟨d, op, ty, pos, af, none⟩ :: l) Q ((dj, .lit (.bool want)) :: S) σ) (h0 : b = (!want) → WL E ops l Q (Slots.put ((dj, .lit (.bool (!want))) :: S) d (.lit undef)) σ) :
    WL E ops (⟨d, op, ty, pos, af, some (j, want)⟩ :: l) Q S σ := by
  by_cases h : b = want
  · subst h
    exact wl_on hj hdj hb rfl ((h1 rfl).less (sub_put hb))
  · have h' : b = (!want) := by cases b <;> cases want <;> simp_all
    subst h'
    refine WL.less ?_ (sub_put hb)
    exact wl_off (dj := dj) rfl hj hdj lookup_cons_eq (by cases want <;> simp) (h0 rfl) hd
end
/-- What a call answers, where it changes nothing of what is there. -/
def Ret (σ : Store) (r : AV) : AV → Store → Prop := fun r' σ' => r' = r ∧ Grow σ σ'
/-- Some number is answered. -/
def RetInt (σ : Store) : AV → Store → Prop := fun r' σ' => (∃ z, r' = I z) ∧ Grow σ σ'
section
variable {E : Env} {ops : Array Oper} {l : List Oper} {Q : Exit → Slots → Store → Prop} {S : Slots} {σ : Store} {d : Option Tmp} {ty : TypeId} {pos : String} {af : Array Edge} {x y : Operand}
theorem wc_callR {args : Array Operand} {ats : Array TypeId} {f : FuncId} {rs caps : List AV} {r : AV} (hf : S.ev x = some (.fn f caps)) (hc : Callable E.P f) (hargs : evs S args.toList = some rs)
    (h : ACall E.P E.base f (rs ++ caps) σ (fun _ => False) (Ret σ r)) (hd : okd E d = true) (k : ∀ σ', Grow σ σ' → WL E ops l Q (S.put d r) σ') :
    WL E ops (⟨d, .call ⟨.value x, args, ats⟩, ty, pos, af, none⟩ :: l) Q S σ :=
  wc_call hf hc hargs h hd fun r' σ' h => by obtain ⟨e, hg⟩ := h; subst e; exact k σ' hg
theorem wc_callI {args : Array Operand} {ats : Array TypeId} {f : FuncId} {rs caps : List AV} (hf : S.ev x = some (.fn f caps)) (hc : Callable E.P f) (hargs : evs S args.toList = some rs)
    (h : ACall E.P E.base f (rs ++ caps) σ (fun _ => False) (RetInt σ)) (hd : okd E d = true) (k : ∀ z σ', Grow σ σ' → WL E ops l Q (S.put d (I z)) σ') :
    WL E ops (⟨d, .call ⟨.value x, args, ats⟩, ty, pos, af, none⟩ :: l) Q S σ :=
  wc_call hf hc hargs h hd fun r' σ' h => by obtain ⟨⟨z, rfl⟩, h⟩ := h; exact k z σ' h
end
theorem ret_int {σ σ' : Store} {z : Int} (h : LeS σ σ') : RetInt σ (I z) σ' := ⟨⟨z, rfl⟩, ⟨h.keep⟩⟩
theorem ret_ {σ σ' : Store} {r r' : AV} (h : LeS σ σ') (e : r' = r) : Ret σ r r' σ' := ⟨e, ⟨h.keep⟩⟩
section
variable {P : Program} {base : Nat} {f : FuncId} {fn : Func} {c : Code} {n : Nat} {a b e g : AV} {σ : Store} {T : Nat → Prop} {K : AV → Store → Prop}
theorem acall0 (hf : P.funcs[f]? = some fn) (hb : fn.body = some c) (hn : fn.ntmps = n)
    (h : ∀ (N : Nat) (B : Nat → Prop) (w₀ : World) (ρ₀ : Pl), WP ⟨P, base, n, fun i => T i ∨ σ.length ≤ i, N, B, w₀, ρ₀, σ.length⟩ c (atEnd P fn K) [] σ) : ACall P base f [] σ T K := acall_of_wp hf hb hn (by simp) h
theorem acall1 (hf : P.funcs[f]? = some fn) (hb : fn.body = some c) (hn : fn.ntmps = n) (hl : Nat.ble 1 n = true)
    (h : ∀ (N : Nat) (B : Nat → Prop) (w₀ : World) (ρ₀ : Pl), WP ⟨P, base, n, fun i => T i ∨ σ.length ≤ i, N, B, w₀, ρ₀, σ.length⟩ c (atEnd P fn K) [(0, a)] σ) : ACall P base f [a] σ T K := acall_of_wp hf hb hn (Nat.le_of_ble_eq_true hl) h
theorem acall2 (hf : P.funcs[f]? = some fn) (hb : fn.body = some c) (hn : fn.ntmps = n) (hl : Nat.ble 2 n = true)
    (h : ∀ (N : Nat) (B : Nat → Prop) (w₀ : World) (ρ₀ : Pl), WP ⟨P, base, n, fun i => T i ∨ σ.length ≤ i, N, B, w₀, ρ₀, σ.length⟩ c (atEnd P fn K) [(0, a), (1, b)] σ) : ACall P base f [a, b] σ T K := acall_of_wp hf hb hn (Nat.le_of_ble_eq_true hl) h
theorem acall3 (hf : P.funcs[f]? = some fn) (hb : fn.body = some c) (hn : fn.ntmps = n) (hl : Nat.ble 3 n = true)
    (h : ∀ (N : Nat) (B : Nat → Prop) (w₀ : World) (ρ₀ : Pl), WP ⟨P, base, n, fun i => T i ∨ σ.length ≤ i, N, B, w₀, ρ₀, σ.length⟩ c (atEnd P fn K) [(0, a), (1, b), (2, e)] σ) : ACall P base f [a, b, e] σ T K := acall_of_wp hf hb hn (Nat.le_of_ble_eq_true hl) h
theorem acall4 (hf : P.funcs[f]? = some fn) (hb : fn.body = some c) (hn : fn.ntmps = n) (hl : Nat.ble 4 n = true)
    (h : ∀ (N : Nat) (B : Nat → Prop) (w₀ : World) (ρ₀ : Pl), WP ⟨P, base, n, fun i => T i ∨ σ.length ≤ i, N, B, w₀, ρ₀, σ.length⟩ c (atEnd P fn K) [(0, a), (1, b), (2, e), (3, g)] σ) : ACall P base f [a, b, e, g] σ T K := acall_of_wp hf hb hn (Nat.le_of_ble_eq_true hl) h
end
theorem LeS.grow {σ σ' : Store} (h : LeS σ σ') : Grow σ σ' := ⟨h.keep⟩
end Go.Proofs.Ytemhpkfijoodkaa.Asl
