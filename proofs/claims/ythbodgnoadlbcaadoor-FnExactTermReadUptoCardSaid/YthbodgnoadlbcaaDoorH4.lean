/- Reading terms, plainly: the judge's way and the program's. -/
import Derived.Test.YthbodgnoadlbcaaDoorH1
namespace Go.Proofs.YthbodgnoadlbcaaDoor.Asl
set_option linter.unusedVariables false
set_option linter.unusedSimpArgs false
set_option maxHeartbeats 4000000
def dlm (b : UInt8) : Bool := b == 32 || b == 41 || b == 40
def wordL (s : List UInt8) : List UInt8 := s.takeWhile fun b => !dlm b
def restL (s : List UInt8) : List UInt8 := s.dropWhile fun b => !dlm b
def Dl (r : List UInt8) : Prop := r = [] ∨ ∃ c r', r = c :: r' ∧ dlm c = true
theorem dl_nil : Dl [] := .inl rfl
theorem dl_32 (r : List UInt8) : Dl (32 :: r) := .inr ⟨32, r, rfl, by decide⟩
theorem dl_41 (r : List UInt8) : Dl (41 :: r) := .inr ⟨41, r, rfl, by decide⟩
theorem word_app {w r : List UInt8} (hw : ∀ b ∈ w, dlm b = false) (hr : Dl r) : wordL (w ++ r) = w ∧ restL (w ++ r) = r := by
  unfold wordL restL
  induction w with
  | nil =>
    rcases hr with rfl | ⟨c, r', rfl, hc⟩
    · simp
    · simp [hc]
  | cons b w ih =>
    have h1 := hw b (by simp)
    have h2 := ih fun b hb => hw b (by simp [hb])
    simp [h1, h2]
theorem word_rest (s : List UInt8) : wordL s ++ restL s = s := List.takeWhile_append_dropWhile
def eatL (c : UInt8) : List UInt8 → Option (List UInt8)
  | [] => none
  | b :: r => if b = c then some r else none
theorem eatL_some {c : UInt8} {s r : List UInt8} (h : eatL c s = some r) : s = c :: r := by
  cases s with
  | nil => cases h
  | cons b s => simp only [eatL] at h; split at h <;> simp_all
def actsL : List Int := [-4, -3, -2, -1, 0, 1, 2, 3, 4]
def actOf (w : List UInt8) : Option Int := actsL.find? fun a => decide (actT a = w)
theorem actOf_some {w : List UInt8} {a : Int} (h : actOf w = some a) : actT a = w ∧ -4 ≤ a ∧ a ≤ 4 := by
  have h1 := List.find?_some h
  have h2 := List.mem_of_find?_eq_some h
  simp [actsL] at h1 h2
  exact ⟨h1, by omega⟩
theorem actOf_actT {a : Int} (h : -4 ≤ a ∧ a ≤ 4) : actOf (actT a) = some a := by
  cases e : actOf (actT a) with
  | some b =>
    obtain ⟨h1, h2⟩ := actOf_some e
    obtain ⟨h3, _⟩ := actT_pf h2 h (r := []) (r' := []) (by rw [h1])
    rw [h3]
  | none =>
    exfalso
    have := List.find?_eq_none.mp e a (by simp [actsL]; omega)
    simp at this
theorem actT_dlm {a : Int} (h : -4 ≤ a ∧ a ≤ 4) : ∀ b ∈ actT a, dlm b = false := by
  rcases actT_cases h with ⟨_, e⟩ | ⟨_, e⟩ | ⟨_, e⟩ | ⟨_, e⟩ | ⟨_, e⟩ | ⟨_, e⟩ | ⟨_, e⟩ | ⟨_, e⟩ | ⟨_, e⟩ <;> rw [e] <;> decide
def opOf (w : List UInt8) : Int := if w = [97, 99, 116] then 1 else if w = [115, 117, 109] then 2 else if w = [112, 97, 114] then 3 else if w = [104, 105, 100, 101] then 4 else 0
def manyOf (op : Int) : Nat := if op = 2 ∨ op = 3 then 2 else 1
def nameL (op : Int) (r : List UInt8) : Option (Int × List UInt8) :=
  if op = 1 ∨ op = 4 then (eatL 32 r).bind fun r1 => (actOf (wordL r1)).bind fun a => if op = 4 ∧ a ≤ 0 then none else some (if op = 4 then a - 1 else a, restL r1)
  else some (0, r)
def leafL (w : List UInt8) : Option Tm := if w = [48] then some (.node 0 0 []) else if w = [88, 48] then some (.node 5 0 []) else if w = [88, 49] then some (.node 5 1 []) else if w = [88, 50] then some (.node 5 2 []) else none
def partsL (rd : List UInt8 → Option (Tm × List UInt8)) : Nat → List UInt8 → Option (List Tm × List UInt8)
  | 0, r => some ([], r)
  | k + 1, r => (partsL rd k r).bind fun x => (eatL 32 x.2).bind fun r2 => (rd r2).map fun y => (x.1 ++ [y.1], y.2)
def nodeL (rd : List UInt8 → Option (Tm × List UInt8)) (op : Int) (r : List UInt8) : Option (Tm × List UInt8) :=
  (nameL op r).bind fun x => (partsL rd (manyOf op) x.2).bind fun y => (eatL 41 y.2).map fun r4 => (.node op x.1 y.1, r4)
def readL : Nat → List UInt8 → Option (Tm × List UInt8)
  | 0, _ => none
  | _ + 1, [] => none
  | f + 1, c :: s1 => if c = 40 then (if opOf (wordL s1) = 0 then none else nodeL (readL f) (opOf (wordL s1)) (restL s1)) else (leafL (wordL (c :: s1))).map fun t => (t, restL (c :: s1))
theorem partsL_sound {rd : List UInt8 → Option (Tm × List UInt8)} (h : ∀ s t r, rd s = some (t, r) → s = t.txt ++ r) : ∀ (k : Nat) (s : List UInt8) (ps : List Tm) (r : List UInt8), partsL rd k s = some (ps, r) → s = Tm.txts ps ++ r ∧ ps.length = k := by
  intro k
  induction k with
  | zero => intro s ps r e; simp [partsL] at e; obtain ⟨rfl, rfl⟩ := e; simp [Tm.txts]
  | succ k ih =>
    intro s ps r e
    simp only [partsL, Option.bind_eq_some_iff, Option.map_eq_some_iff] at e
    obtain ⟨⟨qs, r1⟩, e1, r2, e2, ⟨t, r3⟩, e3, e4⟩ := e
    simp only [Prod.mk.injEq] at e4
    obtain ⟨rfl, rfl⟩ := e4
    obtain ⟨h1, h2⟩ := ih s qs r1 e1
    have h3 := eatL_some e2
    have h4 := h _ _ _ e3
    simp only at h3
    refine ⟨?_, by simp [h2]⟩
    rw [h1, h3, h4, Tm.txts_append]
    simp [Tm.txts]
/-- What is read is the text, as far as it is read. -/
theorem readL_sound : ∀ (f : Nat) (s : List UInt8) (t : Tm) (r : List UInt8), readL f s = some (t, r) → s = t.txt ++ r := by
  intro f
  induction f with
  | zero => intro s t r e; cases e
  | succ f ih =>
    intro s t r e
    cases s with
    | nil => cases e
    | cons c s1 =>
      simp only [readL] at e
      split at e
      · rename_i hc
        subst hc
        split at e
        · cases e
        · rename_i hop
          simp only [nodeL, Option.bind_eq_some_iff, Option.map_eq_some_iff] at e
          obtain ⟨⟨n, r2⟩, e1, ⟨ps, r3⟩, e2, r4, e3, e4⟩ := e
          simp only [Prod.mk.injEq] at e4
          obtain ⟨rfl, rfl⟩ := e4
          obtain ⟨h1, h2⟩ := partsL_sound ih _ _ _ _ e2
          have h3 := eatL_some e3
          simp only at h1 h3 h2
          have hw := word_rest s1
          have hw2 : (wordL s1 = [97, 99, 116] ∧ opOf (wordL s1) = 1) ∨ (wordL s1 = [115, 117, 109] ∧ opOf (wordL s1) = 2) ∨ (wordL s1 = [112, 97, 114] ∧ opOf (wordL s1) = 3) ∨ (wordL s1 = [104, 105, 100, 101] ∧ opOf (wordL s1) = 4) := by
            unfold opOf at hop ⊢
            split
            · simp_all
            · split
              · simp_all
              · split
                · simp_all
                · split
                  · simp_all
                  · simp_all
          simp only [nameL] at e1
          rcases hw2 with ⟨a, b⟩ | ⟨a, b⟩ | ⟨a, b⟩ | ⟨a, b⟩
          · rw [b] at e1 h2 ⊢
            rw [if_pos (.inl rfl)] at e1
            simp only [Option.bind_eq_some_iff] at e1
            obtain ⟨r1, q1, x, q2, q3⟩ := e1
            rw [if_neg (by omega), if_neg (by omega)] at q3
            simp only [Option.some.injEq, Prod.mk.injEq] at q3
            obtain ⟨rfl, rfl⟩ := q3
            have q4 := (actOf_some q2).1
            have q5 := eatL_some q1
            have q6 := word_rest r1
            rw [← hw, a, q5, ← q6, ← q4, h1, h3]
            simp [Tm.txt, headT]
          · rw [b] at e1 h2 ⊢
            rw [if_neg (by omega)] at e1
            simp only [Option.some.injEq, Prod.mk.injEq] at e1
            obtain ⟨rfl, rfl⟩ := e1
            rw [← hw, a, h1, h3]
            simp [Tm.txt, headT]
          · rw [b] at e1 h2 ⊢
            rw [if_neg (by omega)] at e1
            simp only [Option.some.injEq, Prod.mk.injEq] at e1
            obtain ⟨rfl, rfl⟩ := e1
            rw [← hw, a, h1, h3]
            simp [Tm.txt, headT]
          · rw [b] at e1 h2 ⊢
            rw [if_pos (.inr rfl)] at e1
            simp only [Option.bind_eq_some_iff] at e1
            obtain ⟨r1, q1, x, q2, q3⟩ := e1
            split at q3
            · cases q3
            · simp only [if_true, Option.some.injEq, Prod.mk.injEq] at q3
              obtain ⟨rfl, rfl⟩ := q3
              have q4 := (actOf_some q2).1
              have q5 := eatL_some q1
              have q6 := word_rest r1
              rw [← hw, a, q5, ← q6, ← q4, h1, h3]
              simp [Tm.txt, headT]
      · simp only [Option.map_eq_some_iff, Prod.mk.injEq] at e
        obtain ⟨t', e1, rfl, rfl⟩ := e
        have hw := word_rest (c :: s1)
        generalize c :: s1 = s at *
        refine hw.symm.trans ?_
        unfold leafL at e1
        congr 1
        · split at e1
          · cases e1; simp [Tm.txt, *]
          · split at e1
            · cases e1; simp [Tm.txt, decB, *]
            · split at e1
              · cases e1; simp [Tm.txt, decB, *]
              · split at e1
                · cases e1; simp [Tm.txt, decB, *]
                · cases e1
theorem leaf_0 (r : List UInt8) (hr : Dl r) : wordL (48 :: r) = [48] ∧ restL (48 :: r) = r := word_app (w := [48]) (by decide) hr
theorem leaf_5 {n : Int} (hn : 0 ≤ n ∧ n ≤ 2) (r : List UInt8) (hr : Dl r) : wordL (88 :: (decB n ++ r)) = 88 :: decB n ∧ restL (88 :: (decB n ++ r)) = r ∧ leafL (88 :: decB n) = some (.node 5 n []) := by
  have h1 : ∀ b ∈ 88 :: decB n, dlm b = false := by rcases decB_cases hn with ⟨_, e⟩ | ⟨_, e⟩ | ⟨_, e⟩ <;> rw [e] <;> decide
  have h2 := word_app h1 hr
  refine ⟨h2.1, h2.2, ?_⟩
  rcases decB_cases hn with ⟨rfl, e⟩ | ⟨rfl, e⟩ | ⟨rfl, e⟩ <;> rw [e] <;> simp [leafL]
/-- A text is read. -/
theorem readL_txt (t : Tm) : t.shape = true → ∀ (f : Nat) (r : List UInt8), t.cnt ≤ f → Dl r → readL f (t.txt ++ r) = some (t, r) := by
  induction t using Tm.ind with
  | _ op n ps ih =>
    intro hs f r hf hr
    obtain ⟨a, hp⟩ := Tm.shape_node hs
    simp only [Tm.cnt] at hf
    obtain ⟨f, rfl⟩ : ∃ g, f = g + 1 := ⟨f - 1, by omega⟩
    rw [nodeOk_iff] at a
    rcases a with ⟨rfl, rfl, hl⟩ | ⟨rfl, hn, hl⟩ | ⟨rfl | rfl, rfl, hl⟩ | ⟨rfl, hn, hl⟩ | ⟨rfl, hn, hl⟩
    · obtain rfl := List.length_eq_zero_iff.mp hl
      have h1 := leaf_0 r hr
      rw [txt_0]
      simp [readL, h1.1, h1.2, leafL]
    · obtain ⟨p, rfl⟩ := List.length_eq_one_iff.mp hl
      rw [txt_1]
      simp only [List.cons_append, List.append_assoc, List.nil_append, readL]
      simp only [Tm.cnts] at hf
      have i1 := ih p (by simp) (hp p (by simp)) f (41 :: r) (by omega) (dl_41 _)
      have w1 := word_app (w := [97, 99, 116]) (r := 32 :: (actT n ++ (32 :: (p.txt ++ (41 :: r))))) (by decide) (dl_32 _)
      have w2 := word_app (actT_dlm hn) (dl_32 (p.txt ++ (41 :: r)))
      simp only [List.cons_append, List.nil_append] at w1
      simp [w1.1, w1.2, opOf, nodeL, nameL, eatL, w2.1, w2.2, actOf_actT hn, manyOf, partsL, i1]
    · obtain ⟨p, q, rfl⟩ := len_two hl
      rw [txt_2]
      simp only [List.cons_append, List.append_assoc, List.nil_append, readL]
      simp only [Tm.cnts] at hf
      have i1 := ih p (by simp) (hp p (by simp)) f (32 :: (q.txt ++ (41 :: r))) (by omega) (dl_32 _)
      have i2 := ih q (by simp) (hp q (by simp)) f (41 :: r) (by omega) (dl_41 _)
      have w1 := word_app (w := [115, 117, 109]) (r := 32 :: (p.txt ++ (32 :: (q.txt ++ (41 :: r))))) (by decide) (dl_32 _)
      simp only [List.cons_append, List.nil_append] at w1
      simp [w1.1, w1.2, opOf, nodeL, nameL, eatL, manyOf, partsL, i1, i2]
    · obtain ⟨p, q, rfl⟩ := len_two hl
      rw [txt_3]
      simp only [List.cons_append, List.append_assoc, List.nil_append, readL]
      simp only [Tm.cnts] at hf
      have i1 := ih p (by simp) (hp p (by simp)) f (32 :: (q.txt ++ (41 :: r))) (by omega) (dl_32 _)
      have i2 := ih q (by simp) (hp q (by simp)) f (41 :: r) (by omega) (dl_41 _)
      have w1 := word_app (w := [112, 97, 114]) (r := 32 :: (p.txt ++ (32 :: (q.txt ++ (41 :: r))))) (by decide) (dl_32 _)
      simp only [List.cons_append, List.nil_append] at w1
      simp [w1.1, w1.2, opOf, nodeL, nameL, eatL, manyOf, partsL, i1, i2]
    · obtain ⟨p, rfl⟩ := List.length_eq_one_iff.mp hl
      rw [txt_4]
      simp only [List.cons_append, List.append_assoc, List.nil_append, readL]
      simp only [Tm.cnts] at hf
      have hn' : -4 ≤ n + 1 ∧ n + 1 ≤ 4 := by omega
      have i1 := ih p (by simp) (hp p (by simp)) f (41 :: r) (by omega) (dl_41 _)
      have w1 := word_app (w := [104, 105, 100, 101]) (r := 32 :: (actT (n + 1) ++ (32 :: (p.txt ++ (41 :: r))))) (by decide) (dl_32 _)
      have w2 := word_app (actT_dlm hn') (dl_32 (p.txt ++ (41 :: r)))
      simp only [List.cons_append, List.nil_append] at w1
      have hnn : ¬ n + 1 ≤ 0 := by omega
      simp [w1.1, w1.2, opOf, nodeL, nameL, eatL, w2.1, w2.2, actOf_actT hn', manyOf, partsL, i1, hnn]
    · obtain rfl := List.length_eq_zero_iff.mp hl
      have h1 := leaf_5 hn r hr
      rw [txt_5]
      simp [readL, h1.1, h1.2.1, h1.2.2]
/-- A scan: what is left of a text, how many nodes, whether it is bad. -/
structure Sc where
  s : List UInt8
  left : Int
  bad : Bool
def Sc.take (w : List UInt8) (r : Sc) : Option Sc := if w.isPrefixOf r.s = true then some ⟨r.s.drop w.length, r.left, r.bad⟩ else none
def Sc.must (w : List UInt8) (r : Sc) : Sc := (r.take w).getD ⟨r.s, r.left, true⟩
def Sc.node (r : Sc) : Sc := ⟨r.s, r.left - 1, r.bad || decide (r.left - 1 < 0)⟩
def Sc.act (r : Sc) : Int × Sc := ((actOf (wordL r.s)).getD 0, ⟨restL r.s, r.left, r.bad || !(actOf (wordL r.s)).isSome⟩)
def Sc.name (r : Sc) : Int × Sc := ((actOf (wordL r.s)).getD 0 - 1, ⟨restL r.s, r.left, r.bad || !(actOf (wordL r.s)).isSome || decide ((actOf (wordL r.s)).getD 0 ≤ 0)⟩)
def partS (rd : Sc → Tm × Sc) (x : List Tm × Sc) : List Tm × Sc := if (x.2.must [32]).bad = true then (x.1, x.2.must [32]) else (x.1 ++ [(rd (x.2.must [32])).1], (rd (x.2.must [32])).2)
def leafS (r : Sc) : Tm × Sc := ((leafL (wordL r.s)).getD (.node 0 0 []), ⟨restL r.s, r.left, r.bad || !(leafL (wordL r.s)).isSome⟩)
def bodyS (rd : Sc → Tm × Sc) (r : Sc) : Tm × Sc :=
  match r.take [40, 97, 99, 116, 32] with
  | some r1 => (.node 1 r1.act.1 (partS rd ([], r1.act.2)).1, (partS rd ([], r1.act.2)).2.must [41])
  | none => match r.take [40, 115, 117, 109] with
    | some r1 => (.node 2 0 (partS rd (partS rd ([], r1))).1, (partS rd (partS rd ([], r1))).2.must [41])
    | none => match r.take [40, 112, 97, 114] with
      | some r1 => (.node 3 0 (partS rd (partS rd ([], r1))).1, (partS rd (partS rd ([], r1))).2.must [41])
      | none => match r.take [40, 104, 105, 100, 101, 32] with
        | some r1 => (.node 4 r1.name.1 (partS rd ([], r1.name.2)).1, (partS rd ([], r1.name.2)).2.must [41])
        | none => leafS r
def termS : Nat → Sc → Tm × Sc
  | 0, r => (.node 0 0 [], r)
  | f + 1, r => if r.node.bad = true then (.node 0 0 [], r.node) else bodyS (termS f) r.node
theorem must_hit (c : UInt8) (r : List UInt8) (L : Int) (b : Bool) : Sc.must [c] ⟨c :: r, L, b⟩ = ⟨r, L, b⟩ := by simp [Sc.must, Sc.take]
theorem termS_txt (t : Tm) : t.shape = true → ∀ (f : Nat) (L : Int) (r : List UInt8), t.cnt ≤ f → (t.cnt : Int) ≤ L → Dl r → termS f ⟨t.txt ++ r, L, false⟩ = (t, ⟨r, L - t.cnt, false⟩) := by
  induction t using Tm.ind with
  | _ op n ps ih =>
    intro hs f L r hf hL hr
    obtain ⟨a, hp⟩ := Tm.shape_node hs
    simp only [Tm.cnt] at hf hL ⊢
    obtain ⟨f, rfl⟩ : ∃ g, f = g + 1 := ⟨f - 1, by omega⟩
    have hb : ¬ L - 1 < 0 := by omega
    rw [nodeOk_iff] at a
    rcases a with ⟨rfl, rfl, hl⟩ | ⟨rfl, hn, hl⟩ | ⟨rfl | rfl, rfl, hl⟩ | ⟨rfl, hn, hl⟩ | ⟨rfl, hn, hl⟩
    · obtain rfl := List.length_eq_zero_iff.mp hl
      have h1 := leaf_0 r hr
      rw [txt_0]
      simp [termS, Sc.node, hb, bodyS, Sc.take, leafS, h1.1, h1.2, leafL, Tm.cnts]
    · obtain ⟨p, rfl⟩ := List.length_eq_one_iff.mp hl
      rw [txt_1]
      simp only [List.cons_append, List.append_assoc, List.nil_append, termS]
      simp only [Tm.cnts] at hf hL ⊢
      have i1 := ih p (by simp) (hp p (by simp)) f (L - 1) (41 :: r) (by omega) (by omega) (dl_41 _)
      have w2 := word_app (actT_dlm hn) (dl_32 (p.txt ++ (41 :: r)))
      simp [Sc.node, hb, bodyS, Sc.take, Sc.act, w2.1, w2.2, actOf_actT hn, partS, must_hit, i1]
      omega
    · obtain ⟨p, q, rfl⟩ := len_two hl
      rw [txt_2]
      simp only [List.cons_append, List.append_assoc, List.nil_append, termS]
      simp only [Tm.cnts] at hf hL ⊢
      have i1 := ih p (by simp) (hp p (by simp)) f (L - 1) (32 :: (q.txt ++ (41 :: r))) (by omega) (by omega) (dl_32 _)
      have i2 := ih q (by simp) (hp q (by simp)) f (L - 1 - p.cnt) (41 :: r) (by omega) (by omega) (dl_41 _)
      simp [Sc.node, hb, bodyS, Sc.take, partS, must_hit, i1, i2]
      omega
    · obtain ⟨p, q, rfl⟩ := len_two hl
      rw [txt_3]
      simp only [List.cons_append, List.append_assoc, List.nil_append, termS]
      simp only [Tm.cnts] at hf hL ⊢
      have i1 := ih p (by simp) (hp p (by simp)) f (L - 1) (32 :: (q.txt ++ (41 :: r))) (by omega) (by omega) (dl_32 _)
      have i2 := ih q (by simp) (hp q (by simp)) f (L - 1 - p.cnt) (41 :: r) (by omega) (by omega) (dl_41 _)
      simp [Sc.node, hb, bodyS, Sc.take, partS, must_hit, i1, i2]
      omega
    · obtain ⟨p, rfl⟩ := List.length_eq_one_iff.mp hl
      rw [txt_4]
      simp only [List.cons_append, List.append_assoc, List.nil_append, termS]
      simp only [Tm.cnts] at hf hL ⊢
      have hn' : -4 ≤ n + 1 ∧ n + 1 ≤ 4 := by omega
      have hnn : ¬ n + 1 ≤ 0 := by omega
      have i1 := ih p (by simp) (hp p (by simp)) f (L - 1) (41 :: r) (by omega) (by omega) (dl_41 _)
      have w2 := word_app (actT_dlm hn') (dl_32 (p.txt ++ (41 :: r)))
      simp [Sc.node, hb, bodyS, Sc.take, Sc.name, w2.1, w2.2, actOf_actT hn', partS, must_hit, i1, hnn]
      omega
    · obtain rfl := List.length_eq_zero_iff.mp hl
      have h1 := leaf_5 hn r hr
      rw [txt_5]
      simp [termS, Sc.node, hb, bodyS, Sc.take, leafS, h1.1, h1.2.1, h1.2.2, Tm.cnts]
/-- The text of a term, if it is one. -/
def Tm.text (t : Tm) : List UInt8 := if t.ok = true then t.txt else []
/-- The term of a text. -/
def readO (s : List UInt8) : Option Tm := ((readL 24 s).filter fun x => x.2.isEmpty && x.1.ok).map Prod.fst
theorem readO_iff {s : List UInt8} {t : Tm} : readO s = some t ↔ t.ok = true ∧ t.txt = s := by
  constructor
  · intro h
    simp only [readO, Option.map_eq_some_iff, Option.filter_eq_some_iff] at h
    obtain ⟨⟨t', r⟩, ⟨h1, h2⟩, rfl⟩ := h
    simp only [Bool.and_eq_true, List.isEmpty_iff] at h2
    obtain ⟨rfl, h3⟩ := h2
    have := readL_sound _ _ _ _ h1
    exact ⟨h3, by simpa using this.symm⟩
  · rintro ⟨h, rfl⟩
    have h' := h
    unfold Tm.ok at h'
    simp only [Bool.and_eq_true, decide_eq_true_eq] at h'
    have := readL_txt t h'.2 24 [] h'.1 dl_nil
    rw [List.append_nil] at this
    simp [readO, this, h]
/-- The program's answer is the judge's. -/
theorem termS_read (s : List UInt8) : (if ((termS 25 ⟨s, 24, false⟩).2.bad = false ∧ (termS 25 ⟨s, 24, false⟩).2.s = []) ∧ (termS 25 ⟨s, 24, false⟩).1.text = s then some (termS 25 ⟨s, 24, false⟩).1 else none) = readO s := by
  cases e : readO s with
  | some t =>
    obtain ⟨h1, h2⟩ := readO_iff.mp e
    have h' := h1
    unfold Tm.ok at h'
    simp only [Bool.and_eq_true, decide_eq_true_eq] at h'
    have := termS_txt t h'.2 25 24 [] (by omega) (by omega) dl_nil
    rw [List.append_nil, h2] at this
    rw [this, if_pos]
    exact ⟨⟨rfl, rfl⟩, by simp [Tm.text, h1, h2]⟩
  | none =>
    rw [if_neg]
    rintro ⟨⟨h1, h2⟩, h3⟩
    unfold Tm.text at h3
    split at h3
    · rename_i hok
      rw [readO_iff.mpr ⟨hok, h3⟩] at e; cases e
    · subst h3
      revert h1
      decide
end Go.Proofs.YthbodgnoadlbcaaDoor.Asl
