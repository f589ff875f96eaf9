/- strings.IndexAny at any string, the letters looked for being ASCII: plain laws of decoding. -/
import Derived.Shelf.Strings.IndexAnyAll
import Derived.Shelf.Small.Utf8
import Derived.Laws.RangeAny
import Derived.Laws.Runes
import Derived.Lib.MapLaws
import Derived.Lib.QuoteLoop
namespace Go.Proofs.YthbodgnoadlbcaaDoor.Asl
open Go.Shelf Go.RowKit Go.Lib Go.Proofs Go
set_option linter.unusedVariables false
set_option linter.unusedSimpArgs false
theorem get_bang {s : ByteArray} {j : Nat} {b : UInt8} (h : s.data.toList[j]? = some b) : s.get! j = b := by
  have hj : j < s.size := by
    rw [Lib.size_eq]
    rcases Nat.lt_or_ge j s.data.toList.length with h1 | h1
    · exact h1
    · rw [List.getElem?_eq_none h1] at h; cases h
  have h2 := Lib.data_getElem? s j hj
  rw [h] at h2
  have h3 := get_at s j hj
  rw [Nat.add_zero] at h3
  rw [h3]
  simpa using h2.symm
/-- The bytes of a rune that is not ASCII are not ASCII. -/
theorem decode_span {s : ByteArray} {pos : Nat} (ha : 128 ≤ (s.get! pos).toNat) : ∀ (j : Nat) (b : UInt8), pos ≤ j → j < pos + (Utf8.decode s pos).2 → s.data.toList[j]? = some b → 128 ≤ b.toNat := by
  intro j b h1 h2 h3
  have hb := get_bang h3
  subst hb
  rw [decode_at] at h2
  rcases decodeN_shape (s.size - pos) (s.get! pos).toNat (s.get! (pos + 1)).toNat (s.get! (pos + 2)).toNat (s.get! (pos + 3)).toNat with ⟨a, e⟩ | ⟨a, _, b1, _, e⟩ | ⟨a, _, b1, b2, _, _, e⟩ | ⟨a, _, b1, b2, b3, _, _, e⟩ | e <;> rw [e] at h2 <;> simp only at h2
  · omega
  · rcases (show j = pos ∨ j = pos + 1 by omega) with rfl | rfl <;> omega
  · rcases (show j = pos ∨ j = pos + 1 ∨ j = pos + 2 by omega) with rfl | rfl | rfl <;> omega
  · rcases (show j = pos ∨ j = pos + 1 ∨ j = pos + 2 ∨ j = pos + 3 by omega) with rfl | rfl | rfl | rfl <;> omega
  · rcases (show j = pos by omega) with rfl; omega
theorem contains_ascii {chars : List UInt8} (hc : ∀ b ∈ chars, b.toNat < 128) {x : UInt8} (hx : 128 ≤ x.toNat) : chars.contains x = false := by
  rw [Bool.eq_false_iff]
  intro h
  have := hc x (by simpa using h)
  omega
theorem noAny_high {s : ByteArray} {chars : List UInt8} {pos : Nat} (hc : ∀ b ∈ chars, b.toNat < 128) (h : NoAny s.data.toList chars pos) (ha : 128 ≤ (s.get! pos).toNat) : NoAny s.data.toList chars (pos + (Utf8.decode s pos).2) := by
  intro j b hj hb
  by_cases h1 : j < pos
  · exact h j b h1 hb
  · exact contains_ascii hc (decode_span ha j b (by omega) hj hb)
theorem decode_rune {s : ByteArray} {pos : Nat} (h : pos < s.size) (ha : 128 ≤ (s.get! pos).toNat) : 128 ≤ (Utf8.decode s pos).1 ∧ ((Utf8.decode s pos).1 < 55296 ∨ (57343 < (Utf8.decode s pos).1 ∧ (Utf8.decode s pos).1 ≤ 1114111)) ∧ 1 ≤ (Utf8.decode s pos).2 ∧ pos + (Utf8.decode s pos).2 ≤ s.size := by
  have e := get_at s pos h
  rw [Nat.add_zero] at e
  have h1 := decode_high s pos h (by rw [← e]; exact ha)
  have h2 := decodeN_valid (s.size - pos) (s.get! pos).toNat (s.get! (pos + 1)).toNat (s.get! (pos + 2)).toNat (s.get! (pos + 3)).toNat (UInt8.toNat_lt _)
  have h3 := decodeN_width_le (s.size - pos) (s.get! pos).toNat (s.get! (pos + 1)).toNat (s.get! (pos + 2)).toNat (s.get! (pos + 3)).toNat (by omega)
  rw [← decode_at] at h2 h3
  exact ⟨h1.1, h2, h1.2, by omega⟩
theorem indexByte_ascii {l : List UInt8} {c : UInt8} (hl : ∀ b ∈ l, b.toNat < 128) (hc : 128 ≤ c.toNat) : Lib.indexByte l c = -1 := by
  induction l with
  | nil => rfl
  | cons b l ih =>
    have h1 := hl b (by simp)
    have h2 : (b == c) = false := by
      rw [Bool.eq_false_iff]; intro h; rw [beq_iff_eq] at h; subst h; omega
    rw [Lib.indexByte, h2, ih fun x hx => hl x (by simp [hx])]
    rfl
end Go.Proofs.YthbodgnoadlbcaaDoor.Asl
