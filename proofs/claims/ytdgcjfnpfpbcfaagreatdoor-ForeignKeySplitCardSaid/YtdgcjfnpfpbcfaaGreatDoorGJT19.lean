/- The text of a list of values, and that it tells the values. -/
import Derived.Test.YtdgcjfnpfpbcfaaGreatDoorGJT2
import Derived.Lib.ItoaNum
set_option linter.unusedSectionVars false
set_option linter.unusedSimpArgs false
set_option linter.unusedVariables false
namespace Go.Vc
open Go
def isDig (c : UInt8) : Prop := 48 ≤ c.toNat ∧ c.toNat ≤ 57
theorem dig_of {k : Nat} (h : k < 10) : isDig (UInt8.ofNat (48 + k)) := by
  have : (UInt8.ofNat (48 + k)).toNat = 48 + k := by
    simp only [UInt8.toNat_ofNat']; omega
  unfold isDig; omega
theorem decDigits_dig (u : Nat) : ∀ c ∈ Lib.decDigits u, isDig c := by
  induction u using Nat.strongRecOn with
  | _ u ih =>
    intro c hc
    rw [Lib.decDigits] at hc
    split at hc
    · rename_i h
      rw [List.mem_singleton] at hc; subst hc; exact dig_of h
    · rename_i h
      rcases List.mem_append.1 hc with hc | hc
      · exact ih (u / 10) (by omega) c hc
      · rw [List.mem_singleton] at hc; subst hc; exact dig_of (by omega)
def decVal (l : List UInt8) : Nat := l.foldl (fun a c => a * 10 + (c.toNat - 48)) 0
theorem decVal_snoc (l : List UInt8) (c : UInt8) : decVal (l ++ [c]) = decVal l * 10 + (c.toNat - 48) := by simp [decVal]
theorem decVal_digits (u : Nat) : decVal (Lib.decDigits u) = u := by
  induction u using Nat.strongRecOn with
  | _ u ih =>
    have hto : ∀ k, k < 10 → (UInt8.ofNat (48 + k)).toNat = 48 + k := fun k hk => by simp only [UInt8.toNat_ofNat']; omega
    rw [Lib.decDigits]
    split
    · rename_i h
      simp only [decVal, List.foldl_cons, List.foldl_nil, hto u h]; omega
    · rename_i h
      rw [decVal_snoc, ih (u / 10) (by omega), hto _ (by omega)]
      omega
theorem decDigits_inj {u v : Nat} (h : Lib.decDigits u = Lib.decDigits v) : u = v := by rw [← decVal_digits u, h, decVal_digits]
theorem itoa_inj {m n : Int} (h : Lib.itoa m = Lib.itoa n) : m = n := by
  have hne : ∀ u v, (45 : UInt8) :: Lib.decDigits u ≠ Lib.decDigits v := by
    intro u v e
    have := decDigits_dig v 45 (by rw [← e]; simp)
    unfold isDig at this
    have h45 : (45 : UInt8).toNat = 45 := rfl
    omega
  unfold Lib.itoa at h
  split at h <;> split at h
  · have := decDigits_inj (List.cons.inj h).2
    omega
  · exact absurd h (hne _ _)
  · exact absurd h.symm (hne _ _)
  · have := decDigits_inj h
    omega
theorem itoa_sep (n : Int) : ∀ c ∈ Lib.itoa n, c ≠ 44 ∧ c ≠ 58 := by
  have hd : ∀ u, ∀ c ∈ Lib.decDigits u, c ≠ 44 ∧ c ≠ 58 := by
    intro u c hc
    have := decDigits_dig u c hc
    unfold isDig at this
    constructor <;> (rintro rfl; revert this; decide)
  intro c hc
  unfold Lib.itoa at hc
  split at hc
  · rcases List.mem_cons.1 hc with rfl | hc
    · decide
    · exact hd _ c hc
  · exact hd _ c hc
/- a separator that stands in neither head cuts both alike -/
theorem cut_sep {s : UInt8} : ∀ {a b x y : List UInt8}, (∀ c ∈ a, c ≠ s) → (∀ c ∈ b, c ≠ s) → a ++ s :: x = b ++ s :: y → a = b ∧ x = y
  | [], [], x, y, _, _, h => ⟨rfl, (List.cons.inj h).2⟩
  | [], c :: b, x, y, _, hb, h => absurd (List.cons.inj h).1.symm (hb c (by simp))
  | c :: a, [], x, y, ha, _, h => absurd (List.cons.inj h).1 (ha c (by simp))
  | c :: a, d :: b, x, y, ha, hb, h => by
    have h' := List.cons.inj h
    obtain ⟨h1, h2⟩ := cut_sep (fun e he => ha e (by simp [he])) (fun e he => hb e (by simp [he])) h'.2
    exact ⟨by rw [h'.1, h1], h2⟩
def valBytes (v : Val) : List UInt8 := Lib.itoa v.kind ++ 44 :: (Lib.itoa v.n ++ 44 :: (Lib.itoa v.s.size ++ 58 :: v.s.data.toList))
def keyBytes (l : List Val) : List UInt8 := l.flatMap valBytes
theorem valBytes_cut {v u : Val} {x y : List UInt8} (h : valBytes v ++ x = valBytes u ++ y) : v = u ∧ x = y := by
  unfold valBytes at h
  simp only [List.append_assoc, List.cons_append] at h
  obtain ⟨h1, h⟩ := cut_sep (fun c hc => (itoa_sep _ c hc).1) (fun c hc => (itoa_sep _ c hc).1) h
  obtain ⟨h2, h⟩ := cut_sep (fun c hc => (itoa_sep _ c hc).1) (fun c hc => (itoa_sep _ c hc).1) h
  obtain ⟨h3, h⟩ := cut_sep (fun c hc => (itoa_sep _ c hc).2) (fun c hc => (itoa_sep _ c hc).2) h
  have e1 := itoa_inj h1; have e2 := itoa_inj h2; have e3 := itoa_inj h3
  have hl : v.s.data.toList.length = u.s.data.toList.length := by
    have a1 : v.s.data.toList.length = v.s.size := Array.length_toList
    have a2 : u.s.data.toList.length = u.s.size := Array.length_toList
    omega
  obtain ⟨h4, h5⟩ := List.append_inj h hl
  refine ⟨?_, h5⟩
  obtain ⟨k, n, ⟨⟨s⟩⟩⟩ := v
  obtain ⟨k', n', ⟨⟨s'⟩⟩⟩ := u
  have e1 : k = k' := e1
  have e2 : n = n' := e2
  have h4 : s = s' := h4
  subst e1 e2 h4
  rfl
theorem valBytes_ne (v : Val) : valBytes v ≠ [] := by
  unfold valBytes
  intro h
  have := congrArg List.length h
  simp at this
theorem keyBytes_inj : ∀ {l m : List Val}, keyBytes l = keyBytes m → l = m
  | [], [], _ => rfl
  | [], v :: m, h => by
    simp only [keyBytes, List.flatMap_nil, List.flatMap_cons] at h
    exact absurd (List.append_eq_nil_iff.1 h.symm).1 (valBytes_ne v)
  | v :: l, [], h => by
    simp only [keyBytes, List.flatMap_nil, List.flatMap_cons] at h
    exact absurd (List.append_eq_nil_iff.1 h).1 (valBytes_ne v)
  | v :: l, u :: m, h => by
    simp only [keyBytes, List.flatMap_cons] at h
    obtain ⟨h1, h2⟩ := valBytes_cut h
    rw [h1, keyBytes_inj h2]
def keyStr (l : List Val) : ByteArray := ⟨(keyBytes l).toArray⟩
theorem keyStr_inj {l m : List Val} (h : keyStr l = keyStr m) : l = m := by
  refine keyBytes_inj ?_
  have := congrArg (fun b : ByteArray => b.data.toList) h
  simpa [keyStr] using this
end Go.Vc
