/- Plain laws: the order of values and of lists of values. -/
import Derived.Test.YteogpcpleokfbaaGJAg2
import Derived.Lib.Bytealg
set_option linter.unusedSectionVars false
set_option linter.unusedSimpArgs false
set_option linter.unusedVariables false
namespace Go.Vc
open Go
def cmpI (x y : Int) : Int := if x < y then -1 else if y < x then 1 else 0
def cmpB (a b : ByteArray) : Int := Lib.compareBytes a.data.toList b.data.toList
def orI : List Int → Int
  | [] => 0
  | x :: r => if x ≠ 0 then x else orI r
def cmpV (a b : Val) : Int := orI [cmpI a.kind b.kind, cmpI a.n b.n, cmpB a.s b.s]
def lexI {T : Type} (f : T → T → Int) : List T → List T → Int
  | [], [] => 0
  | [], _ :: _ => -1
  | _ :: _, [] => 1
  | a :: as, b :: bs => if f a b ≠ 0 then f a b else lexI f as bs
def cmpVs (a b : List Val) : Int := lexI cmpV a b
/- a comparison: its value is a sign, it turns round, equal means the same, it is transitive -/
structure Ord3 {T : Type} (f : T → T → Int) : Prop where
  sign : ∀ a b, f a b = -1 ∨ f a b = 0 ∨ f a b = 1
  anti : ∀ a b, f b a = - f a b
  eq : ∀ a b, f a b = 0 → a = b
  trans : ∀ a b c, f a b = -1 → f b c = -1 → f a c = -1
theorem Ord3.refl {T : Type} {f : T → T → Int} (h : Ord3 f) (a : T) : f a a = 0 := by have := h.anti a a; omega
theorem cmpI_ord : Ord3 cmpI := by
  refine ⟨fun a b => ?_, fun a b => ?_, fun a b h => ?_, fun a b c h1 h2 => ?_⟩ <;> unfold cmpI at * <;> (repeat' split at *) <;> omega
theorem Ord3.lex {T : Type} {f : T → T → Int} (h : Ord3 f) : Ord3 (lexI f) := by
  refine ⟨fun a => ?_, fun a => ?_, fun a => ?_, fun a => ?_⟩
  · induction a with
    | nil => intro b; cases b <;> simp [lexI]
    | cons x a ih =>
      intro b
      cases b with
      | nil => simp [lexI]
      | cons y b => simp only [lexI]; split; exact h.sign x y; exact ih b
  · induction a with
    | nil => intro b; cases b <;> simp [lexI]
    | cons x a ih =>
      intro b
      cases b with
      | nil => simp [lexI]
      | cons y b =>
        simp only [lexI]
        have := h.anti x y
        split <;> split <;> first | omega | exact ih b
  · induction a with
    | nil => intro b; cases b <;> simp [lexI]
    | cons x a ih =>
      intro b
      cases b with
      | nil => simp [lexI]
      | cons y b =>
        simp only [lexI]
        split
        · intro h1; contradiction
        · rename_i h0
          intro h1
          rw [h.eq x y (by simpa using h0), ih b h1]
  · induction a with
    | nil =>
      intro b c
      cases b <;> cases c <;> simp [lexI]
    | cons x a ih =>
      intro b c
      cases b with
      | nil => simp [lexI]
      | cons y b =>
        cases c with
        | nil => intro h1 h2; simp [lexI] at h2
        | cons z c =>
          simp only [lexI]
          intro h1 h2
          by_cases e1 : f x y = 0
          · obtain rfl := h.eq x y e1
            rw [if_neg (by simpa using e1)] at h1
            by_cases e2 : f x z = 0
            · rw [if_neg (by simpa using e2)] at h2 ⊢
              exact ih b c h1 h2
            · rw [if_pos (by simpa using e2)] at h2 ⊢
              exact h2
          · rw [if_pos (by simpa using e1)] at h1
            by_cases e2 : f y z = 0
            · obtain rfl := h.eq y z e2
              rw [if_pos (by simpa using e1)]
              exact h1
            · rw [if_pos (by simpa using e2)] at h2
              have := h.trans x y z h1 h2
              rw [if_pos (by rw [this]; decide)]
              exact this
theorem cmpU_ord : Ord3 (fun a b : UInt8 => if a < b then (-1 : Int) else if b < a then 1 else 0) := by
  refine ⟨fun a b => ?_, fun a b => ?_, fun a b h => ?_, fun a b c h1 h2 => ?_⟩
  · split
    · simp
    · split <;> simp
  · by_cases h1 : a < b
    · have : ¬ b < a := by rw [UInt8.lt_iff_toNat_lt] at *; omega
      simp [h1, this]
    · by_cases h2 : b < a <;> simp [h1, h2]
  · split at h
    · simp at h
    · split at h
      · simp at h
      · rename_i h1 h2
        rw [UInt8.lt_iff_toNat_lt] at h1 h2
        exact UInt8.toNat_inj.1 (by omega)
  · have e1 : a < b := by
      split at h1
      · assumption
      · split at h1 <;> simp at h1
    have e2 : b < c := by
      split at h2
      · assumption
      · split at h2 <;> simp at h2
    rw [if_pos (by rw [UInt8.lt_iff_toNat_lt] at *; omega)]
theorem compareBytes_lex : ∀ a b : List UInt8, Lib.compareBytes a b = lexI (fun a b : UInt8 => if a < b then (-1 : Int) else if b < a then 1 else 0) a b
  | [], [] => rfl
  | [], _ :: _ => rfl
  | _ :: _, [] => rfl
  | x :: a, y :: b => by
    simp only [Lib.compareBytes, lexI]
    rw [compareBytes_lex a b]
    by_cases h1 : x < y
    · simp [h1]
    · by_cases h2 : y < x <;> simp [h1, h2]
theorem cmpB_ord : Ord3 cmpB := by
  have h := cmpU_ord.lex
  refine ⟨fun a b => ?_, fun a b => ?_, fun a b e => ?_, fun a b c => ?_⟩ <;> unfold cmpB at * <;> simp only [compareBytes_lex] at *
  · exact h.sign _ _
  · exact h.anti _ _
  · have := h.eq _ _ e
    exact ByteArray.ext (Array.ext' this)
  · exact h.trans _ _ _
theorem Ord3.pair {A B : Type} {f : A → A → Int} {g : B → B → Int} (hf : Ord3 f) (hg : Ord3 g) : Ord3 (fun x y : A × B => if f x.1 y.1 ≠ 0 then f x.1 y.1 else g x.2 y.2) := by
  refine ⟨fun a b => ?_, fun a b => ?_, fun a b e => ?_, fun a b c x y => ?_⟩
  · have := hf.sign a.1 b.1; have := hg.sign a.2 b.2
    split <;> assumption
  · have := hf.anti a.1 b.1; have := hg.anti a.2 b.2
    split <;> split <;> omega
  · split at e
    · contradiction
    · rename_i h
      exact Prod.ext (hf.eq _ _ (by omega)) (hg.eq _ _ e)
  · by_cases e1 : f a.1 b.1 = 0
    · rw [if_neg (by omega)] at x
      rw [hf.eq _ _ e1]
      by_cases e2 : f b.1 c.1 = 0
      · rw [if_neg (by omega)] at y ⊢
        exact hg.trans _ _ _ x y
      · rw [if_pos e2] at y ⊢
        exact y
    · rw [if_pos e1] at x
      by_cases e2 : f b.1 c.1 = 0
      · rw [← hf.eq _ _ e2, if_pos e1]; exact x
      · rw [if_pos e2] at y
        have := hf.trans _ _ _ x y
        rw [if_pos (by omega)]; exact this
theorem Ord3.comap {A T : Type} {f : A → A → Int} (hf : Ord3 f) (φ : T → A) (hφ : ∀ a b, φ a = φ b → a = b) : Ord3 (fun x y : T => f (φ x) (φ y)) :=
  ⟨fun a b => hf.sign _ _, fun a b => hf.anti _ _, fun a b e => hφ _ _ (hf.eq _ _ e), fun a b c => hf.trans _ _ _⟩
theorem cmpV_ord : Ord3 cmpV := by
  have h := (cmpI_ord.pair (cmpI_ord.pair cmpB_ord)).comap (fun v : Val => (v.kind, v.n, v.s)) (fun a b h => by cases a; cases b; simp_all)
  have e : (fun x y : Val => if cmpI x.kind y.kind ≠ 0 then cmpI x.kind y.kind else if cmpI x.n y.n ≠ 0 then cmpI x.n y.n else cmpB x.s y.s) = cmpV := by
    funext x y
    simp only [cmpV, orI]
    split
    · rfl
    · split
      · rfl
      · split
        · rfl
        · rename_i h; exact by simpa using h
  rw [← e]
  exact h
theorem cmpVs_ord : Ord3 cmpVs := cmpV_ord.lex
end Go.Vc
