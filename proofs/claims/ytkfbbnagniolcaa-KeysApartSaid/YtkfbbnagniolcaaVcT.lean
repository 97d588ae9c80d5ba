/- A table of types, checked against a program. -/
import Derived.Test.YtkfbbnagniolcaaVcS18
set_option linter.unusedSectionVars false
set_option linter.unusedSimpArgs false
set_option linter.unusedVariables false
namespace Go.Vc
open Go Go.RowKit

def valEq : Value → Value → Bool
  | .bool a, .bool b => a == b
  | .int k x, .int k' y => decide (k = k') && decide (x = y)
  | .string a, .string b => decide (a = b)
  | .slice none n c, .slice none m d => n == m && c == d
  | .pointer none, .pointer none => true
  | .nilFunc, .nilFunc => true
  | _, _ => false
theorem valEq_eq {a b : Value} (h : valEq a b = true) : a = b := by
  unfold valEq at h
  split at h <;> simp_all
def valsEq : List Value → List Value → Bool
  | [], [] => true
  | a :: as, b :: bs => valEq a b && valsEq as bs
  | _, _ => false
theorem valsEq_eq : ∀ {as bs : List Value}, valsEq as bs = true → as = bs
  | [], [], _ => rfl
  | a :: as, b :: bs, h => by
    simp [valsEq] at h
    rw [valEq_eq h.1, valsEq_eq h.2]
  | [], _ :: _, h => by simp [valsEq] at h
  | _ :: _, [], h => by simp [valsEq] at h
theorem valEq_one {a b : Value} (h : valEq a b = true) : b.oneCell' = true := by
  unfold valEq at h
  split at h <;> first | rfl | simp at h
theorem valsEq_one : ∀ {as bs : List Value}, valsEq as bs = true → ∀ z ∈ bs, z.oneCell' = true
  | [], [], _ => by simp
  | a :: as, b :: bs, h => by
    simp [valsEq] at h
    intro z hz
    rcases List.mem_cons.1 hz with rfl | hz
    · exact valEq_one h.1
    · exact valsEq_one h.2 z hz
  | [], _ :: _, h => by simp [valsEq] at h
  | _ :: _, [], h => by simp [valsEq] at h
def undCheck (P : Program) (t : TypeId) (ty : Ty) : Bool :=
  match ty with
  | .int k => match P.underlying t with
    | some (.int k') => decide (k = k')
    | _ => false
  | .bool => match P.underlying t with
    | some .bool => true
    | _ => false
  | .string => match P.underlying t with
    | some .string => true
    | _ => false
  | .slice e => match P.underlying t with
    | some (.slice e') => decide (e = e')
    | _ => false
  | .struct fs => match P.underlying t with
    | some (.struct F) => decide (F.toList.map (fun f => (f.offset, f.type)) = fs) && F.toList.all fun f => (P.info? f.type).isSome
    | _ => false
  | .array n e => match P.underlying t with
    | some (.array n' e') => decide (n = n') && decide (e = e')
    | _ => false
  | .other => match P.underlying t with
    | some (.struct _) => false
    | some (.array _ _) => false
    | some _ => true
    | none => false
def aggTy : Ty → Bool
  | .struct _ => true
  | .array _ _ => true
  | _ => false
def ekCheck (P : Program) (q : EK) (t : TypeId) : Bool :=
  match q with
  | .int => match P.underlying t with
    | some (.int _) => true
    | _ => false
  | .bool => match P.underlying t with
    | some .bool => true
    | _ => false
  | .str => match P.underlying t with
    | some .string => true
    | _ => false
theorem ekCheck_ok {P : Program} {q : EK} {t : TypeId} (h : ekCheck P q t = true) : EKOK P q t := by
  cases q <;> simp only [ekCheck] at h <;> split at h <;> simp_all [EKOK]
def fieldsCheck (P : Program) : Nat → List Field → List EK → Bool
  | _, [], [] => true
  | k, f :: fs, q :: qs => decide (f.offset = k) && decide (f.name ≠ "_") && ekCheck P q f.type && fieldsCheck P (k + 1) fs qs
  | _, _, _ => false
theorem fieldsCheck_ok {P : Program} : ∀ {k : Nat} {fs : List Field} {qs : List EK}, fieldsCheck P k fs qs = true → fs.length = qs.length ∧
    ∀ (j : Nat) (f : Field) (q : EK), fs[j]? = some f → qs[j]? = some q → f.offset = k + j ∧ f.name ≠ "_" ∧ EKOK P q f.type
  | k, [], [], _ => ⟨rfl, by simp⟩
  | k, f :: fs, q :: qs, h => by
    simp [fieldsCheck] at h
    obtain ⟨⟨⟨h1, h2⟩, h3⟩, h4⟩ := h
    obtain ⟨k1, k2⟩ := fieldsCheck_ok h4
    refine ⟨by simp [k1], fun j g r hg hr => ?_⟩
    cases j with
    | zero =>
      simp at hg hr; subst hg; subst hr
      exact ⟨by simpa using h1, h2, ekCheck_ok h3⟩
    | succ j =>
      simp at hg hr
      obtain ⟨q1, q2⟩ := k2 j g r hg hr
      exact ⟨by omega, q2⟩
  | _, [], _ :: _, h => by simp [fieldsCheck] at h
  | _, _ :: _, [], h => by simp [fieldsCheck] at h
def eqCheck (P : Program) (t : TypeId) (qs : List EK) : Bool :=
  match qs with
  | [] => true
  | _ => match P.underlying t with
    | some (.struct F) => !P.eqGuardType P.depth t && !P.stoodInHeld t && fieldsCheck P 0 F.toList qs
    | _ => false
def infoCheck (P : Program) (t : TypeId) (i : TyI) : Bool :=
  match P.info? t with
  | some inf => decide (inf.size = i.size) && decide (inf.bytes = i.bytes) && match inf.zero with
    | some z => valsEq z.cells.toList i.zero
    | none => false
  | none => false
def tyCheck (P : Program) (t : TypeId) (i : TyI) : Bool :=
  undCheck P t i.ty && decide (i.agg = aggTy i.ty) && infoCheck P t i && decide (i.zero.length = i.size) && eqCheck P t i.eqk
theorem tyCheck_ok {P : Program} {t : TypeId} {i : TyI} (h : tyCheck P t i = true) : TyOK P t i := by
  simp only [tyCheck, Bool.and_eq_true, decide_eq_true_eq] at h
  obtain ⟨⟨⟨⟨h1, h2⟩, h3⟩, h4⟩, h5⟩ := h
  have hu : ∀ d, P.underlying t = some d → ∀ w, (isAgg t).run P w = .ok (match d with | .struct _ => true | .array _ _ => true | _ => false) w := by
    intro d hd w
    simp only [isAgg, Sem.run_bind, run_und hd, Result.andThen_ok]
    cases d <;> rfl
  have hinf : ∃ inf z, P.info? t = some inf ∧ inf.size = i.size ∧ inf.bytes = i.bytes ∧ inf.zero = some z ∧ valsEq z.cells.toList i.zero = true := by
    unfold infoCheck at h3
    split at h3
    · rename_i inf hi
      simp only [Bool.and_eq_true, decide_eq_true_eq] at h3
      obtain ⟨⟨q1, q2⟩, q3⟩ := h3
      split at q3
      · rename_i z hz
        exact ⟨inf, z, hi, q1, q2, hz, q3⟩
      · simp at q3
    · simp at h3
  obtain ⟨inf, z, i1, i2, i3, i4, i5⟩ := hinf
  refine ⟨?_, ?_, ⟨inf, z, i1, i2, i3, i4, Array.ext' (valsEq_eq i5)⟩, h4, valsEq_one i5, ?_, ?_⟩
  · unfold undCheck at h1
    split at h1 <;> rename_i hty <;> rw [hty] <;> simp only
    · split at h1
      · simp at h1; subst h1; assumption
      · simp at h1
    · split at h1
      · assumption
      · simp at h1
    · split at h1
      · assumption
      · simp at h1
    · split at h1
      · simp at h1; subst h1; assumption
      · simp at h1
    · split at h1
      · rename_i F hF
        simp only [Bool.and_eq_true, decide_eq_true_eq, List.all_eq_true] at h1
        exact ⟨F, hF, h1.1, fun f hf => Option.isSome_iff_exists.1 (h1.2 f hf)⟩
      · simp at h1
    · split at h1
      · simp at h1; obtain ⟨rfl, rfl⟩ := h1; assumption
      · simp at h1
  · intro w
    rw [h2]
    unfold undCheck at h1
    split at h1 <;> rename_i hty <;> rw [hty] <;> simp only [aggTy] <;> split at h1 <;> first | (simp at h1; done) | skip
    all_goals first
      | (rename_i hd; exact hu _ hd w)
      | (rename_i d hn1 hn2 hd; rw [hu _ hd w]; cases d <;> simp_all)
  · rw [h2]
    cases i.ty <;> simp [aggTy]
  · intro hne
    unfold eqCheck at h5
    split at h5
    · rename_i he; exact absurd he hne
    · split at h5
      · rename_i F hF
        simp only [Bool.and_eq_true, Bool.not_eq_true'] at h5
        obtain ⟨⟨q1, q2⟩, q3⟩ := h5
        obtain ⟨k1, k2⟩ := fieldsCheck_ok q3
        refine ⟨F, hF, q1, q2, k1, fun k f q hk hq => ?_⟩
        have := k2 k f q hk hq
        simpa using this
      · simp at h5
def tabCheck (P : Program) (Γ : Tab) : List Nat → Bool
  | [] => true
  | t :: ts => (match Γ t with
    | some i => tyCheck P t i
    | none => true) && tabCheck P Γ ts
theorem tabCheck_ok {P : Program} {Γ : Tab} : ∀ {ts : List Nat}, tabCheck P Γ ts = true → ∀ t ∈ ts, ∀ i, Γ t = some i → TyOK P t i
  | [], _, t, ht => by simp at ht
  | x :: ts, h, t, ht => by
    simp only [tabCheck, Bool.and_eq_true] at h
    intro i hi
    rcases List.mem_cons.1 ht with rfl | ht
    · have := h.1
      rw [hi] at this
      exact tyCheck_ok this
    · exact tabCheck_ok h.2 t ht i hi
end Go.Vc
