/- The reading operations, continued. -/
import Derived.Test.YtkfbbnagniolcaaVcS2
import Derived.Laws.StructEq
set_option linter.unusedSectionVars false
set_option linter.unusedSimpArgs false
set_option linter.unusedVariables false
namespace Go.Vc
open Go Go.RowKit

theorem wrap_in {k : IntKind} {e : Int} (h : rng k e) : k.wrap e = e := by
  cases k <;> simp only [rng] at h <;> simp [IntKind.wrap, IntKind.bits, IntKind.signed] <;> (try split) <;> omega

section
variable {P : Program} {w : World}
theorem run_guard_int {op : BinOp} {t : TypeId} {x y : Operand} {k k' : IntKind} {a b : Int} : (eqGuard op t x y (.int k a) (.int k' b)).run P w = .ok () w := by
  cases op <;> simp [eqGuard]
theorem run_guard_string {op : BinOp} {t : TypeId} {x y : Operand} {a b : ByteArray} : (eqGuard op t x y (.string a) (.string b)).run P w = .ok () w := by
  cases op <;> simp [eqGuard]
theorem run_guard_bool {op : BinOp} {t : TypeId} {x y : Operand} {a b : Bool} : (eqGuard op t x y (.bool a) (.bool b)).run P w = .ok () w := by
  cases op <;> simp [eqGuard]
theorem run_guard_slice {op : BinOp} {t : TypeId} {x y : Operand} {A B : Option Addr} {n c n' c' : Nat} : (eqGuard op t x y (.slice A n c) (.slice B n' c')).run P w = .ok () w := by
  cases op <;> simp [eqGuard]
theorem run_guard_agg {op : BinOp} {t : TypeId} {x y : Operand} {a b : Array Value} (h : P.eqGuardType P.depth t = false) : (eqGuard op t x y (.agg a) (.agg b)).run P w = .ok () w := by
  cases op <;> simp [eqGuard, h]
theorem vcInt_run {op : BinOp} {t : TypeId} {k : IntKind} {a b : Int} {K : SV → Prop} (h : vcInt op k a b K) :
    ∃ v r, (∀ w, (binOp op t (.int k a) (.int k b)).run P w = .ok v w) ∧ (∀ ρ σ, SV.rel ρ σ r v) ∧ (∀ d, ¬ r.refs d) ∧ K r := by
  cases op <;> simp only [vcInt, vcCmp] at h <;> (try exact h.elim) <;> simp only [binOp, ne_eq, not_true_eq_false, if_false, Op.intArith, Op.intDiv, Op.intCmp]
  case add => exact ⟨_, _, fun _ => rfl, fun _ _ => by simp only [SV.rel, S1.rel]; rw [show a + b = iadd a b from rfl, wrap_in h.1], fun _ hh => by exact hh, h.2⟩
  case sub => exact ⟨_, _, fun _ => rfl, fun _ _ => by simp only [SV.rel, S1.rel]; rw [show a - b = isub a b from rfl, wrap_in h.1], fun _ hh => by exact hh, h.2⟩
  case mul => exact ⟨_, _, fun _ => rfl, fun _ _ => by simp only [SV.rel, S1.rel]; rw [show a * b = imul a b from rfl, wrap_in h.1], fun _ hh => by exact hh, h.2⟩
  case quo =>
    have h0 : ¬ b = 0 := h.1
    simp only [if_neg h0]
    exact ⟨_, _, fun _ => rfl, fun _ _ => by simp only [SV.rel, S1.rel]; rw [wrap_in h.2.1], fun _ hh => by exact hh, h.2.2⟩
  case rem =>
    have h0 : ¬ b = 0 := h.1
    simp only [if_neg h0]
    exact ⟨_, _, fun _ => rfl, fun _ _ => by exact rfl, fun _ hh => by exact hh, h.2⟩
  case eql => exact ⟨_, _, fun _ => rfl, fun _ _ => by simp only [SV.rel, S1.rel, deq]; rfl, fun _ hh => by exact hh, h⟩
  case neq => exact ⟨_, _, fun _ => rfl, fun _ _ => by simp only [SV.rel, S1.rel, dne]; rfl, fun _ hh => by exact hh, h⟩
  case lss => exact ⟨_, _, fun _ => rfl, fun _ _ => by exact rfl, fun _ hh => by exact hh, h⟩
  case leq => exact ⟨_, _, fun _ => rfl, fun _ _ => by exact rfl, fun _ hh => by exact hh, h⟩
  case gtr => exact ⟨_, _, fun _ => rfl, fun _ _ => by exact rfl, fun _ hh => by exact hh, h⟩
  case geq => exact ⟨_, _, fun _ => rfl, fun _ _ => by exact rfl, fun _ hh => by exact hh, h⟩
theorem toList_eq_iff (a b : ByteArray) : (a.toList == b.toList) = decide (a = b) := by
  rw [Bool.eq_iff_iff]
  simp only [beq_iff_eq, decide_eq_true_eq, ByteArray.toList_eq]
  constructor
  · intro h
    cases a; cases b
    simp only [ByteArray.mk.injEq]
    exact Array.ext' h
  · intro h; rw [h]
theorem vcStr_run {op : BinOp} {t : TypeId} {a b : ByteArray} {e : Bool} (h : vcStrCmp op a b = some e) : (binOp op t (.string a) (.string b)).run P w = .ok (.bool e) w := by
  cases op <;> simp [vcStrCmp] at h <;> subst h <;> simp [binOp, Op.stringOp, deqS, dneS, bnt, toList_eq_iff]
theorem vcEq_run {op : BinOp} {t : TypeId} {a b : Value} {e : Bool} {K : SV → Prop} (h : vcEq op e K) (hr : ∀ w, (Op.equal t a b).run P w = .ok e w)
    (hb : ∀ op, op = .eql ∨ op = .neq → ∀ w, (binOp op t a b).run P w = ((Op.equal t a b).run P w).andThen fun r w' => .ok (.bool (if op = .eql then r else !r)) w') :
    ∃ v r, (∀ w, (binOp op t a b).run P w = .ok v w) ∧ (∀ ρ σ, SV.rel ρ σ r v) ∧ (∀ d, ¬ r.refs d) ∧ K r := by
  cases op <;> simp only [vcEq] at h <;> (try exact h.elim)
  case eql =>
    refine ⟨.bool e, _, ?_, fun _ _ => by exact rfl, fun _ hh => by exact hh, h⟩
    intro w
    rw [hb _ (.inl rfl), hr]; rfl
  case neq =>
    refine ⟨.bool (!e), _, ?_, fun _ _ => by exact rfl, fun _ hh => by exact hh, h⟩
    intro w
    rw [hb _ (.inr rfl), hr]; rfl
end

section
variable {P : Program} {w : World} {ρ : Nat → Nat} {σ : Nat → Value}
theorem eqCell_int {x y : S1} {e : Bool} (h : eqCell .int x y = some e) : ∃ k a b, x = .v (.int k a) ∧ y = .v (.int k b) ∧ e = deq a b := by
  unfold eqCell at h
  split at h <;> try contradiction
  split at h
  · rename_i k x k' y hk
    subst hk
    simp only [Option.some.injEq] at h
    exact ⟨_, _, _, rfl, rfl, h.symm⟩
  · contradiction
theorem eqCell_str {x y : S1} {e : Bool} (h : eqCell .str x y = some e) : ∃ a b, x = .v (.string a) ∧ y = .v (.string b) ∧ e = deqS a b := by
  unfold eqCell at h
  split at h <;> try contradiction
  simp only [Option.some.injEq] at h
  exact ⟨_, _, rfl, rfl, h.symm⟩
theorem eqCell_bool {x y : S1} {e : Bool} (h : eqCell .bool x y = some e) : ∃ a b, x.asB = some a ∧ y.asB = some b ∧ e = beq2 a b := by
  unfold eqCell at h
  split at h <;> try contradiction
  split at h <;> try contradiction
  split at h <;> try contradiction
  rename_i h1 _ _ h2
  simp only [Option.some.injEq] at h
  exact ⟨_, _, h1, h2, h.symm⟩
theorem eqCell_run {d : Nat} {t : TypeId} {q : EK} {x y : S1} {u v : Value} {e : Bool} (h : eqCell q x y = some e) (hx : x.rel ρ σ u) (hy : y.rel ρ σ v)
    (ht : EKOK P q t) : (Op.equalIn (d + 1) t u v).run P w = .ok e w := by
  cases q
  case int =>
    obtain ⟨k', ht⟩ := ht
    obtain ⟨k, a, b, rfl, rfl, rfl⟩ := eqCell_int h
    simp only [S1.rel] at hx hy
    subst hx hy
    rw [run_equalIn_int w d t _ k' _ _ ht]
    rfl
  case str =>
    obtain ⟨a, b, rfl, rfl, rfl⟩ := eqCell_str h
    simp only [S1.rel] at hx hy
    subst hx hy
    rw [run_equalIn_string w d t _ _ ht, toList_eq_iff]
    rfl
  case bool =>
    obtain ⟨b, b', h1, h2, rfl⟩ := eqCell_bool h
    have e1 := S1.asB_rel h1 hx
    have e2 := S1.asB_rel h2 hy
    subst e1 e2
    rw [run_equalIn_bool' w d t _ _ ht]
    rfl
theorem eqFields_run {d : Nat} {xs ys : Array Value} : ∀ (qs : List EK) (F : List Field) (cs ds : List S1) (k : Nat) (e : Bool), eqCells qs cs ds = some e →
    relL ρ σ cs (xs.toList.drop k) → relL ρ σ ds (ys.toList.drop k) → F.length = qs.length →
    (∀ (j : Nat) (f : Field) (q : EK), F[j]? = some f → qs[j]? = some q → f.offset = k + j ∧ f.name ≠ "_" ∧ EKOK P q f.type) →
    (Op.eqFields (d + 1) xs ys F).run P w = .ok e w := by
  intro qs
  induction qs with
  | nil => intro F cs ds k e h; simp [eqCells] at h
  | cons q qs ih =>
    intro F cs ds k e h hx hy hF hall
    match F, hF with
    | f :: F, hF =>
      obtain ⟨c, cs', rfl⟩ : ∃ c cs', cs = c :: cs' := by
        cases cs with
        | nil => cases qs <;> simp [eqCells] at h
        | cons c cs' => exact ⟨_, _, rfl⟩
      obtain ⟨c', ds', rfl⟩ : ∃ c cs', ds = c :: cs' := by
        cases ds with
        | nil => cases qs <;> simp [eqCells] at h
        | cons c cs' => exact ⟨_, _, rfl⟩
      obtain ⟨u, us, hu⟩ : ∃ u us, xs.toList.drop k = u :: us := by
        cases hd : xs.toList.drop k with
        | nil => rw [hd] at hx; exact hx.elim
        | cons u us => exact ⟨_, _, rfl⟩
      obtain ⟨v, vs, hv⟩ : ∃ u us, ys.toList.drop k = u :: us := by
        cases hd : ys.toList.drop k with
        | nil => rw [hd] at hy; exact hy.elim
        | cons u us => exact ⟨_, _, rfl⟩
      have hus : xs.toList.drop (k + 1) = us := by rw [← List.drop_drop, hu]; rfl
      have hvs : ys.toList.drop (k + 1) = vs := by rw [← List.drop_drop, hv]; rfl
      rw [hu] at hx
      rw [hv] at hy
      obtain ⟨ho, hn, hty⟩ := hall 0 f q rfl rfl
      simp only [Nat.add_zero] at ho
      have hxu : xs[k]? = some u := by
        have : (xs.toList.drop k)[0]? = some u := by rw [hu]; rfl
        rw [List.getElem?_drop] at this
        simpa using this
      have hyv : ys[k]? = some v := by
        have : (ys.toList.drop k)[0]? = some v := by rw [hv]; rfl
        rw [List.getElem?_drop] at this
        simpa using this
      have hagg : (isAgg f.type).run P w = .ok false w := by
        cases q
        case int => obtain ⟨k', hk⟩ := hty; simp [isAgg, run_und hk]
        case bool => simp [isAgg, run_und hty]
        case str => simp [isAgg, run_und hty]
      have hpx : (part f.type xs f.offset).run P w = .ok u w := by
        simp [part, hagg, ho, hxu]
      have hpy : (part f.type ys f.offset).run P w = .ok v w := by
        simp [part, hagg, ho, hyv]
      simp only [Op.eqFields, ne_eq, hn, not_false_eq_true, if_true, Sem.run_bind, hpx, hpy, Result.andThen_ok]
      match qs, F, cs', ds', h, hF, ih with
      | [], [], cs', ds', h, _, _ =>
        have hc : cs' = [] ∧ ds' = [] ∧ eqCell q c c' = some e := by
          match cs', ds', h with
          | [], [], h => exact ⟨rfl, rfl, h⟩
          | _ :: _, ds', h => 
            simp only [eqCells] at h
            split at h <;> simp at h
          | [], _ :: _, h =>
            simp only [eqCells] at h
            split at h <;> simp at h
        rw [eqCell_run hc.2.2 hx.1 hy.1 hty]
        cases e <;> simp [Op.eqFields]
      | q' :: qs, f' :: F, cs', ds', h, hF, ih =>
        simp only [eqCells] at h
        split at h
        · rename_i e1 he1
          split at h
          · rename_i e2 he2
            simp at h; subst h
            rw [eqCell_run he1 hx.1 hy.1 hty]
            have := ih (f' :: F) cs' ds' (k + 1) e2 he2 (by rw [hus]; exact hx.2) (by rw [hvs]; exact hy.2) (by simpa using hF) (fun j g q h1 h2 => by
              have := hall (j + 1) g q (by simpa using h1) (by simpa using h2)
              refine ⟨by omega, this.2⟩)
            cases e1
            · simp [band]
            · simp [band, this]
          · simp at h
        · simp at h
end
end Go.Vc
