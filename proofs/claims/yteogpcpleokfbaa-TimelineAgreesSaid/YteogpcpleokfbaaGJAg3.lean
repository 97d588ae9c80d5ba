/- The reading operations, continued. -/
import Derived.Test.YteogpcpleokfbaaGJAg2
import Derived.Laws.StructEq
set_option linter.unusedSectionVars false
set_option linter.unusedSimpArgs false
set_option linter.unusedVariables false
namespace Go.Vc
open Go Go.RowKit

theorem wrap_in {k : IntKind} {e : Int} (h : rng k e) : k.wrap e = e := by
  cases k <;> simp only [rng] at h <;> simp [IntKind.wrap, IntKind.bits, IntKind.signed] <;> (try split) <;> omega

section
variable {P : Program} {w : World}
theorem run_guard_int {op : BinOp} {t : TypeId} {x y : Operand} {k k' : IntKind} {a b : Int} : (eqGuard op t x y (.int k a) (.int k' b)).run P w = .ok () w := by
  cases op <;> simp [eqGuard]
theorem run_guard_string {op : BinOp} {t : TypeId} {x y : Operand} {a b : ByteArray} : (eqGuard op t x y (.string a) (.string b)).run P w = .ok () w := by
  cases op <;> simp [eqGuard]
theorem run_guard_bool {op : BinOp} {t : TypeId} {x y : Operand} {a b : Bool} : (eqGuard op t x y (.bool a) (.bool b)).run P w = .ok () w := by
  cases op <;> simp [eqGuard]
theorem run_guard_slice {op : BinOp} {t : TypeId} {x y : Operand} {A B : Option Addr} {n c n' c' : Nat} : (eqGuard op t x y (.slice A n c) (.slice B n' c')).run P w = .ok () w := by
  cases op <;> simp [eqGuard]
theorem run_guard_ptr {op : BinOp} {t e : TypeId} {x y : Operand} {A B : Option Addr} (_ : P.underlying t = some (.pointer e)) : (eqGuard op t x y (.pointer A) (.pointer B)).run P w = .ok () w := by
  cases op <;> simp [eqGuard]
theorem run_guard_agg {op : BinOp} {t : TypeId} {x y : Operand} {a b : Array Value} (h : P.eqGuardType P.depth t = false) : (eqGuard op t x y (.agg a) (.agg b)).run P w = .ok () w := by
  cases op <;> simp [eqGuard, h]
theorem vcInt_run {op : BinOp} {t : TypeId} {k : IntKind} {a b : Int} {K : SV → Prop} (h : vcInt op k a b K) :
    ∃ v r, (∀ w, (binOp op t (.int k a) (.int k b)).run P w = .ok v w) ∧ (∀ ρ σ, SV.rel ρ σ r v) ∧ (∀ d, ¬ r.refs d) ∧ K r := by
  cases op <;> simp only [vcInt, vcCmp] at h <;> (try exact h.elim) <;> simp only [binOp, ne_eq, not_true_eq_false, if_false, Op.intArith, Op.intDiv, Op.intCmp]
  case add => exact ⟨_, _, fun _ => rfl, fun _ _ => by simp only [SV.rel, S1.rel]; rw [show a + b = iadd a b from rfl, wrap_in h.1], fun _ hh => by exact hh, h.2⟩
  case sub => exact ⟨_, _, fun _ => rfl, fun _ _ => by simp only [SV.rel, S1.rel]; rw [show a - b = isub a b from rfl, wrap_in h.1], fun _ hh => by exact hh, h.2⟩
  case mul => exact ⟨_, _, fun _ => rfl, fun _ _ => by simp only [SV.rel, S1.rel]; rw [show a * b = imul a b from rfl, wrap_in h.1], fun _ hh => by exact hh, h.2⟩
  case quo =>
    have h0 : ¬ b = 0 := h.1
    simp only [if_neg h0]
    exact ⟨_, _, fun _ => rfl, fun _ _ => by simp only [SV.rel, S1.rel]; rw [wrap_in h.2.1], fun _ hh => by exact hh, h.2.2⟩
  case rem =>
    have h0 : ¬ b = 0 := h.1
    simp only [if_neg h0]
    exact ⟨_, _, fun _ => rfl, fun _ _ => by exact rfl, fun _ hh => by exact hh, h.2⟩
  case shr =>
    obtain ⟨h0, h1⟩ := h
    have h0 : b = 1 := h0
    subst h0
    refine ⟨.int k (a.fdiv 2), _, fun w => ?_, fun _ _ => by exact rfl, fun _ hh => by exact hh, h1⟩
    cases k <;> rfl
  case eql => exact ⟨_, _, fun _ => rfl, fun _ _ => by simp only [SV.rel, S1.rel, deq]; rfl, fun _ hh => by exact hh, h⟩
  case neq => exact ⟨_, _, fun _ => rfl, fun _ _ => by simp only [SV.rel, S1.rel, dne]; rfl, fun _ hh => by exact hh, h⟩
  case lss => exact ⟨_, _, fun _ => rfl, fun _ _ => by exact rfl, fun _ hh => by exact hh, h⟩
  case leq => exact ⟨_, _, fun _ => rfl, fun _ _ => by exact rfl, fun _ hh => by exact hh, h⟩
  case gtr => exact ⟨_, _, fun _ => rfl, fun _ _ => by exact rfl, fun _ hh => by exact hh, h⟩
  case geq => exact ⟨_, _, fun _ => rfl, fun _ _ => by exact rfl, fun _ hh => by exact hh, h⟩
theorem toList_eq_iff (a b : ByteArray) : (a.toList == b.toList) = decide (a = b) := by
  rw [Bool.eq_iff_iff]
  simp only [beq_iff_eq, decide_eq_true_eq, ByteArray.toList_eq]
  constructor
  · intro h
    cases a; cases b
    simp only [ByteArray.mk.injEq]
    exact Array.ext' h
  · intro h; rw [h]
theorem vcStr_run {op : BinOp} {t : TypeId} {a b : ByteArray} {e : Bool} (h : vcStrCmp op a b = some e) : (binOp op t (.string a) (.string b)).run P w = .ok (.bool e) w := by
  cases op <;> simp [vcStrCmp] at h <;> subst h <;> simp [binOp, Op.stringOp, deqS, dneS, bnt, toList_eq_iff]
theorem vcEq_run {op : BinOp} {t : TypeId} {a b : Value} {e : Bool} {K : SV → Prop} (h : vcEq op e K) (hr : ∀ w, (Op.equal t a b).run P w = .ok e w)
    (hb : ∀ op, op = .eql ∨ op = .neq → ∀ w, (binOp op t a b).run P w = ((Op.equal t a b).run P w).andThen fun r w' => .ok (.bool (if op = .eql then r else !r)) w') :
    ∃ v r, (∀ w, (binOp op t a b).run P w = .ok v w) ∧ (∀ ρ σ, SV.rel ρ σ r v) ∧ (∀ d, ¬ r.refs d) ∧ K r := by
  cases op <;> simp only [vcEq] at h <;> (try exact h.elim)
  case eql =>
    refine ⟨.bool e, _, ?_, fun _ _ => by exact rfl, fun _ hh => by exact hh, h⟩
    intro w
    rw [hb _ (.inl rfl), hr]; rfl
  case neq =>
    refine ⟨.bool (!e), _, ?_, fun _ _ => by exact rfl, fun _ hh => by exact hh, h⟩
    intro w
    rw [hb _ (.inr rfl), hr]; rfl
end

section
variable {P : Program} {w : World} {ρ : Nat → Nat} {σ : Nat → Value}
theorem eqCell_int {x y : S1} {e : Bool} (h : eqCell .int x y = some e) : ∃ k a b, x = .v (.int k a) ∧ y = .v (.int k b) ∧ e = deq a b := by
  unfold eqCell at h
  split at h <;> try contradiction
  split at h
  · rename_i k x k' y hk
    subst hk
    simp only [Option.some.injEq] at h
    exact ⟨_, _, _, rfl, rfl, h.symm⟩
  · contradiction
theorem eqCell_str {x y : S1} {e : Bool} (h : eqCell .str x y = some e) : ∃ a b, x = .v (.string a) ∧ y = .v (.string b) ∧ e = deqS a b := by
  unfold eqCell at h
  split at h <;> try contradiction
  simp only [Option.some.injEq] at h
  exact ⟨_, _, rfl, rfl, h.symm⟩
theorem eqCell_bool {x y : S1} {e : Bool} (h : eqCell .bool x y = some e) : ∃ a b, x.asB = some a ∧ y.asB = some b ∧ e = beq2 a b := by
  unfold eqCell at h
  split at h <;> try contradiction
  split at h <;> try contradiction
  split at h <;> try contradiction
  rename_i h1 _ _ h2
  simp only [Option.some.injEq] at h
  exact ⟨_, _, h1, h2, h.symm⟩
theorem eqCell_run {d : Nat} {t : TypeId} {q : EK} {x y : S1} {u v : Value} {e : Bool} (h : eqCell q x y = some e) (hx : x.rel ρ σ u) (hy : y.rel ρ σ v)
    (ht : EKOK P q t) : (Op.equalIn (d + 1) t u v).run P w = .ok e w := by
  cases q
  case int =>
    obtain ⟨k', ht⟩ := ht
    obtain ⟨k, a, b, rfl, rfl, rfl⟩ := eqCell_int h
    simp only [S1.rel] at hx hy
    subst hx hy
    rw [run_equalIn_int w d t _ k' _ _ ht]
    rfl
  case str =>
    obtain ⟨a, b, rfl, rfl, rfl⟩ := eqCell_str h
    simp only [S1.rel] at hx hy
    subst hx hy
    rw [run_equalIn_string w d t _ _ ht, toList_eq_iff]
    rfl
  case bool =>
    obtain ⟨b, b', h1, h2, rfl⟩ := eqCell_bool h
    have e1 := S1.asB_rel h1 hx
    have e2 := S1.asB_rel h2 hy
    subst e1 e2
    rw [run_equalIn_bool' w d t _ _ ht]
    rfl
theorem eqFields_run {d : Nat} {xs ys : Array Value} : ∀ (qs : List EK) (F : List Field) (cs ds : List S1) (k : Nat) (e : Bool), eqCells qs cs ds = some e →
    relL ρ σ cs (xs.toList.drop k) → relL ρ σ ds (ys.toList.drop k) → F.length = qs.length →
    (∀ (j : Nat) (f : Field) (q : EK), F[j]? = some f → qs[j]? = some q → f.offset = k + j ∧ f.name ≠ "_" ∧ EKOK P q f.type) →
    (Op.eqFields (d + 1) xs ys F).run P w = .ok e w := by
  intro qs
  induction qs with
  | nil => intro F cs ds k e h; simp [eqCells] at h
  | cons q qs ih =>
    intro F cs ds k e h hx hy hF hall
    match F, hF with
    | f :: F, hF =>
      obtain ⟨c, cs', rfl⟩ : ∃ c cs', cs = c :: cs' := by
        cases cs with
        | nil => cases qs <;> simp [eqCells] at h
        | cons c cs' => exact ⟨_, _, rfl⟩
      obtain ⟨c', ds', rfl⟩ : ∃ c cs', ds = c :: cs' := by
        cases ds with
        | nil => cases qs <;> simp [eqCells] at h
        | cons c cs' => exact ⟨_, _, rfl⟩
      obtain ⟨u, us, hu⟩ : ∃ u us, xs.toList.drop k = u :: us := by
        cases hd : xs.toList.drop k with
        | nil => rw [hd] at hx; exact hx.elim
        | cons u us => exact ⟨_, _, rfl⟩
      obtain ⟨v, vs, hv⟩ : ∃ u us, ys.toList.drop k = u :: us := by
        cases hd : ys.toList.drop k with
        | nil => rw [hd] at hy; exact hy.elim
        | cons u us => exact ⟨_, _, rfl⟩
      have hus : xs.toList.drop (k + 1) = us := by rw [← List.drop_drop, hu]; rfl
      have hvs : ys.toList.drop (k + 1) = vs := by rw [← List.drop_drop, hv]; rfl
      rw [hu] at hx
      rw [hv] at hy
      obtain ⟨ho, hn, hty⟩ := hall 0 f q rfl rfl
      simp only [Nat.add_zero] at ho
      have hxu : xs[k]? = some u := by
        have : (xs.toList.drop k)[0]? = some u := by rw [hu]; rfl
        rw [List.getElem?_drop] at this
        simpa using this
      have hyv : ys[k]? = some v := by
        have : (ys.toList.drop k)[0]? = some v := by rw [hv]; rfl
        rw [List.getElem?_drop] at this
        simpa using this
      have hagg : (isAgg f.type).run P w = .ok false w := by
        cases q
        case int => obtain ⟨k', hk⟩ := hty; simp [isAgg, run_und hk]
        case bool => simp [isAgg, run_und hty]
        case str => simp [isAgg, run_und hty]
      have hpx : (part f.type xs f.offset).run P w = .ok u w := by
        simp [part, hagg, ho, hxu]
      have hpy : (part f.type ys f.offset).run P w = .ok v w := by
        simp [part, hagg, ho, hyv]
      simp only [Op.eqFields, ne_eq, hn, not_false_eq_true, if_true, Sem.run_bind, hpx, hpy, Result.andThen_ok]
      match qs, F, cs', ds', h, hF, ih with
      | [], [], cs', ds', h, _, _ =>
        have hc : cs' = [] ∧ ds' = [] ∧ eqCell q c c' = some e := by
          match cs', ds', h with
          | [], [], h => exact ⟨rfl, rfl, h⟩
          | _ :: _, ds', h => 
            simp only [eqCells] at h
            split at h <;> simp at h
          | [], _ :: _, h =>
            simp only [eqCells] at h
            split at h <;> simp at h
        rw [eqCell_run hc.2.2 hx.1 hy.1 hty]
        cases e <;> simp [Op.eqFields]
      | q' :: qs, f' :: F, cs', ds', h, hF, ih =>
        simp only [eqCells] at h
        split at h
        · rename_i e1 he1
          split at h
          · rename_i e2 he2
            simp at h; subst h
            rw [eqCell_run he1 hx.1 hy.1 hty]
            have := ih (f' :: F) cs' ds' (k + 1) e2 he2 (by rw [hus]; exact hx.2) (by rw [hvs]; exact hy.2) (by simpa using hF) (fun j g q h1 h2 => by
              have := hall (j + 1) g q (by simpa using h1) (by simpa using h2)
              refine ⟨by omega, this.2⟩)
            cases e1
            · simp [band]
            · simp [band, this]
          · simp at h
        · simp at h
end
end Go.Vc
/- The reading operations: together. -/
namespace Go.Vc
open Go Go.RowKit

section
variable {P : Program} {Γ : Tab} {w0 : W0} {w : World} {H0 : Heap} {st : St} {a : Act} {ρ : Nat → Nat} {σ : Nat → Value}
variable (hT : TabOK P Γ) (hg : Good P w0 H0 st a w ρ σ)
theorem RdOK.of_run {m : Sem Value} {K : SV → Prop} (h : ∃ v r, (∀ w, m.run P w = .ok v w) ∧ (∀ ρ σ, SV.rel ρ σ r v) ∧ (∀ d, ¬ r.refs d) ∧ K r) : RdOK P st ρ σ w m K := by
  obtain ⟨v, r, h1, h2, h3, h4⟩ := h
  exact ⟨v, r, fun w' _ => h1 w', h2 _ _, fun d _ => h3 d, h4⟩
theorem run_binOp_eql {t : TypeId} {x y : Value} (hx : ∀ k n, x ≠ .int k n) (hf : ∀ k n, x ≠ .float k n) (hc : ∀ k a b, x ≠ .complex k a b) (hs : ∀ s, x ≠ .string s) (op : BinOp) (ho : op = .eql ∨ op = .neq) :
    (binOp op t x y).run P w = ((Op.equal t x y).run P w).andThen fun r w' => .ok (.bool (if op = .eql then r else !r)) w' := by
  rcases ho with rfl | rfl
  · unfold binOp
    split <;> simp_all
  · unfold binOp
    split <;> simp_all
theorem run_equalIn_slice {t e : TypeId} {A : Option Addr} {n c n' c' d : Nat} (h : P.underlying t = some (.slice e)) : (Op.equalIn (d + 1) t (.slice A n c) (.slice none n' c')).run P w = .ok A.isNone w := by
  cases A <;> simp [Op.equalIn, run_und h]
theorem run_equalIn_ptr {t e : TypeId} {A : Option Addr} {d : Nat} (h : P.underlying t = some (.pointer e)) : (Op.equalIn (d + 1) t (.pointer A) (.pointer none)).run P w = .ok A.isNone w := by
  cases A <;> simp [Op.equalIn, run_und h]
theorem SV.rel_one_v {x v : Value} (h : (SV.one (S1.v x)).rel ρ σ v) : v = x := h
theorem relL_of_agg {cs : List S1} {v : Value} (h : (SV.agg cs).rel ρ σ v) : ∃ ys : Array Value, v = .agg ys ∧ relL ρ σ cs ys.toList := h
include hT in
theorem vcBin_sound {op : BinOp} {t : TypeId} {x y : SV} {xo yo : Operand} {u v : Value} (hx : x.rel ρ σ u) (hy : y.rel ρ σ v) {K : SV → Prop} (h : vcBin Γ op t x y K) :
    RdOK P st ρ σ w (do eqGuard op t xo yo u v; binOp op t u v) K := by
  unfold vcBin at h
  split at h
  · rename_i k n
    split at h
    · rename_i k' n'
      split at h
      · rename_i hk
        subst hk
        have e1 := SV.rel_one_v hx
        have e2 := SV.rel_one_v hy
        subst e1 e2
        obtain ⟨v, r, h1, h2⟩ := vcInt_run (P := P) (t := t) h
        refine RdOK.of_run ⟨v, r, ?_, h2⟩
        intro w
        simp only [Sem.run_bind, run_guard_int, Result.andThen_ok, h1]
      · exact h.elim
    · exact h.elim
  · rename_i s
    split at h
    · rename_i s'
      split at h
      · have e1 := SV.rel_one_v hx
        have e2 := SV.rel_one_v hy
        subst e1 e2
        obtain ⟨hle, h⟩ := h
        have hle' : s.size + s'.size ≤ 9223372036854775807 := hle
        refine ⟨.string (s ++ s'), _, ?_, ?_, ?_, h⟩
        · intro w' _
          simp only [Sem.run_bind, run_guard_string, Result.andThen_ok, binOp, Op.stringOp]
          have hm : IntKind.i64.max = 9223372036854775807 := by decide
          rw [hm, if_neg (by omega)]
          rfl
        · exact rfl
        · exact fun _ _ hh => hh
      split at h
      · rename_i e he
        have e1 := SV.rel_one_v hx
        have e2 := SV.rel_one_v hy
        subst e1 e2
        refine ⟨.bool e, _, ?_, ?_, ?_, h⟩
        · intro w' _
          simp only [Sem.run_bind, run_guard_string, Result.andThen_ok]
          exact vcStr_run he
        · exact rfl
        · exact fun _ _ hh => hh
      · exact h.elim
    · exact h.elim
  · rename_i A n c
    split at h
    · rename_i n' c'
      split at h
      · rename_i i hi
        split at h
        · rename_i e hty
          have hu := (hT _ _ hi).und
          rw [hty] at hu
          have e1 := SV.rel_one_v hx
          have e2 := SV.rel_one_v hy
          subst e1 e2
          have hrun : ∀ w, (Op.equal t (.slice A n c) (.slice none n' c')).run P w = .ok A.isNone w := by
            intro w
            unfold Op.equal Op.maxDepth
            exact run_equalIn_slice (d := 9999) hu
          obtain ⟨v, r, h1, h2⟩ := vcEq_run (P := P) (t := t) h hrun (fun op ho w => run_binOp_eql (by simp) (by simp) (by simp) (by simp) op ho)
          refine RdOK.of_run ⟨v, r, ?_, h2⟩
          intro w
          simp only [Sem.run_bind, run_guard_slice, Result.andThen_ok, h1]
        · exact h.elim
      · exact h.elim
    · exact h.elim
  · rename_i cs
    split at h
    · rename_i ds
      split at h
      · rename_i i hi
        split at h
        · rename_i e he
          obtain ⟨ys, rfl, hr⟩ := relL_of_agg hx
          obtain ⟨zs, rfl, hs⟩ := relL_of_agg hy
          have hne : i.eqk ≠ [] := by
            intro h0
            rw [h0] at he
            simp [eqCells] at he
          obtain ⟨F, hF, hgt, hst, hlen, hall⟩ := (hT _ _ hi).eq hne
          have hfo : P.fieldsOf t = F := by simp [Program.fieldsOf, hF]
          have hrun : ∀ w, (Op.equal t (.agg ys) (.agg zs)).run P w = .ok e w := by
            intro w
            unfold Op.equal Op.maxDepth
            rw [run_equalIn_struct w 9999 t ys zs (by rw [hfo]; exact hF) hst, hfo]
            exact eqFields_run (d := 9998) i.eqk F.toList cs ds 0 e he (by simpa using hr) (by simpa using hs) hlen (fun j f q h1 h2 => by
              have := hall j f q h1 h2
              simpa using this)
          obtain ⟨v, r, h1, h2⟩ := vcEq_run (P := P) (t := t) h hrun (fun op ho w => run_binOp_eql (by simp) (by simp) (by simp) (by simp) op ho)
          refine RdOK.of_run ⟨v, r, ?_, h2⟩
          intro w
          simp only [Sem.run_bind, run_guard_agg hgt, Result.andThen_ok, h1]
        · exact h.elim
      · exact h.elim
    · exact h.elim
  · rename_i i0 off0
    split at h
    · split at h
      · rename_i i hi
        split at h
        · rename_i e hty
          have hu := (hT _ _ hi).und
          rw [hty] at hu
          have e1 : u = .pointer (some ⟨ρ i0, off0, none⟩) := hx
          have e2 := SV.rel_one_v hy
          subst e1 e2
          have hrun : ∀ w, (Op.equal t (.pointer (some ⟨ρ i0, off0, none⟩)) (.pointer none)).run P w = .ok false w := by
            intro w
            unfold Op.equal Op.maxDepth
            exact run_equalIn_ptr (d := 9999) hu
          obtain ⟨v, r, h1, h2⟩ := vcEq_run (P := P) (t := t) h hrun (fun op ho w => run_binOp_eql (by simp) (by simp) (by simp) (by simp) op ho)
          refine RdOK.of_run ⟨v, r, ?_, h2⟩
          intro w
          simp only [Sem.run_bind, run_guard_ptr hu, Result.andThen_ok, h1]
        · exact h.elim
      · exact h.elim
    · exact h.elim
  · split at h
    · split at h
      · rename_i i hi
        split at h
        · rename_i e hty
          have hu := (hT _ _ hi).und
          rw [hty] at hu
          have e1 := SV.rel_one_v hx
          have e2 := SV.rel_one_v hy
          subst e1 e2
          have hrun : ∀ w, (Op.equal t (.pointer none) (.pointer none)).run P w = .ok true w := by
            intro w
            unfold Op.equal Op.maxDepth
            exact run_equalIn_ptr (d := 9999) hu
          obtain ⟨v, r, h1, h2⟩ := vcEq_run (P := P) (t := t) h hrun (fun op ho w => run_binOp_eql (by simp) (by simp) (by simp) (by simp) op ho)
          refine RdOK.of_run ⟨v, r, ?_, h2⟩
          intro w
          simp only [Sem.run_bind, run_guard_ptr hu, Result.andThen_ok, h1]
        · exact h.elim
      · exact h.elim
    · exact h.elim
  · rename_i x
    split at h
    · rename_i y
      split at h
      · rename_i b hb
        split at h
        · rename_i b' hb'
          have e1 := S1.asB_rel hb hx
          have e2 := S1.asB_rel hb' hy
          subst e1 e2
          split at h
          · rename_i i hi
            split at h
            · rename_i hty
              have hu := (hT _ _ hi).und
              rw [hty] at hu
              have hrun : ∀ w, (Op.equal t (.bool b) (.bool b')).run P w = .ok (beq2 b b') w := by
                intro w
                unfold Op.equal Op.maxDepth
                exact run_equalIn_bool' w 9999 t b b' hu
              obtain ⟨v, r, h1, h2⟩ := vcEq_run (P := P) (t := t) h hrun (fun op ho w => run_binOp_eql (by simp) (by simp) (by simp) (by simp) op ho)
              refine RdOK.of_run ⟨v, r, ?_, h2⟩
              intro w
              simp only [Sem.run_bind, run_guard_bool, Result.andThen_ok, h1]
            · exact h.elim
          · exact h.elim
        · exact h.elim
      · exact h.elim
    · exact h.elim
  · exact h.elim
end
end Go.Vc
/- The reading operations: addresses, indexes, slices, structs. -/
namespace Go.Vc
open Go Go.RowKit

section
variable {P : Program} {Γ : Tab} {w0 : W0} {w : World} {H0 : Heap} {st : St} {a : Act} {ρ : Nat → Nat} {σ : Nat → Value}
variable (hT : TabOK P Γ) (hg : Good P w0 H0 st a w ρ σ)
theorem row_form {e : TypeId} {n : Nat} {xs : List Value} {v : Value} {B sz : Nat} (h : w.ownsRow B e sz v n xs) (hn : 0 < n) : ∃ g c, v = .slice (some ⟨g, 0, none⟩) n c := by
  rcases h.2 with ⟨_, h0⟩ | ⟨g, c, cur, hv, _⟩
  · omega
  · exact ⟨g, c, hv⟩
include hT hg
theorem vcIndexAddr_sound {t : TypeId} {x : SV} {v : Value} {k : IntKind} {n : Int} (hx : x.rel ρ σ v) (hxr : ∀ d, st.noRef d → ¬ x.refs d) {K : SV → Prop} (h : vcIndexAddr Γ st t x n K) :
    RdOK P st ρ σ w (Instr.indexAt t v (.int k n)) K := by
  unfold vcIndexAddr at h
  split at h
  · exact h.elim
  · rename_i i hi
    have hu := (hT _ _ hi).und
    split at h
    · rename_i e hty
      rw [hty] at hu
      split at h
      · exact h.elim
      · rename_i j hj
        have hsz := (hT _ _ hj).run_size (P := P)
        split at h
        · rename_i A len c
          obtain ⟨⟨b, o, rfl⟩, h0, h1, h2⟩ := h
          have e1 := SV.rel_one_v hx
          subst e1
          refine ⟨.pointer (some ⟨b, o + nidx n j.size, none⟩), .one (.elt _ _), ?_, ⟨b, o, rfl, rfl⟩, fun _ _ hh => hh, h2⟩
          have h0' : 0 ≤ n := h0
          have h1' : n < (len : Int) := h1
          intro w' _
          simp [Instr.indexAt, asIntOf, run_und hu, h0', h1', hsz, add_plain, nidx]
        · rename_i o
          split at h
          · rename_i e' len xs hL
            obtain ⟨h0, h1, h2⟩ := h
            have h0' : 0 ≤ n := h0
            have h1' : n < (len : Int) := h1
            have hrow := row_of hg hL
            obtain ⟨g, c, hs⟩ := row_form hrow.row (by omega)
            have e1 : v = σ o := hx
            rw [hs] at e1
            subst e1
            refine ⟨.pointer (some ⟨g, nidx n j.size, none⟩), .one (.oelt _ _), ?_, ⟨g, len, c, hs, rfl⟩, fun d hd hh => hxr d hd hh, h2⟩
            intro w' _
            simp [Instr.indexAt, asIntOf, run_und hu, h0', h1', hsz, add_plain, nidx]
          · exact h.elim
        · rename_i o l m sz
          split at h
          · rename_i e' len xs hL
            split at h
            · rename_i hsj
              subst hsj
              obtain ⟨h0, h1, h2⟩ := h
              have h0' : 0 ≤ n := h0
              have h1' : n < (m : Int) := h1
              obtain ⟨A, nn, c, hs, hlm, e1⟩ := hx
              have hrow := row_of hg hL
              obtain ⟨A', n', c', hs', hn'⟩ : ∃ A' n' c', σ o = .slice A' n' c' ∧ n' ≤ c' ∧ (0 < n' → ∃ g, A' = some ⟨g, 0, none⟩) := by
                rcases hrow.row.2 with ⟨hv, h0⟩ | ⟨g, cap, cur, hv, _, _, hc, _⟩
                · exact ⟨_, _, _, hv, Nat.le_refl _, fun h => by omega⟩
                · exact ⟨_, _, _, hv, hc, fun _ => ⟨g, rfl⟩⟩
              rw [hs] at hs'
              simp only [Value.slice.injEq] at hs'
              obtain ⟨rfl, rfl, rfl⟩ := hs'
              obtain ⟨g, rfl⟩ := hn'.2 (by omega)
              subst e1
              have hcl : ¬ c = l := by omega
              have hsub : subA (some ⟨g, 0, none⟩) c l j.size = some ⟨g, l * j.size, none⟩ := by unfold subA; rw [if_neg hcl, Option.map_some, add_plain, Nat.zero_add]
              refine ⟨.pointer (some ⟨g, nidx (iadd (ofN l) n) j.size, none⟩), .one (.oelt _ _), ?_, ⟨g, nn, c, hs, rfl⟩, fun d hd hh => hxr d hd hh, h2⟩
              have hnx : nidx (iadd (ofN l) n) j.size = l * j.size + n.toNat * j.size := by
                unfold nidx iadd ofN
                rw [show ((l : Int) + n).toNat = l + n.toNat by omega, Nat.add_mul]
              rw [hsub, hnx]
              intro w' _
              simp [Instr.indexAt, asIntOf, run_und hu, h0', h1', hsz, add_plain]
            · exact h.elim
          · exact h.elim
        · exact h.elim
    · rename_i len e hty
      rw [hty] at hu
      split at h
      · exact h.elim
      · rename_i j hj
        have hsz := (hT _ _ hj).run_size (P := P)
        split at h
        · rename_i o
          split at h
          · rename_i t0 xs hL
            obtain ⟨h0, h1, h2⟩ := h
            have h0' : 0 ≤ n := h0
            have h1' : n < (len : Int) := h1
            have e1 : v = .pointer (some ⟨ρ o, 0, none⟩) := hx
            subst e1
            refine ⟨.pointer (some ⟨ρ o, nidx n j.size, none⟩), .one (.aelt _ _), ?_, rfl, fun d hd hh => hxr d hd hh, h2⟩
            intro w' _
            simp [Instr.indexAt, Instr.sureAddr, asIntOf, run_und hu, h0', h1', hsz, add_plain, nidx]
          · exact h.elim
        · rename_i A off
          obtain ⟨h0, h1, h2⟩ := h
          have h0' : 0 ≤ n := h0
          have h1' : n < (len : Int) := h1
          obtain ⟨b, o, rfl, rfl⟩ := hx
          refine ⟨.pointer (some ⟨b, o + nadd off (nidx n j.size), none⟩), .one (.elt _ _), ?_, ⟨b, o, rfl, rfl⟩, fun _ _ hh => hh, h2⟩
          intro w' _
          simp [Instr.indexAt, Instr.sureAddr, asIntOf, run_und hu, h0', h1', hsz, add_plain, nidx, nadd, Nat.add_assoc]
        · rename_i o off
          obtain ⟨h0, h1, h2⟩ := h
          have h0' : 0 ≤ n := h0
          have h1' : n < (len : Int) := h1
          obtain ⟨g, m, c, hs, rfl⟩ := hx
          refine ⟨.pointer (some ⟨g, nadd off (nidx n j.size), none⟩), .one (.oelt _ _), ?_, ⟨g, m, c, hs, rfl⟩, fun d hd hh => hxr d hd hh, h2⟩
          intro w' _
          simp [Instr.indexAt, Instr.sureAddr, asIntOf, run_und hu, h0', h1', hsz, add_plain, nidx, nadd]
        · rename_i o off
          obtain ⟨h0, h1, h2⟩ := h
          have h0' : 0 ≤ n := h0
          have h1' : n < (len : Int) := h1
          have e1 : v = .pointer (some ⟨ρ o, off, none⟩) := hx
          subst e1
          refine ⟨.pointer (some ⟨ρ o, nadd off (nidx n j.size), none⟩), .one (.aelt _ _), ?_, rfl, fun d hd hh => hxr d hd hh, h2⟩
          intro w' _
          simp [Instr.indexAt, Instr.sureAddr, asIntOf, run_und hu, h0', h1', hsz, add_plain, nidx, nadd]
        · exact h.elim
    · exact h.elim
omit hT hg in
theorem vcIdxAll_get {n : Int} {K : Nat → Prop} : ∀ {c m : Nat}, vcIdxAll n K c m → ∀ k, m ≤ k → k < m + c → n = (k : Int) → K k
  | 0, m, _, k, h1, h2, _ => by omega
  | c + 1, m, h, k, h1, h2, e => by
    by_cases hk : m = k
    · subst hk; exact h.1 e
    · exact vcIdxAll_get h.2 k (by omega) (by omega) e
omit hT hg in
theorem vcIndexS_index {t : TypeId} {x : SV} {n : Int} {K : SV → Prop} (h : vcIndexS Γ t x n K) : vcIndex Γ t x n K := by
  unfold vcIndexS at h
  split at h
  · exact h.elim
  · rename_i i hi
    split at h
    · rename_i len e hty
      split at h
      · rename_i cs
        split at h
        · exact h.elim
        · rename_i j hj
          obtain ⟨h0, h1, h2⟩ := h
          have h0' : 0 ≤ n := h0
          have h1' : n < (len : Int) := h1
          have h3 := vcIdxAll_get h2 n.toNat (by omega) (by omega) (by omega)
          split at h3
          · rename_i hle
            unfold vcIndex
            simp only [hi, hty, hj]
            rw [if_pos ⟨h0', h1', hle⟩]
            exact h3
          · exact h3.elim
      · exact h.elim
    · exact h
omit hg in
theorem vcIndex_sound {t : TypeId} {x : SV} {v : Value} {k : IntKind} {n : Int} (hx : x.rel ρ σ v) (hxr : ∀ d, st.noRef d → ¬ x.refs d) {K : SV → Prop} (h : vcIndex Γ t x n K) :
    RdOK P st ρ σ w (Instr.index t v (.int k n)) K := by
  unfold vcIndex at h
  split at h
  · exact h.elim
  · rename_i i hi
    have hu := (hT _ _ hi).und
    split at h
    · rename_i hty
      rw [hty] at hu
      split at h
      · rename_i s
        obtain ⟨h0, h1, h2⟩ := h
        have h0' : 0 ≤ n := h0
        have h1' : n < (s.size : Int) := h1
        have e1 := SV.rel_one_v hx
        subst e1
        have hlt : n.toNat < s.size := by omega
        have hget : s[n.toNat]? = some (s.data.toList.getD n.toNat 0) := by
          rw [getElem?_pos s n.toNat hlt]
          congr 1
          rw [List.getD_eq_getElem?_getD, List.getElem?_eq_getElem (by simpa using hlt)]
          rfl
        refine ⟨.int .u8 (byteAt s n), .one (.v _), ?_, rfl, fun _ _ hh => hh, h2⟩
        intro w' _
        simp only [Instr.index, asIntOf, run_und hu, Sem.run_bind, Sem.run_pure, Result.andThen_ok, h0', if_true, hget]
        rfl
      · exact h.elim
    · rename_i len e hty
      rw [hty] at hu
      split at h
      · rename_i cs
        split at h
        · exact h.elim
        · rename_i j hj
          have hTj := hT _ _ hj
          split at h
          · rename_i hc
            obtain ⟨h0, h1, h2⟩ := hc
            obtain ⟨ys, rfl, hr⟩ := hx
            have hr' := relL_take j.size (relL_drop (n.toNat * j.size) hr)
            have hl : ((ys.toList.drop (n.toNat * j.size)).take j.size).length = j.size := by
              have := relL_length hr
              simp only [List.length_take, List.length_drop]; omega
            obtain ⟨r, q1, q2, q3, q4⟩ := vcMk_sound h hr'
            refine ⟨_, r, ?_, q1, fun d hd hh => ?_, q4⟩
            · intro w' _
              have hrun : (part e ys (n.toNat * j.size)).run P w' = .ok (valMk j.agg ((ys.toList.drop (n.toNat * j.size)).take j.size)) w' := by
                unfold part valMk
                simp only [Sem.run_bind, hTj.agg w', Result.andThen_ok]
                cases hgg : j.agg
                · simp only [Bool.false_eq_true, if_false]
                  rcases q2 with q2 | q2
                  · rw [hgg] at q2; simp at q2
                  · have hlt : n.toNat * j.size < ys.size := by
                      have := relL_length hr
                      simp only [Array.length_toList] at this
                      rw [hl] at q2
                      omega
                    rw [Array.getElem?_eq_getElem hlt]
                    simp only [Sem.run_pure]
                    congr 1
                    rw [List.drop_eq_getElem_cons (by simpa using hlt)]
                    rw [hl] at q2
                    obtain ⟨m, hm⟩ : ∃ m, j.size = m := ⟨_, rfl⟩
                    rw [hm] at q2
                    subst q2
                    generalize ys.toList.drop (n.toNat * j.size + 1) = tl
                    generalize hx0 : ys[n.toNat * j.size] = x0
                    have : ys.toList[n.toNat * j.size]'(by simpa using hlt) = x0 := by rw [← hx0]; simp
                    rw [this, hm]
                    rfl
                · simp only [if_true, Sem.run_bind, hTj.run_size w', Result.andThen_ok, Sem.run_pure]
                  congr 2
                  apply Array.ext'
                  simp only [Array.toList_extract]
                  rw [List.extract_eq_take_drop]
                  congr 1
                  omega
              simp [Instr.index, asIntOf, run_und hu, h0, h1, hTj.run_size w', hrun]
            · obtain ⟨c, hc, hcr⟩ := q3 d hh
              exact hxr d hd ⟨c, List.mem_of_mem_drop (List.mem_of_mem_take hc), hcr⟩
          · exact h.elim
      · exact h.elim
    · exact h.elim
end
end Go.Vc
/- The reading operations: fields, slices, structs laid out. -/
namespace Go.Vc
open Go Go.RowKit

theorem foldl_set (off : Nat) : ∀ (l : List Value) (s : Nat) (cells : Array Value), off + s + l.length ≤ cells.size →
    ((l.zipIdx s).foldl (fun cs x => cs.setIfInBounds (off + x.2) x.1) cells).toList = cells.toList.take (off + s) ++ l ++ cells.toList.drop (off + s + l.length) := by
  intro l
  induction l with
  | nil => intro s cells h; simp
  | cons x l ih =>
    intro s cells h
    simp only [List.length_cons] at h
    simp only [List.zipIdx_cons, List.foldl_cons]
    rw [ih (s + 1) _ (by simp; omega)]
    have hset : (cells.setIfInBounds (off + s) x).toList = cells.toList.take (off + s) ++ x :: cells.toList.drop (off + s + 1) := by
      rw [Array.toList_setIfInBounds, List.set_eq_take_append_cons_drop, if_pos (by simp; omega)]
    rw [hset]
    have hl : (cells.toList.take (off + s)).length = off + s := by simp; omega
    have e1 : (cells.toList.take (off + s) ++ x :: cells.toList.drop (off + s + 1)).take (off + (s + 1)) = cells.toList.take (off + s) ++ [x] := by
      rw [List.take_append, hl, List.take_of_length_le (by omega)]
      rw [show off + (s + 1) - (off + s) = 1 from by omega]
      rfl
    have e2 : (cells.toList.take (off + s) ++ x :: cells.toList.drop (off + s + 1)).drop (off + (s + 1) + l.length) = cells.toList.drop (off + s + (l.length + 1)) := by
      rw [List.drop_append, hl, List.drop_eq_nil_of_le (by omega)]
      rw [show off + (s + 1) + l.length - (off + s) = l.length + 1 from by omega, List.drop_succ_cons, List.drop_drop]
      simp only [List.nil_append]
      congr 1; omega
    rw [e1, e2]
    simp
theorem foldl_setA (off : Nat) (vs : Array Value) (cells : Array Value) (h : off + vs.size ≤ cells.size) :
    (vs.zipIdx.foldl (fun cs (x : Value × Nat) => cs.setIfInBounds (off + x.2) x.1) cells).toList = cells.toList.take off ++ vs.toList ++ cells.toList.drop (off + vs.size) := by
  rw [← Array.foldl_toList, Array.toList_zipIdx]
  have := foldl_set off vs.toList 0 cells (by simpa using h)
  simpa using this

section
variable {P : Program} {Γ : Tab} {w0 : W0} {w : World} {H0 : Heap} {st : St} {a : Act} {ρ : Nat → Nat} {σ : Nat → Value}
variable (hT : TabOK P Γ) (hg : Good P w0 H0 st a w ρ σ)
include hT in
theorem vcField_some {t : TypeId} {f off : Nat} {j : TyI} (h : vcField Γ t f = some (off, j)) :
    ∃ (F : Array Field) (fl : Field), P.underlying t = some (.struct F) ∧ F[f]? = some fl ∧ fl.offset = off ∧ Γ fl.type = some j := by
  unfold vcField at h
  split at h
  · rename_i i hi
    have hu := (hT _ _ hi).und
    split at h
    · rename_i fs hty
      rw [hty] at hu
      obtain ⟨F, hF, hmap, _⟩ := hu
      split at h
      · rename_i off' ft hf
        split at h
        · rename_i j' hj
          simp at h
          obtain ⟨rfl, rfl⟩ := h
          rw [← hmap, List.getElem?_map] at hf
          cases hfl : F.toList[f]? with
          | none => rw [hfl] at hf; simp at hf
          | some fl =>
            rw [hfl] at hf
            simp at hf
            obtain ⟨rfl, rfl⟩ := hf
            exact ⟨F, fl, hF, by simpa using hfl, rfl, hj⟩
        · simp at h
      · simp at h
    · simp at h
  · simp at h
theorem one1_rel (hsl : ∀ i, ∃ A n c, σ i = .slice A n c) {c : S1} {y : Value} (h : c.one1 = true) (hr : c.rel ρ σ y) : y.oneCell' = true := by
  cases c <;> simp only [S1.one1] at h <;> simp only [S1.rel] at hr <;> try (simp at h; done)
  case v x => cases x <;> simp at h <;> subst hr <;> rfl
  case own i => obtain ⟨A, n, c, e⟩ := hsl i; subst hr; rw [e]; rfl
  case oelt i j => obtain ⟨g, n, c, _, e⟩ := hr; subst e; rfl
  case elt A j => obtain ⟨b, o, _, e⟩ := hr; subst e; rfl
  case sub i l m sz => obtain ⟨A, n, c, _, _, e⟩ := hr; subst e; rfl
  case pin i s => obtain ⟨A, n, c, e⟩ := hsl i; rw [hr.1, e]; rfl
  case me i bk => rw [hr.1]; rfl
  all_goals (subst hr; rfl)
theorem cells_rel (hsl : ∀ i, ∃ A n c, σ i = .slice A n c) {x : SV} {cs : List S1} {v : Value} (h : x.cells = some cs) (hx : x.rel ρ σ v) : relL ρ σ cs v.cells.toList := by
  cases x <;> simp only [SV.cells] at h
  case one c =>
    split at h
    · rename_i h1
      simp at h; subst h
      have := one1_rel hsl h1 hx
      cases v <;> simp only [Value.cells] <;> first | exact ⟨hx, trivial⟩ | (simp [Value.oneCell'] at this)
    · simp at h
  case agg cs =>
    simp at h; subst h
    obtain ⟨ys, rfl, hr⟩ := hx
    exact hr
  all_goals simp at h
theorem cells_refs {x : SV} {cs : List S1} {d : Nat} (h : x.cells = some cs) (hr : refsL d cs) : x.refs d := by
  cases x <;> simp only [SV.cells] at h
  case one c =>
    split at h
    · simp at h; subst h
      obtain ⟨c', hc, hr⟩ := hr
      simp at hc; subst hc
      exact hr
    · simp at h
  case agg cs => simp at h; subst h; exact hr
  all_goals simp at h
include hg in
theorem bound_run {o : Option Operand} {d l : Int} (h : bound st o d = some l) : (o = none ∧ l = d) ∨ ∃ x k, o = some x ∧ a.eval x = .int k l := by
  unfold bound at h
  split at h
  · rename_i x
    split at h
    · rename_i k n he
      simp at h; subst h
      have := ev_rel hg he
      exact .inr ⟨x, k, rfl, this⟩
    · simp at h
  · simp at h
    exact .inl ⟨rfl, h.symm⟩
theorem run_sliceBound {k : IntKind} {l : Int} {y : Nat} {c : BoundsCode} (h0 : 0 ≤ l) (h1 : l ≤ y) : (Instr.sliceBound (.int k l) y c).run P w = .ok l.toNat w := by
  simp [Instr.sliceBound, asIntOf, h0, h1]
theorem run_sliceBounds {b : Bool} {len cap : Nat} {lo hi : Option Value} {l h : Int} (hlo : (lo = none ∧ l = 0) ∨ ∃ k, lo = some (.int k l)) (hhi : (hi = none ∧ h = len) ∨ ∃ k, hi = some (.int k h))
    (h0 : 0 ≤ l) (h1 : l ≤ h) (h2 : h ≤ cap) : (Instr.sliceBounds b len cap lo hi none).run P w = .ok (l.toNat, h.toNat, cap) w := by
  rcases hhi with ⟨rfl, rfl⟩ | ⟨k, rfl⟩ <;> rcases hlo with ⟨rfl, rfl⟩ | ⟨k', rfl⟩
  · simp [Instr.sliceBounds]
  · simp only [Instr.sliceBounds, Sem.run_bind, Sem.run_pure, Result.andThen_ok]
    rw [run_sliceBound h0 h1]; simp
  · simp only [Instr.sliceBounds, Sem.run_bind, Sem.run_pure, Result.andThen_ok]
    rw [run_sliceBound (by omega) h2]; simp
  · simp only [Instr.sliceBounds, Sem.run_bind, Sem.run_pure, Result.andThen_ok]
    rw [run_sliceBound (by omega) h2]
    simp only [Result.andThen_ok]
    rw [run_sliceBound h0 (by omega)]; simp
include hT hg
theorem vcSlice_sound {t : TypeId} {x : SV} {v : Value} {lo hi : Option Operand} (hx : x.rel ρ σ v) (hxr : ∀ d, st.noRef d → ¬ x.refs d) {K : SV → Prop} (h : vcSlice Γ st t x lo hi K) :
    RdOK P st ρ σ w (Instr.sliceAt t v (lo.map a.eval) (hi.map a.eval) none) K := by
  have hb : ∀ {o : Option Operand} {d l : Int}, bound st o d = some l → (o.map a.eval = none ∧ l = d) ∨ ∃ k, o.map a.eval = some (.int k l) := by
    intro o d l h'
    rcases bound_run hg h' with ⟨rfl, h2⟩ | ⟨x, k, rfl, h2⟩
    · exact .inl ⟨rfl, h2⟩
    · exact .inr ⟨k, by rw [Option.map_some, h2]⟩
  unfold vcSlice at h
  split at h
  · exact h.elim
  · rename_i i hi'
    have hu := (hT _ _ hi').und
    split at h
    · rename_i e hty
      rw [hty] at hu
      split at h
      · exact h.elim
      · rename_i j hj
        have hsz := (hT _ _ hj).run_size (P := P)
        split at h
        · rename_i A n c
          split at h
          · rename_i l hh hl hhi
            obtain ⟨h0, h1, h2, h3⟩ := h
            have e1 := SV.rel_one_v hx
            subst e1
            have hbs := fun w => run_sliceBounds (P := P) (w := w) (b := true) (len := n) (cap := c) (hb hl) (hb hhi) h0 h1 h2
            refine ⟨.slice (subA A c l.toNat j.size) (hh.toNat - l.toNat) (c - l.toNat), .one (.v _), ?_, ?_, fun _ _ hh => ?_, h3 _ rfl⟩
            · intro w' _
              simp only [Instr.sliceAt, Instr.slice, Sem.run_bind, run_und hu, Result.andThen_ok, hbs, hsz, Sem.run_pure]
              rfl
            · rfl
            · exact hh
          · exact h.elim
        · rename_i o
          split at h
          · rename_i e' n xs hL
            split at h
            · rename_i l hh hl hhi
              obtain ⟨h0, h1, h2, h3⟩ := h
              have h0' : 0 ≤ l := h0
              have h1' : l ≤ hh := h1
              have h2' : hh ≤ (n : Int) := h2
              obtain ⟨A, c, hv, hnc⟩ : ∃ A c, σ o = .slice A n c ∧ n ≤ c := by
                rcases (row_of hg hL).row.2 with ⟨hv, h0⟩ | ⟨g, c, cur, hv, _, _, hnc, _⟩
                · subst h0; exact ⟨_, _, hv, Nat.le_refl _⟩
                · exact ⟨_, _, hv, hnc⟩
              have e1 : v = σ o := hx
              rw [hv] at e1
              subst e1
              have hbs := fun w => run_sliceBounds (P := P) (w := w) (b := true) (len := n) (cap := c) (hb hl) (hb hhi) h0' h1' (by omega)
              have hlow : lowN lo l = l.toNat := by
                cases lo with
                | none => simp [bound] at hl; subst hl; rfl
                | some _ => rfl
              rw [hlow] at h3
              refine ⟨.slice (subA A c l.toNat j.size) (hh.toNat - l.toNat) (c - l.toNat), .one (.sub _ _ _ _), ?_, ⟨A, n, c, hv, by show l.toNat + (hh.toNat - l.toNat) ≤ n; omega, rfl⟩, fun d hd hr => ?_, h3⟩
              · intro w' _
                simp only [Instr.sliceAt, Instr.slice, Sem.run_bind, run_und hu, Result.andThen_ok, hbs, hsz, Sem.run_pure]
                rfl
              · exact hxr d hd hr
            · exact h.elim
          · exact h.elim
        · exact h.elim
    · rename_i hty
      rw [hty] at hu
      split at h
      · rename_i s
        split at h
        · rename_i l hh hl hhi
          obtain ⟨h0, h1, h2, h3⟩ := h
          have e1 := SV.rel_one_v hx
          subst e1
          have hbs := fun w => run_sliceBounds (P := P) (w := w) (b := false) (len := s.size) (cap := s.size) (hb hl) (hb hhi) h0 h1 h2
          refine ⟨.string (s.extract l.toNat hh.toNat), .one (.v _), ?_, ?_, fun _ _ hh => ?_, h3⟩
          · intro w' _
            simp [Instr.sliceAt, Instr.slice, run_und hu, hbs]
          · rfl
          · exact hh
        · exact h.elim
      · exact h.elim
    · exact h.elim
/- 'fill' on the machine's side -/
theorem lay_sound {pl : Nat → Option (Nat × Nat)} {place : Nat → Option (Nat × Nat)} (hpl : ∀ f p, pl f = some p → place f = some p) :
    ∀ (ps : List (Nat × Operand)) (cs : List S1) (ys : Array Value) (out : List S1), lay st pl ps cs = some out → relL ρ σ cs ys.toList → (∀ d, st.noRef d → ¬ refsL d cs) →
      ∃ zs, Instr.fill place ys (ps.map fun p => (p.1, a.eval p.2)) = some zs ∧ relL ρ σ out zs.toList ∧ (∀ d, st.noRef d → ¬ refsL d out) ∧ zs.size = ys.size := by
  intro ps
  induction ps with
  | nil =>
    intro cs ys out h hr hn
    simp only [lay, Option.some.injEq] at h
    subst h
    exact ⟨ys, rfl, hr, hn, rfl⟩
  | cons p ps ih =>
    intro cs ys out h hr hn
    obtain ⟨f, x⟩ := p
    simp only [lay] at h
    split at h
    · rename_i off sz hp
      split at h
      · rename_i sv hev
        split at h
        · rename_i ds hds
          split at h
          · rename_i hc
            obtain ⟨hsz, hle⟩ := hc
            have hrel := ev_rel hg hev
            have hrl := cells_rel hg.sl hds hrel
            have hlen := relL_length hrl
            have hlen2 := relL_length hr
            simp only [Array.length_toList] at hlen hlen2
            have hfit : off + (a.eval x).cells.size ≤ ys.size := by omega
            have hfold := foldl_setA off (a.eval x).cells ys hfit
            obtain ⟨zs, h1, h2, h3, h4⟩ := ih _ (((a.eval x).cells.zipIdx.foldl (fun cs (x : Value × Nat) => cs.setIfInBounds (off + x.2) x.1) ys)) out h
              (by
                rw [hfold, ← hlen]
                exact relL_append (relL_append (relL_take _ hr) hrl) (relL_drop _ hr))
              (by
                intro d hd hh
                obtain ⟨c, hc, hcr⟩ := hh
                rcases List.mem_append.1 hc with hc | hc
                · rcases List.mem_append.1 hc with hc | hc
                  · exact hn d hd ⟨c, List.mem_of_mem_take hc, hcr⟩
                  · exact ev_refs hev hd (cells_refs hds ⟨c, hc, hcr⟩)
                · exact hn d hd ⟨c, List.mem_of_mem_drop hc, hcr⟩)
            refine ⟨zs, ?_, h2, h3, ?_⟩
            · simp only [List.map_cons, Instr.fill, hpl _ _ hp]
              rw [if_neg]
              · exact h1
              · simp only [ne_eq, Bool.or_eq_true, decide_eq_true_eq, not_or, Decidable.not_not]
                constructor
                · omega
                · omega
            · rw [h4]
              have : ∀ (l : List (Value × Nat)) (ys : Array Value), (l.foldl (fun cs (x : Value × Nat) => cs.setIfInBounds (off + x.2) x.1) ys).size = ys.size := by
                intro l
                induction l with
                | nil => intro ys; rfl
                | cons x l ih => intro ys; rw [List.foldl_cons, ih]; simp
              rw [← Array.foldl_toList, this]
          · simp at h
        · simp at h
      · simp at h
    · simp at h
end
end Go.Vc
/- The reading operations: the theorem. -/
namespace Go.Vc
open Go Go.RowKit

section
variable {P : Program} {Γ : Tab} {w0 : W0} {w : World} {H0 : Heap} {st : St} {a : Act} {ρ : Nat → Nat} {σ : Nat → Value}
variable (hT : TabOK P Γ) (hg : Good P w0 H0 st a w ρ σ)
def RdOp (P : Program) (st : St) (a : Act) (ρ : Nat → Nat) (σ : Nat → Value) (w : World) (o : Oper) (K : SV → Prop) : Prop :=
  ∃ v r, (∀ w', SameFor st ρ σ w w' → (execOp a.eval o).run P w' = .ok (.value v) w') ∧ SV.rel ρ σ r v ∧ (∀ d, st.noRef d → ¬ r.refs d) ∧ K r
theorem RdOp.of {o : Oper} {m : Sem Value} {K : SV → Prop} (he : execOp a.eval o = (do pure (.value (← m)))) (h : RdOK P st ρ σ w m K) : RdOp P st a ρ σ w o K := by
  obtain ⟨v, r, h1, h2⟩ := h
  exact ⟨v, r, fun w' hw' => by rw [he]; simp [h1 w' hw'], h2⟩
theorem evs_refs {xs : List Operand} {rs : List SV} (h : evs st xs = some rs) {d : Nat} (hn : st.noRef d) : ∀ r ∈ rs, ¬ r.refs d := by
  induction xs generalizing rs with
  | nil => simp [evs] at h; subst h; simp
  | cons x xs ih =>
    simp only [evs] at h
    split at h
    · rename_i r hr
      split at h
      · rename_i rs' hrs
        simp at h; subst h
        intro r' hr'
        rcases List.mem_cons.1 hr' with rfl | hr'
        · exact ev_refs hr hn
        · exact ih hrs _ hr'
      · simp at h
    · simp at h
theorem ones_rel {f : Operand → Value} : ∀ {rs : List SV} {cs : List S1} {xs : List Operand}, ones rs = some cs → rs.length = xs.length →
    (∀ (k : Nat) (r : SV) (x : Operand), rs[k]? = some r → xs[k]? = some x → r.rel ρ σ (f x)) → relL ρ σ cs (xs.map f)
  | [], cs, [], h, _, _ => by simp [ones] at h; subst h; trivial
  | r :: rs, cs, x :: xs, h, hl, hk => by
    cases r <;> simp only [ones] at h <;> try (simp at h; done)
    rename_i c
    split at h
    · rename_i cs' hcs
      simp at h; subst h
      exact ⟨hk 0 _ _ rfl rfl, ones_rel hcs (by simpa using hl) fun k r x h1 h2 => hk (k + 1) r x (by simpa using h1) (by simpa using h2)⟩
    · simp at h
  | [], _, _ :: _, _, hl, _ => by simp at hl
  | _ :: _, _, [], _, hl, _ => by simp at hl
theorem ones_refs {rs : List SV} {cs : List S1} {d : Nat} (h : ones rs = some cs) (hr : refsL d cs) : ∃ r ∈ rs, r.refs d := by
  induction rs generalizing cs with
  | nil => simp [ones] at h; subst h; obtain ⟨c, hc, _⟩ := hr; simp at hc
  | cons r rs ih =>
    cases r <;> simp only [ones] at h <;> try (simp at h; done)
    rename_i c
    split at h
    · rename_i cs' hcs
      simp at h; subst h
      obtain ⟨c', hc, hcr⟩ := hr
      rcases List.mem_cons.1 hc with rfl | hc
      · exact ⟨.one c', by simp, hcr⟩
      · obtain ⟨r, hr, hrr⟩ := ih hcs ⟨c', hc, hcr⟩
        exact ⟨r, by simp [hr], hrr⟩
    · simp at h
include hT hg
theorem vcRd_sound {o : Oper} {K : SV → Prop} (h : vcRd Γ st o.op K) : RdOp P st a ρ σ w o K := by
  obtain ⟨dst, op, ty, pos, after, guard⟩ := o
  simp only at h
  unfold vcRd at h
  split at h
  -- move
  · rename_i x
    split at h
    · rename_i r hr
      exact ⟨_, r, fun _ _ => rfl, ev_rel hg hr, fun d hd => ev_refs hr hd, h⟩
    · exact h.elim
  -- assign
  · rename_i x
    split at h
    · rename_i r hr
      exact ⟨_, r, fun _ _ => rfl, ev_rel hg hr, fun d hd => ev_refs hr hd, h⟩
    · exact h.elim
  -- pick
  · rename_i c x y
    split at h
    · rename_i hc
      have e : a.eval c = .bool true := ev_rel hg hc
      split at h
      · rename_i r hr
        exact ⟨_, r, fun _ _ => by simp [execOp, e, asBool], ev_rel hg hr, fun d hd => ev_refs hr hd, h⟩
      · exact h.elim
    · rename_i hc
      have e : a.eval c = .bool false := ev_rel hg hc
      split at h
      · rename_i r hr
        exact ⟨_, r, fun _ _ => by simp [execOp, e, asBool], ev_rel hg hr, fun d hd => ev_refs hr hd, h⟩
      · exact h.elim
    · exact h.elim
  -- load
  · rename_i t x
    split at h
    · rename_i r hr
      exact RdOp.of rfl (vcLoad_sound hT hg (ev_rel hg hr) h)
    · exact h.elim
  -- fieldAddr
  · rename_i t x f
    split at h
    · rename_i c hc
      split at h
      · rename_i off j hf
        obtain ⟨F, fl, hF, hfl, rfl, hj⟩ := vcField_some hT hf
        have hsz := (hT _ _ hj).run_size (P := P)
        split at h
        · exact h.elim
        · rename_i m hm
          have hne : j.size ≠ 0 := by omega
          have key : ∀ b q, a.eval x = .pointer (some ⟨b, q, none⟩) → ∀ w', SameFor st ρ σ w w' → (Instr.fieldAt t (a.eval x) f).run P w' = .ok (.pointer (some ⟨b, q + fl.offset, none⟩)) w' := by
            intro b q e w' _
            simp [Instr.fieldAt, Instr.sureAddr, fieldPlace, run_und hF, hfl, e, hsz, hne, add_plain]
          have hrel := ev_rel hg hc
          have hrf := fun d (hd : st.noRef d) => ev_refs hc hd
          split at h
          · rename_i i p
            exact RdOp.of rfl ⟨_, .one (.loc _ _), key _ _ hrel, rfl, fun d hd hh => hrf d hd hh, h⟩
          · rename_i A p
            obtain ⟨b, q, rfl, e⟩ := hrel
            refine RdOp.of rfl ⟨_, .one (.elt _ _), key _ _ e, ⟨b, q, rfl, ?_⟩, fun _ _ hh => hh, h⟩
            simp only [nadd, Nat.add_assoc]
          · rename_i i p
            obtain ⟨g, n, c, hs, e⟩ := hrel
            exact RdOp.of rfl ⟨_, .one (.oelt _ _), key _ _ e, ⟨g, n, c, hs, rfl⟩, fun d hd hh => hrf d hd hh, h⟩
          · rename_i i p
            exact RdOp.of rfl ⟨_, .one (.aelt _ _), key _ _ hrel, rfl, fun d hd hh => hrf d hd hh, h⟩
          · exact h.elim
      · exact h.elim
    · exact h.elim
  -- field
  · rename_i t x f
    split at h
    · rename_i cs hc
      split at h
      · rename_i off j hf
        obtain ⟨F, fl, hF, hfl, rfl, hj⟩ := vcField_some hT hf
        have hTj := hT _ _ hj
        split at h
        · rename_i hle
          obtain ⟨ys, e, hr⟩ := ev_rel hg hc
          have hr' := relL_take j.size (relL_drop fl.offset hr)
          have hl : ((ys.toList.drop fl.offset).take j.size).length = j.size := by
            have := relL_length hr
            simp only [List.length_take, List.length_drop]; omega
          obtain ⟨r, q1, q2, q3, q4⟩ := vcMk_sound h hr'
          have hrun : ∀ w, (part fl.type ys fl.offset).run P w = .ok (valMk j.agg ((ys.toList.drop fl.offset).take j.size)) w := by
            intro w
            unfold part valMk
            simp only [Sem.run_bind, hTj.agg w, Result.andThen_ok]
            cases hgg : j.agg
            · simp only [Bool.false_eq_true, if_false]
              rcases q2 with q2 | q2
              · rw [hgg] at q2; simp at q2
              · have hlt : fl.offset < ys.size := by
                  have := relL_length hr
                  simp only [Array.length_toList] at this
                  rw [hl] at q2
                  omega
                rw [Array.getElem?_eq_getElem hlt]
                simp only [Sem.run_pure]
                congr 1
                rw [List.drop_eq_getElem_cons (by simpa using hlt)]
                rw [hl] at q2
                rw [q2]
                simp
            · simp only [if_true, Sem.run_bind, hTj.run_size w, Result.andThen_ok, Sem.run_pure]
              congr 2
              apply Array.ext'
              simp only [Array.toList_extract]
              rw [List.extract_eq_take_drop]
              congr 1
              omega
          refine RdOp.of rfl ⟨_, r, ?_, q1, fun d hd hh => ?_, q4⟩
          · intro w' _
            simp [Instr.field, run_und hF, hfl, e, asAgg, hrun]
          · obtain ⟨c, hc', hcr⟩ := q3 d hh
            exact ev_refs hc hd ⟨c, List.mem_of_mem_drop (List.mem_of_mem_take hc'), hcr⟩
        · exact h.elim
      · exact h.elim
    · exact h.elim
  -- indexAddr
  · rename_i t x ix
    split at h
    · rename_i r hr
      split at h
      · rename_i k n hn
        have e : a.eval ix = .int k n := ev_rel hg hn
        refine RdOp.of (m := Instr.indexAt t (a.eval x) (a.eval ix)) rfl ?_
        rw [e]
        exact vcIndexAddr_sound hT hg (ev_rel hg hr) (fun d hd => ev_refs hr hd) h
      · exact h.elim
    · exact h.elim
  -- index
  · rename_i t x ix
    split at h
    · rename_i r hr
      split at h
      · rename_i k n hn
        have e : a.eval ix = .int k n := ev_rel hg hn
        refine RdOp.of (m := Instr.index t (a.eval x) (a.eval ix)) rfl ?_
        rw [e]
        split at h
        · exact vcIndex_sound hT (ev_rel hg hr) (fun d hd => ev_refs hr hd) h
        · exact vcIndex_sound hT (ev_rel hg hr) (fun d hd => ev_refs hr hd) (vcIndexS_index h)
      · exact h.elim
    · exact h.elim
  -- binOp
  · rename_i op t x y yt
    split at h
    · rename_i r hr
      split at h
      · rename_i r' hr'
        exact RdOp.of rfl (vcBin_sound hT (ev_rel hg hr) (ev_rel hg hr') h)
      · exact h.elim
    · exact h.elim
  -- not
  · rename_i t x
    split at h
    · rename_i hx
      have e : a.eval x = .bool true := ev_rel hg hx
      exact RdOp.of rfl ⟨.bool false, .one .ff, fun _ _ => by simp [Op.unary, e], rfl, fun _ _ hh => hh, h⟩
    · rename_i hx
      have e : a.eval x = .bool false := ev_rel hg hx
      exact RdOp.of rfl ⟨.bool true, .one .tt, fun _ _ => by simp [Op.unary, e], rfl, fun _ _ hh => hh, h⟩
    · rename_i c hc _ hx
      split at h
      · rename_i b hb
        have e : a.eval x = .bool b := S1.asB_rel hb (ev_rel hg hx)
        exact RdOp.of rfl ⟨.bool (!b), .one (.b (bnt b)), fun _ _ => by simp [Op.unary, e], rfl, fun _ _ hh => hh, h⟩
      · exact h.elim
    · exact h.elim
  -- neg
  · rename_i t x
    split at h
    · rename_i k n hx
      have e : a.eval x = .int k n := ev_rel hg hx
      refine RdOp.of rfl ⟨.int k (ineg n), .one (.v _), ?_, rfl, fun _ _ hh => hh, h.2⟩
      intro w' _
      have hw := wrap_in h.1
      simp only [ineg] at hw
      simp [Op.unary, e, Op.intArith, ineg, hw]
    · exact h.elim
  -- convert
  · rename_i t dt x
    split at h
    · rename_i i0 hi0
      split at h
      · rename_i k0 hty0
        have hu0 := (hT _ _ hi0).und
        rw [hty0] at hu0
        split at h
        · rename_i i hi
          split at h
          · rename_i k n hx
            have e : a.eval x = .int k n := ev_rel hg hx
            split at h
            · rename_i k' hty
              have hu := (hT _ _ hi).und
              rw [hty] at hu
              obtain ⟨m, hm, hK⟩ := h
              refine RdOp.of rfl ⟨.int k' m, .one (.v _), ?_, rfl, fun _ _ hh => hh, hK⟩
              intro w' _
              simp [convert, run_und hu0, run_und hu, e, Conv.intToInt, hm]
            · exact h.elim
          · exact h.elim
        · exact h.elim
      · exact h.elim
    · exact h.elim
  -- extract
  · rename_i x i
    split at h
    · rename_i cs hc
      split at h
      · rename_i g c hgc
        obtain ⟨ys, e, hr⟩ := ev_rel hg hc
        obtain ⟨y, hy, hrc⟩ : ∃ y, ys.toList[i]? = some y ∧ ∃ zs, relL ρ σ c zs ∧ (g = true → y = .agg ⟨zs⟩) ∧ (g = false → zs = [y]) := by
          have : ∀ (cs : List (Bool × List S1)) (ys : List Value) (i : Nat), relT ρ σ cs ys → cs[i]? = some (g, c) → ∃ y, ys[i]? = some y ∧ ∃ zs, relL ρ σ c zs ∧ (g = true → y = .agg ⟨zs⟩) ∧ (g = false → zs = [y]) := by
            intro cs
            induction cs with
            | nil => intro ys i _ h; simp at h
            | cons q cs ih =>
              intro ys i hr h
              obtain ⟨gq, cq⟩ := q
              cases ys with
              | nil => cases gq <;> exact hr.elim
              | cons y ys =>
                cases i with
                | zero =>
                  simp at h
                  obtain ⟨rfl, rfl⟩ := h
                  refine ⟨y, rfl, ?_⟩
                  cases gq
                  · exact ⟨[y], hr.1, by simp, fun _ => rfl⟩
                  · obtain ⟨⟨zs, rfl, hz⟩, _⟩ := hr
                    exact ⟨zs.toList, hz, fun _ => rfl, by simp⟩
                | succ i =>
                  have hr2 : relT ρ σ cs ys := by cases gq <;> exact hr.2
                  obtain ⟨z, hz, hrest⟩ := ih ys i hr2 (by simpa using h)
                  exact ⟨z, by simpa using hz, hrest⟩
          exact this cs ys.toList i hr hgc
        obtain ⟨zs, hz, h1, h2⟩ := hrc
        obtain ⟨r, q1, q2, q3, q4⟩ := vcMk_sound h hz
        have hval : valMk g zs = y := by
          cases g
          · rw [h2 rfl]; rfl
          · rw [h1 rfl]; rfl
        have hy' : ys[i]? = some y := by simpa using hy
        refine RdOp.of rfl ⟨y, r, fun _ _ => by simp [Instr.extract, e, hy'], by rw [← hval]; exact q1, fun d hd hh => ?_, q4⟩
        exact ev_refs hc hd ⟨(g, c), List.mem_of_getElem? hgc, q3 d hh⟩
      · exact h.elim
    · exact h.elim
  -- makeFunc
  · rename_i f first cap
    split at h
    · rename_i hfirst
      split at h
      · rename_i rs hrs
        split at h
        · rename_i cs hcs
          obtain ⟨hl, hk⟩ := evs_rel hg hrs
          have hf : first = #[] := by
            apply Array.ext'
            simpa using hfirst
          subst hf
          refine RdOp.of rfl ⟨.func (.func f) #[] (cap.map a.eval), .clo f cs, fun _ _ => by simp [Instr.makeFunc], ⟨_, rfl, ?_⟩, fun d hd hh => ?_, h⟩
          · rw [Array.toList_map]
            exact ones_rel hcs hl hk
          · obtain ⟨r, hr, hrr⟩ := ones_refs hcs hh
            exact evs_refs hrs hd r hr hrr
        · exact h.elim
      · exact h.elim
    · exact h.elim
  -- nilCheck
  · rename_i x
    have hrf := fun (r : SV) (hc : ev st x = some r) d (hd : st.noRef d) => ev_refs hc hd
    split at h
    · rename_i o p hc
      have e : a.eval x = .pointer (some ⟨ρ o, p, none⟩) := ev_rel hg hc
      exact ⟨_, .one (.loc o p), fun _ _ => by simp [execOp, e], rfl, fun d hd hh => hrf _ hc d hd hh, h⟩
    · rename_i A p hc
      obtain ⟨b, q, rfl, e⟩ := ev_rel hg hc
      exact ⟨_, .one (.elt _ p), fun _ _ => by simp [execOp, e], ⟨b, q, rfl, rfl⟩, fun d hd hh => hrf _ hc d hd hh, h⟩
    · rename_i o p hc
      obtain ⟨g, n, c, hs, e⟩ := ev_rel hg hc
      exact ⟨_, .one (.oelt o p), fun _ _ => by simp [execOp, e], ⟨g, n, c, hs, rfl⟩, fun d hd hh => hrf _ hc d hd hh, h⟩
    · rename_i o p hc
      have e : a.eval x = .pointer (some ⟨ρ o, p, none⟩) := ev_rel hg hc
      exact ⟨_, .one (.aelt o p), fun _ _ => by simp [execOp, e], rfl, fun d hd hh => hrf _ hc d hd hh, h⟩
    · exact h.elim
  -- slice
  · rename_i t x lo hi
    split at h
    · rename_i r hr
      exact RdOp.of rfl (vcSlice_sound hT hg (ev_rel hg hr) (fun d hd => ev_refs hr hd) h)
    · exact h.elim
  -- build
  · rename_i t parts
    split at h
    · exact h.elim
    · rename_i i hi
      have hTy := hT _ _ hi
      split at h
      · rename_i cs hcs
        split at h
        · rename_i hbo
          have hagg : i.agg = true := by
            unfold buildOK at hbo
            split at hbo
            · exact hbo
            · split at hbo
              · exact hbo
              · simp at hbo
            · simp at hbo
          obtain ⟨inf0, z, i1, i2, i3, i4, hzc⟩ := hTy.info
          have hz : ∀ w, (zeroValue t).run P w = .ok z w := fun w => by simp [zeroValue, typeInfo, i1, i4]
          rcases hTy.zagg.1 hagg with ⟨fs, hty⟩ | ⟨n, e, hty⟩
          · have hu := hTy.und
            rw [hty] at hu
            obtain ⟨F, hF, hmap, hinf⟩ := hu
            have hmapM : ∀ (l : List Field) (w : World), (∀ f ∈ l, ∃ inf, P.info? f.type = some inf) → (l.mapM (fun f => do pure (f.offset, ← sizeOf f.type) : Field → Sem (Nat × Nat))).run P w = .ok (l.map fun f => (f.offset, P.cellsOf f.type)) w := by
              intro l w
              induction l with
              | nil => intro _; simp
              | cons f l ih =>
                intro hl
                obtain ⟨inf, hinf⟩ := hl f (by simp)
                simp only [List.mapM_cons, Sem.run_bind, sizeOf, typeInfo, run_program, Result.andThen_ok, hinf, Sem.run_pure]
                have := ih (fun f hf => hl f (List.mem_cons_of_mem _ hf))
                simp only [sizeOf, typeInfo] at this
                rw [this]
                simp [Program.cellsOf, hinf]
            have hrunM : ∀ w, (F.mapM (fun f => do pure (f.offset, ← sizeOf f.type) : Field → Sem (Nat × Nat))).run P w = .ok (F.map fun f => (f.offset, P.cellsOf f.type)) w := by
              intro w
              rw [Array.mapM_eq_mapM_toList, Sem.run_map, hmapM F.toList w hinf]
              simp only [Result.andThen_ok]
              congr 1
              apply Array.ext'
              simp
            have hpl : ∀ f p, places Γ i f = some p → (fun j => (F.map fun f => (f.offset, P.cellsOf f.type))[j]?) f = some p := by
              intro f p hp
              unfold places at hp
              rw [hty] at hp
              simp only at hp
              split at hp
              · rename_i off ft hf
                split at hp
                · rename_i j hj
                  simp at hp; subst hp
                  rw [← hmap, List.getElem?_map] at hf
                  cases hfl : F.toList[f]? with
                  | none => rw [hfl] at hf; simp at hf
                  | some fl =>
                    rw [hfl] at hf
                    simp at hf
                    obtain ⟨rfl, rfl⟩ := hf
                    have hfl' : F[f]? = some fl := by simpa using hfl
                    obtain ⟨inf, _, q1, q2, _⟩ := (hT _ _ hj).info
                    simp [hfl', Program.cellsOf, q1, q2]
                · simp at hp
              · simp at hp
            obtain ⟨zs, h1, h2, h3, h4⟩ := lay_sound hT hg hpl parts.toList (i.zero.map S1.v) ⟨i.zero⟩ cs hcs (relL_v _) (fun d _ hh => refsL_v hh)
            refine RdOp.of rfl ⟨.agg zs, .agg cs, ?_, ⟨zs, rfl, h2⟩, fun d hd hh => h3 d hd hh, h⟩
            intro w' _
            have h1' : Instr.fill (fun x => (F.map fun f => (f.offset, P.cellsOf f.type))[x]?) z.cells (Array.map (fun x => (x.1, a.eval x.2)) parts).toList = some zs := by
              rw [hzc, Array.toList_map]; exact h1
            simp only [Instr.build, Sem.run_bind, hz, Result.andThen_ok, run_und hF, hrunM]
            rw [h1']
            rfl
          · have hu := hTy.und
            rw [hty] at hu
            have hj : ∃ j, Γ e = some j := by
              unfold buildOK at hbo
              rw [hty] at hbo
              simp only at hbo
              split at hbo
              · rename_i j hj; exact ⟨j, hj⟩
              · simp at hbo
            obtain ⟨j, hj⟩ := hj
            have hsz := (hT _ _ hj).run_size (P := P)
            have hpl : ∀ f p, places Γ i f = some p → (fun k => some (k * j.size, j.size)) f = some p := by
              intro f p hp
              unfold places at hp
              rw [hty] at hp
              simp only [hj] at hp
              exact hp
            obtain ⟨zs, h1, h2, h3, h4⟩ := lay_sound hT hg hpl parts.toList (i.zero.map S1.v) ⟨i.zero⟩ cs hcs (relL_v _) (fun d _ hh => refsL_v hh)
            refine RdOp.of rfl ⟨.agg zs, .agg cs, ?_, ⟨zs, rfl, h2⟩, fun d hd hh => h3 d hd hh, h⟩
            intro w' _
            have h1' : Instr.fill (fun k => some (k * j.size, j.size)) z.cells (Array.map (fun x => (x.1, a.eval x.2)) parts).toList = some zs := by
              rw [hzc, Array.toList_map]; exact h1
            simp only [Instr.build, Sem.run_bind, hz, Result.andThen_ok, run_und hu, hsz]
            rw [h1']
            rfl
        · exact h.elim
      · exact h.elim
  -- len
  · rename_i args argTypes
    split at h
    · rename_i x hx
      split at h
      · rename_i t ht
        have hargs : args = #[x] := by apply Array.ext'; simpa using hx
        have htys : argTypes = #[t] := by apply Array.ext'; simpa using ht
        subst hargs htys
        split at h
        · rename_i i hi
          have hu := (hT _ _ hi).und
          split at h
          · rename_i e hty
            rw [hty] at hu
            split at h
            · rename_i A n c hc
              have e : a.eval x = .slice A n c := ev_rel hg hc
              refine ⟨.int .i64 (ofN n), .one (.v _), ?_, rfl, fun _ _ hh => hh, h⟩
              intro w' _
              simp [execOp, resolve, invoke, builtin, Builtin.len_, run_und hu, e, goInt, ofN]
            · rename_i o hc
              split at h
              · rename_i e' n xs hL
                have hrow := row_of hg hL
                have e : a.eval x = σ o := ev_rel hg hc
                have hv : ∃ A c, σ o = .slice A n c := by
                  rcases hrow.row.2 with ⟨hv, h0⟩ | ⟨g, c, cur, hv, _⟩
                  · subst h0; exact ⟨_, _, hv⟩
                  · exact ⟨_, _, hv⟩
                obtain ⟨A, c, hv⟩ := hv
                rw [hv] at e
                refine ⟨.int .i64 (ofN n), .one (.v _), ?_, rfl, fun _ _ hh => hh, h⟩
                intro w' _
                simp [execOp, resolve, invoke, builtin, Builtin.len_, run_und hu, e, goInt, ofN]
              · exact h.elim
            · rename_i o l n sz hc
              obtain ⟨A, n0, c, hv, _, e⟩ : ∃ A n0 c, σ o = .slice A n0 c ∧ l + n ≤ n0 ∧ a.eval x = .slice (subA A c l sz) n (c - l) := ev_rel hg hc
              refine ⟨.int .i64 (ofN n), .one (.v _), ?_, rfl, fun _ _ hh => hh, h⟩
              intro w' _
              simp [execOp, resolve, invoke, builtin, Builtin.len_, run_und hu, e, goInt, ofN]
            · exact h.elim
          · rename_i hty
            rw [hty] at hu
            split at h
            · rename_i s hc
              have e : a.eval x = .string s := ev_rel hg hc
              refine ⟨.int .i64 (ofN s.size), .one (.v _), ?_, rfl, fun _ _ hh => hh, h⟩
              intro w' _
              simp [execOp, resolve, invoke, builtin, Builtin.len_, run_und hu, e, goInt, ofN]
            · exact h.elim
          · exact h.elim
        · exact h.elim
      · exact h.elim
    · exact h.elim
  -- max
  · rename_i args argTypes
    split at h
    · rename_i x y hxy
      have hargs : args = #[x, y] := by apply Array.ext'; simpa using hxy
      subst hargs
      split at h
      · rename_i k n hn
        split at h
        · rename_i k' m hm
          have e1 : a.eval x = .int k n := ev_rel hg hn
          have e2 : a.eval y = .int k' m := ev_rel hg hm
          refine ⟨.int k (max n m), .one (.v _), ?_, rfl, fun _ _ hh => hh, h⟩
          intro w' _
          have : (if m > n then m else n) = max n m := by omega
          simp [execOp, resolve, invoke, builtin, Builtin.max_, Builtin.max2, e1, e2, this]
        · exact h.elim
      · exact h.elim
    · exact h.elim
  -- min
  · rename_i args argTypes
    split at h
    · rename_i x y hxy
      have hargs : args = #[x, y] := by apply Array.ext'; simpa using hxy
      subst hargs
      split at h
      · rename_i k n hn
        split at h
        · rename_i k' m hm
          have e1 : a.eval x = .int k n := ev_rel hg hn
          have e2 : a.eval y = .int k' m := ev_rel hg hm
          refine ⟨.int k (min n m), .one (.v _), ?_, rfl, fun _ _ hh => hh, h⟩
          intro w' _
          have : (if m < n then m else n) = min n m := by omega
          simp [execOp, resolve, invoke, builtin, Builtin.min_, Builtin.min2, e1, e2, this]
        · exact h.elim
      · exact h.elim
    · exact h.elim
  · exact h.elim
end
end Go.Vc
/- How the relation between abstract states and the machine's is kept. -/
namespace Go.Vc
open Go Go.RowKit

structure Keeps (ws : List Nat) (st st' : St) : Prop where
  fl : st'.fr.length = st.fr.length
  ll : st'.L.length = st.L.length
  fr : ∀ j, j ∉ ws → st'.fr[j]? = st.fr[j]?
  ro : ∀ (i : Nat) (o : LObj), st.L[i]? = some (some (false, o)) → st'.L[i]? = some (some (false, o))
  le : Heap.le st.H st'.H
theorem Heap.le_refl (H : Heap) : Heap.le H H := fun _ _ _ h => h
theorem Heap.le_trans {A B C : Heap} (h : Heap.le A B) (k : Heap.le B C) : Heap.le A C := fun _ _ _ x => k _ _ _ (h _ _ _ x)
theorem Keeps.refl (st : St) : Keeps [] st st := ⟨rfl, rfl, fun _ _ => rfl, fun _ _ h => h, Heap.le_refl _⟩
theorem Keeps.mono {ws ws' : List Nat} {st st' : St} (h : Keeps ws st st') (hs : ∀ x ∈ ws, x ∈ ws') : Keeps ws' st st' :=
  ⟨h.fl, h.ll, fun j hj => h.fr j (fun hh => hj (hs j hh)), h.ro, h.le⟩
theorem Keeps.trans {ws : List Nat} {st st' st'' : St} (h : Keeps ws st st') (k : Keeps ws st' st'') : Keeps ws st st'' :=
  ⟨k.fl.trans h.fl, k.ll.trans h.ll, fun j hj => (k.fr j hj).trans (h.fr j hj), fun i o hh => k.ro i o (h.ro i o hh), Heap.le_trans h.le k.le⟩
theorem Keeps.setS (st : St) (d : Option Tmp) (x : SV) : Keeps d.toList st (setS st d x) := by
  cases d with
  | none => exact Keeps.refl st
  | some d =>
    refine ⟨by simp [Vc.setS], rfl, fun j hj => ?_, fun _ _ h => h, Heap.le_refl _⟩
    have : d ≠ j := fun e => hj (by simp [e])
    simp [Vc.setS, List.getElem?_set_ne this]

section
variable {P : Program} {w0 : W0} {w w' : World} {H0 : Heap} {st : St} {a : Act} {ρ ρ' : Nat → Nat} {σ σ' : Nat → Value}
theorem S1.rel_of {d : Nat} (hρ : ∀ i, i ≠ d → ρ' i = ρ i) (hσ : ∀ i, i ≠ d → σ' i = σ i) {c : S1} {y : Value} (hn : ¬ c.refs d) (h : c.rel ρ σ y) : c.rel ρ' σ' y := by
  cases c <;> simp only [S1.rel, S1.refs] at h hn ⊢ <;> try exact h
  case loc i off => rw [hρ i hn]; exact h
  case aelt i off => rw [hρ i hn]; exact h
  case oelt i j => rw [hσ i hn]; exact h
  case own i => rw [hσ i hn]; exact h
  case sub i l m sz => rw [hσ i hn]; exact h
  case pin i s => rw [hσ i hn]; exact h
  case me i b => rw [hρ i hn]; exact h
theorem relL_of {d : Nat} (hρ : ∀ i, i ≠ d → ρ' i = ρ i) (hσ : ∀ i, i ≠ d → σ' i = σ i) : ∀ {cs : List S1} {ys : List Value}, ¬ refsL d cs → relL ρ σ cs ys → relL ρ' σ' cs ys
  | [], [], _, _ => trivial
  | c :: _, _ :: _, hn, h => ⟨S1.rel_of hρ hσ (fun hh => hn ⟨c, by simp, hh⟩) h.1, relL_of hρ hσ (fun ⟨x, hx, hh⟩ => hn ⟨x, by simp [hx], hh⟩) h.2⟩
  | [], _ :: _, _, h => h.elim
  | _ :: _, [], _, h => h.elim
theorem relT_of {d : Nat} (hρ : ∀ i, i ≠ d → ρ' i = ρ i) (hσ : ∀ i, i ≠ d → σ' i = σ i) : ∀ {cs : List (Bool × List S1)} {ys : List Value}, (¬ ∃ x ∈ cs, refsL d x.2) → relT ρ σ cs ys → relT ρ' σ' cs ys
  | [], [], _, _ => trivial
  | (true, c) :: cs, _ :: _, hn, h => by
    obtain ⟨⟨zs, e, hz⟩, h2⟩ := h
    exact ⟨⟨zs, e, relL_of hρ hσ (fun hh => hn ⟨(true, c), by simp, hh⟩) hz⟩, relT_of hρ hσ (fun ⟨x, hx, hh⟩ => hn ⟨x, by simp [hx], hh⟩) h2⟩
  | (false, c) :: cs, _ :: _, hn, h => ⟨relL_of hρ hσ (fun hh => hn ⟨(false, c), by simp, hh⟩) h.1, relT_of hρ hσ (fun ⟨x, hx, hh⟩ => hn ⟨x, by simp [hx], hh⟩) h.2⟩
  | [], _ :: _, _, h => h.elim
  | (true, _) :: _, [], _, h => h.elim
  | (false, _) :: _, [], _, h => h.elim
theorem SV.rel_of {d : Nat} (hρ : ∀ i, i ≠ d → ρ' i = ρ i) (hσ : ∀ i, i ≠ d → σ' i = σ i) {x : SV} {y : Value} (hn : ¬ x.refs d) (h : x.rel ρ σ y) : x.rel ρ' σ' y := by
  cases x <;> simp only [SV.rel, SV.refs] at h hn ⊢
  case one x => exact S1.rel_of hρ hσ hn h
  case agg cs => obtain ⟨ys, e, hr⟩ := h; exact ⟨ys, e, relL_of hρ hσ hn hr⟩
  case clo f cap => obtain ⟨ys, e, hr⟩ := h; exact ⟨ys, e, relL_of hρ hσ hn hr⟩
  case tup cs => obtain ⟨ys, e, hr⟩ := h; exact ⟨ys, e, relT_of hρ hσ hn hr⟩

theorem Good.blk_lt (hg : Good P w0 H0 st a w ρ σ) {i : Nat} {f : Bool} {o : LObj} {g : Nat} (h : st.L[i]? = some (some (f, o))) (hb : blk ρ σ i o = some g) : g < w.heap.size ∧ w0.nw (g) ∧ ∀ k, st.H g k = none := by
  have ho := hg.obj _ _ _ h
  cases o <;> simp only [blk] at hb <;> simp only [ObjOK] at ho
  case box t cs =>
    obtain ⟨ys, h1, h2, h3, h4⟩ := ho
    simp at hb; subst hb
    exact ⟨(Array.getElem?_eq_some_iff.1 h1).1, h3, h4⟩
  case arr t xs =>
    obtain ⟨h1, h2, h3, h4⟩ := ho
    simp at hb; subst hb
    exact ⟨(Array.getElem?_eq_some_iff.1 h1).1, h3, h4⟩
  case row e n xs =>
    obtain ⟨h1, h2, h3⟩ := ho
    have := h1.lt g hb
    exact ⟨this.2, this.1, h3 g hb⟩
  all_goals simp at hb
theorem Good.H_lt (hg : Good P w0 H0 st a w ρ σ) {b o : Nat} {v : Value} (h : st.H b o = some v) : b < w.heap.size := (hg.snap _ _ _ h).lt
theorem Good.setS (hg : Good P w0 H0 st a w ρ σ) (d : Option Tmp) {r : SV} {v : Value} (hr : r.rel ρ σ v) (hn : ∀ d', st.L[d']? = some none → ¬ r.refs d') : Good P w0 H0 (setS st d r) (a.put d v) w ρ σ := by
  cases d with
  | none => exact hg
  | some d =>
    refine ⟨hg.defers, by simp [Act.put, Vc.setS, hg.size], fun i x hx => ?_, hg.below, hg.le, hg.old, hg.snap, hg.obj, hg.sep, fun d' hd => ⟨fun j x hx => ?_, (hg.nr d' hd).obj⟩, hg.sl, hg.opn⟩
    · simp only [Vc.setS] at hx
      simp only [Act.put]
      by_cases hij : d = i
      · subst hij
        rw [List.getElem?_set_self'] at hx
        cases hl : st.fr[d]? with
        | none => rw [hl] at hx; simp at hx
        | some y =>
          rw [hl] at hx
          simp at hx; subst hx
          have hlt : d < a.tmps.size := by rw [hg.size]; exact (List.getElem?_eq_some_iff.1 hl).1
          simp [Array.getD_eq_getD_getElem?, hlt, hr]
      · rw [List.getElem?_set_ne hij] at hx
        have := hg.fr i x hx
        simpa [Array.getD_eq_getD_getElem?, Array.getElem?_setIfInBounds_ne hij] using this
    · simp only [Vc.setS] at hx
      by_cases hij : d = j
      · subst hij
        rw [List.getElem?_set_self'] at hx
        cases hl : st.fr[d]? with
        | none => rw [hl] at hx; simp at hx
        | some y =>
          rw [hl] at hx
          simp at hx; subst hx
          exact hn d' hd
      · rw [List.getElem?_set_ne hij] at hx
        exact (hg.nr d' hd).fr j x hx

theorem Good.noOpen (hg : Good P w0 H0 st a w ρ σ) {i : Nat} {f : Bool} {o : LObj} {g : Nat} (h : st.L[i]? = some (some (f, o))) (hb : blk ρ σ i o = some g) : st.O g = none := by
  cases hO : st.O g with
  | none => rfl
  | some x =>
    exact absurd hb ((hg.opn g x hO).2 i f o h)
/- the world moves on: an object d is new or changed, others may die; block 'ch' alone of the old ones has changed -/
theorem Good.step (hg : Good P w0 H0 st a w ρ σ) (L' : List (Option Ent)) (d : Nat) (o' : LObj) (ch : Option Nat)
    (hd : L'[d]? = some (some (true, o'))) (hL : ∀ i, i ≠ d → L'[i]? = st.L[i]? ∨ L'[i]? = some (some (true, .dead)))
    (hρσ : (ρ' = ρ ∧ σ' = σ) ∨ (st.noRef d ∧ (∀ i, i ≠ d → ρ' i = ρ i) ∧ (∀ i, i ≠ d → σ' i = σ i)))
    (hw : GrB w w' ch) (hch : ∀ g, ch = some g → w0.nw (g) ∧ ∀ o, st.H g o = none)
    (hopn : ∀ g, ch = some g → st.O g = none)
    (hchO : ∀ i f o g, i ≠ d → L'[i]? = some (some (f, o)) → blk ρ σ i o = some g → ch ≠ some g)
    (hobj : ObjOK P w0 w' st.H ρ' σ' d o') (hblk : ∀ g, blk ρ' σ' d o' = some g → w.heap.size ≤ g ∨ ch = some g)
    (href : ∀ d', d' ≠ d → st.L[d']? = some none → st.noRef d' → ¬ o'.refs d') (hsl : ∀ i, ∃ A n c, σ' i = .slice A n c) :
    Good P w0 H0 { st with L := L' } a w' ρ' σ' := by
  have hrel : ∀ {x : SV} {y : Value}, (st.noRef d → ¬ x.refs d) → x.rel ρ σ y → x.rel ρ' σ' y := by
    intro x y hn h
    rcases hρσ with ⟨rfl, rfl⟩ | ⟨hnr, h1, h2⟩
    · exact h
    · exact SV.rel_of h1 h2 (hn hnr) h
  have hrelL : ∀ {cs : List S1} {ys : List Value}, (st.noRef d → ¬ refsL d cs) → relL ρ σ cs ys → relL ρ' σ' cs ys := by
    intro x y hn h
    rcases hρσ with ⟨rfl, rfl⟩ | ⟨hnr, h1, h2⟩
    · exact h
    · exact relL_of h1 h2 (hn hnr) h
  have hρ : ∀ i, i ≠ d → ρ' i = ρ i := by
    rcases hρσ with ⟨rfl, rfl⟩ | ⟨hnr, h1, h2⟩
    · exact fun _ _ => rfl
    · exact h1
  have hσ : ∀ i, i ≠ d → σ' i = σ i := by
    rcases hρσ with ⟨rfl, rfl⟩ | ⟨hnr, h1, h2⟩
    · exact fun _ _ => rfl
    · exact h2
  have hblkeq : ∀ i o, i ≠ d → blk ρ' σ' i o = blk ρ σ i o := by
    intro i o hi
    cases o <;> simp only [blk] <;> simp [hρ i hi, hσ i hi]
  have hkeep : ∀ b, b < w.heap.size → ch ≠ some b → w'.heap[b]? = w.heap[b]? := fun b hb hne => hw.block b hb (fun e => hne e.symm)
  have hobjs : ∀ i f o, i ≠ d → L'[i]? = some (some (f, o)) → ObjOK P w0 w' st.H ρ' σ' i o := by
    intro i f o hi h
    rcases hL i hi with he | he
    · have h' := h
      rw [he] at h'
      have ho := hg.obj i f o h'
      have hnc := hchO i f o
      cases o <;> simp only [ObjOK] at ho ⊢
      case box t cs =>
        obtain ⟨ys, h1, h2, h3, h4⟩ := ho
        rw [hρ i hi]
        exact ⟨ys, (hkeep _ (Array.getElem?_eq_some_iff.1 h1).1 (hnc _ hi h rfl)).trans h1, hrelL (fun hn => hn.obj _ _ _ h') h2, h3, h4⟩
      case arr t xs =>
        obtain ⟨h1, h2, h3, h4⟩ := ho
        rw [hρ i hi]
        exact ⟨(hkeep _ (Array.getElem?_eq_some_iff.1 h1).1 (hnc _ hi h rfl)).trans h1, h2, h3, h4⟩
      case row e n xs =>
        obtain ⟨h1, h2, h3⟩ := ho
        rw [hσ i hi]
        refine ⟨?_, h2, h3⟩
        refine h1.kept hw.togrownBy ?_
        cases hb : (σ i).ownBlock with
        | none => exact .inl rfl
        | some g => exact .inr (fun e => hnc g hi h hb e.symm)
      case pub A n c => rw [hσ i hi]; exact ho
    · rw [he] at h
      simp at h
      obtain ⟨_, rfl⟩ := h
      trivial
  refine ⟨hg.defers, hg.size, fun i x hx => hrel (fun hn => hn.fr _ _ hx) (hg.fr i x hx), ?_, hg.le, hg.old, fun b o v hv => ?_, fun i f o h => ?_, fun i j f f' o o' g hij h h' hb => ?_, fun d' hd' => ⟨fun j x hx => ?_, fun j f o ho => ?_⟩, hsl, fun b x hb => ?_⟩
  · exact hg.below.grown hw.togrownBy hw.drawn (fun k hk => (hch k hk).1)
  · have hlt := hg.H_lt hv
    exact (hg.snap _ _ _ hv).keep (hkeep b hlt (fun e => by have := (hch b e).2 o; rw [hv] at this; simp at this))
  · by_cases hi : i = d
    · subst hi
      simp only at h
      rw [hd] at h
      simp at h
      obtain ⟨_, rfl⟩ := h
      exact hobj
    · exact hobjs i f o hi h
  · -- separation
    have hold : ∀ i f o g, i ≠ d → L'[i]? = some (some (f, o)) → blk ρ σ i o = some g → g < w.heap.size := by
      intro i f o g hi h hb
      rcases hL i hi with he | he
      · rw [he] at h; exact (hg.blk_lt h hb).1
      · rw [he] at h; simp at h; obtain ⟨_, rfl⟩ := h; simp [blk] at hb
    simp only at h h'
    by_cases hi : i = d
    · subst hi
      have hj : j ≠ i := Ne.symm hij
      rw [hd] at h
      simp at h
      obtain ⟨_, rfl⟩ := h
      rw [hblkeq j o' hj]
      intro hb'
      have h1 := hold j f' o' g hj h' hb'
      rcases hblk g hb with h2 | h2
      · omega
      · exact hchO j f' o' g hj h' hb' h2
    · rw [hblkeq i o hi] at hb
      by_cases hj : j = d
      · subst hj
        rw [hd] at h'
        simp at h'
        obtain ⟨_, rfl⟩ := h'
        intro hb'
        have h1 := hold i f o g hi h hb
        rcases hblk g hb' with h2 | h2
        · omega
        · exact hchO i f o g hi h hb h2
      · rw [hblkeq j o' hj]
        rcases hL i hi with he | he
        · rcases hL j hj with he' | he'
          · rw [he] at h; rw [he'] at h'
            exact hg.sep i j f f' o o' g hij h h' hb
          · rw [he'] at h'; simp at h'; obtain ⟨_, rfl⟩ := h'; simp [blk]
        · rw [he] at h; simp at h; obtain ⟨_, rfl⟩ := h; simp [blk] at hb
  · have hne : d' ≠ d := fun e => by subst e; simp only at hd'; rw [hd] at hd'; simp at hd'
    have hn : st.noRef d' := hg.nr d' (by
      rcases hL d' hne with he | he
      · rw [← he]; exact hd'
      · simp only at hd'; rw [he] at hd'; simp at hd')
    exact hn.fr j x hx
  · have hne : d' ≠ d := fun e => by subst e; simp only at hd'; rw [hd] at hd'; simp at hd'
    have hfr : st.L[d']? = some none := by
      rcases hL d' hne with he | he
      · rw [← he]; exact hd'
      · simp only at hd'; rw [he] at hd'; simp at hd'
    have hn : st.noRef d' := hg.nr d' hfr
    by_cases hj : j = d
    · subst hj
      simp only at ho
      rw [hd] at ho
      simp at ho
      obtain ⟨_, rfl⟩ := ho
      exact href d' hne hfr hn
    · rcases hL j hj with he | he
      · simp only at ho; rw [he] at ho; exact hn.obj j f o ho
      · simp only at ho; rw [he] at ho; simp at ho; obtain ⟨_, rfl⟩ := ho; exact fun hh => hh
  · simp only at hb
    obtain ⟨⟨k1, ⟨cur, k2, k3⟩, k4⟩, k5⟩ := hg.opn b x hb
    have hlt : b < w.heap.size := (Array.getElem?_eq_some_iff.1 k2).1
    have hne : ch ≠ some b := fun h => by have := hopn b h; rw [hb] at this; cases this
    refine ⟨⟨k1, ⟨cur, (hkeep b hlt hne).trans k2, k3⟩, k4⟩, fun i f o h => ?_⟩
    simp only at h
    by_cases hi : i = d
    · subst hi
      rw [hd] at h
      simp at h
      obtain ⟨_, rfl⟩ := h
      intro h'
      rcases hblk b h' with h2 | h2
      · omega
      · exact hne h2
    · rw [hblkeq i o hi]
      rcases hL i hi with he | he
      · rw [he] at h; exact k5 i f o h
      · rw [he] at h; simp at h; obtain ⟨_, rfl⟩ := h; simp [blk]
end
end Go.Vc
/- What makes and writes memory. -/
namespace Go.Vc
open Go Go.RowKit

def upd {α : Type} (f : Nat → α) (d : Nat) (x : α) : Nat → α := fun i => if i = d then x else f i
theorem upd_same {α : Type} (f : Nat → α) (d : Nat) (x : α) : upd f d x d = x := by simp [upd]
theorem upd_ne {α : Type} (f : Nat → α) {d i : Nat} (x : α) (h : i ≠ d) : upd f d x i = f i := by simp [upd, h]

section
variable {P : Program} {Γ : Tab} {w0 : W0} {w : World} {H0 : Heap} {st : St} {a : Act} {ρ : Nat → Nat} {σ : Nat → Value}
variable (hT : TabOK P Γ) (hg : Good P w0 H0 st a w ρ σ)
theorem TyOK.cellsOf {t : TypeId} {i : TyI} (h : TyOK P t i) : P.cellsOf t = i.size := by
  obtain ⟨inf, z, h1, h2, _⟩ := h.info
  simp [Program.cellsOf, h1, h2]
theorem set_get {α : Type} {l : List α} {d : Nat} {x : α} (h : d < l.length) : (l.set d x)[d]? = some x := by simp [h]
theorem Keeps.setL {st : St} {d : Nat} {o : LObj} (h : ∀ o', st.L[d]? ≠ some (some (false, o'))) : Keeps [] st (Vc.setL st d o) := by
  refine ⟨rfl, by simp [Vc.setL], fun _ _ => rfl, fun i o' hi => ?_, Heap.le_refl _⟩
  have : d ≠ i := fun e => by subst e; exact h _ hi
  simp only [Vc.setL]
  rw [List.getElem?_set_ne this]
  exact hi
theorem Keeps.setL_fresh {st : St} {d : Nat} {o : LObj} (h : fresh? st d = true) : Keeps [] st (Vc.setL st d o) :=
  Keeps.setL fun o' hh => by rw [fresh?_some h] at hh; simp at hh
theorem Keeps.setL_w {st : St} {d : Nat} {o o2 : LObj} (h : getW st d = some o2) : Keeps [] st (Vc.setL st d o) :=
  Keeps.setL fun o' hh => by rw [getW_some h] at hh; simp at hh
include hg in
/- a new object in a new block -/
theorem Good.newObj {d : Nat} (hf : fresh? st d = true) (t : TypeId) (ys : Array Value) (o' : LObj)
    (ho : (∃ cs, o' = .box t cs ∧ relL ρ σ cs ys.toList ∧ ∀ d', st.noRef d' → ¬ refsL d' cs) ∨ (o' = .arr t ys.toList ∧ ∀ y ∈ ys.toList, y.oneCell' = true)) :
    Good P w0 H0 (Vc.setL st d o') a (w.alloc (.cells ys t)) (upd ρ d w.heap.size) σ := by
  have hn := fresh?_some hf
  have hlt : d < st.L.length := (List.getElem?_eq_some_iff.1 hn).1
  have hnr := hg.nr d hn
  have hfree : ∀ o, st.H w.heap.size o = none := by
    intro o
    cases hh : st.H w.heap.size o with
    | none => rfl
    | some v => exact absurd (hg.H_lt hh) (Nat.lt_irrefl _)
  have hnew : (w.alloc (.cells ys t)).heap[w.heap.size]? = some (.cells ys t (0, 0)) := heap_alloc_new w _
  refine Good.step hg _ d o' none (set_get hlt) (fun i hi => .inl ?_) (.inr ⟨hnr, fun i hi => upd_ne _ _ hi, fun _ _ => rfl⟩) (GrB.alloc w _ none) (fun g h => by simp at h) (fun g h => by simp at h) (fun i f o g hi h hb => by simp) ?_ ?_ ?_ hg.sl
  · rw [List.getElem?_set_ne (Ne.symm hi)]
  · rcases ho with ⟨cs, rfl, hr, href⟩ | ⟨rfl, h1⟩
    · simp only [ObjOK, upd_same]
      exact ⟨ys, hnew, relL_of (fun i hi => upd_ne _ _ hi) (fun _ _ => rfl) (href d hnr) hr, .inl hg.below.size, hfree⟩
    · simp only [ObjOK, upd_same]
      exact ⟨hnew, h1, .inl hg.below.size, hfree⟩
  · intro g hb
    left
    rcases ho with ⟨cs, rfl, _⟩ | ⟨rfl, _⟩ <;> simp [blk, upd_same] at hb <;> omega
  · intro d' hd' _ hn'
    rcases ho with ⟨cs, rfl, _, href⟩ | ⟨rfl, _⟩
    · exact href d' hn'
    · exact fun hh => hh
include hg in
/- a new row -/
theorem Good.newRow {d : Nat} (hf : fresh? st d = true) {w' : World} (e : TypeId) (n : Nat) (xs : List Value) (v : Value)
    (hw : GrB w w' none) (hrow : w'.ownsRow w.heap.size e (P.cellsOf e) v n xs) (h1 : ∀ x ∈ xs, x.oneCell' = true) :
    Good P w0 H0 (Vc.setL st d (.row e n xs)) a w' ρ (upd σ d v) := by
  have hn := fresh?_some hf
  have hlt : d < st.L.length := (List.getElem?_eq_some_iff.1 hn).1
  have hnr := hg.nr d hn
  have hfree : ∀ g o, w.heap.size ≤ g → st.H g o = none := by
    intro g o hge
    cases hh : st.H g o with
    | none => rfl
    | some v => have := hg.H_lt hh; omega
  have hform : ∃ A m c, v = .slice A m c := by
    rcases hrow.2 with ⟨hv, _⟩ | ⟨g, cap, cur, hv, _⟩
    · exact ⟨_, _, _, hv⟩
    · exact ⟨_, _, _, hv⟩
  refine Good.step hg _ d (.row e n xs) none (set_get hlt) (fun i hi => .inl ?_) (.inr ⟨hnr, fun _ _ => rfl, fun i hi => upd_ne _ _ hi⟩) hw (fun g h => by simp at h) (fun g h => by simp at h) (fun i f o g hi h hb => by simp) ?_ ?_ (fun _ _ _ _ hh => hh) ?_
  · rw [List.getElem?_set_ne (Ne.symm hi)]
  · simp only [ObjOK, upd_same]
    refine ⟨?_, h1, fun g hb o => hfree g o (hrow.lt g hb).1⟩
    exact ⟨ownsRow_base0 hrow, fun g hb => .inl (Nat.le_trans hg.below.size (hrow.lt g hb).1)⟩
  · intro g hb
    simp only [blk, upd_same] at hb
    exact .inl (hrow.lt g hb).1
  · intro i
    by_cases hi : i = d
    · subst hi; rw [upd_same]; exact hform
    · rw [upd_ne _ _ hi]; exact hg.sl i

theorem run_newVar (t : TypeId) (v : Value) : (newVar t v).run P w = .ok ⟨w.heap.size, 0, none⟩ (w.alloc (.cells v.cells t)) := by
  simp [newVar, newRow]
theorem repl_length (z : List Value) (n : Nat) : (repl z n).length = n * z.length := by
  induction n with
  | zero => simp [repl]
  | succ n ih => simp [repl, ih, Nat.add_mul, Nat.add_comm]
theorem repl_get (z : List Value) (n k : Nat) (h : k < n * z.length) : (repl z n)[k]? = z[k % z.length]? := by
  induction n generalizing k with
  | zero => simp at h
  | succ n ih =>
    simp only [repl]
    by_cases hk : k < z.length
    · rw [List.getElem?_append_left hk, Nat.mod_eq_of_lt hk]
    · rw [List.getElem?_append_right (by omega), ih (k - z.length) (by rw [Nat.add_mul] at h; omega), ← Nat.mod_eq_sub_mod (by omega)]
theorem repl_mem {z : List Value} {n : Nat} {x : Value} (h : x ∈ repl z n) : x ∈ z := by
  induction n with
  | zero => simp [repl] at h
  | succ n ih =>
    simp only [repl, List.mem_append] at h
    rcases h with h | h
    · exact h
    · exact ih h
theorem range_repl (z : List Value) (n sz : Nat) (hz : z.length = sz) : ((Array.range (n * sz)).map fun k => (⟨z⟩ : Array Value)[k % (⟨z⟩ : Array Value).size]!).toList = repl z n := by
  subst hz
  apply List.ext_getElem?
  intro k
  rcases Nat.lt_or_ge k (n * z.length) with h | h
  · rw [repl_get z n k h]
    have hz : 0 < z.length := by
      rcases Nat.eq_zero_or_pos z.length with h0 | h0
      · rw [h0] at h; simp at h
      · exact h0
    have hlt : k % z.length < z.length := Nat.mod_lt _ hz
    simp [h, hlt]
  · rw [List.getElem?_eq_none (by simpa using h), List.getElem?_eq_none (by rw [repl_length]; exact h)]

/- storing cells into a block -/
theorem run_storeCells {g off : Nat} {t : TypeId} : ∀ (vs : List Value) (i : Nat) (w : World) (cur : Array Value), w.heap[g]? = some (.cells cur t (0, 0)) → off + i + vs.length ≤ cur.size → (∀ v ∈ vs, v.oneCell' = true) →
    ∃ w', (storeCells ⟨g, off, none⟩ vs i).run P w = .ok () w' ∧ w'.heap[g]? = some (.cells ⟨cur.toList.take (off + i) ++ vs ++ cur.toList.drop (off + i + vs.length)⟩ t (0, 0)) ∧ GrB w w' (some g) ∧ w'.heap.size = w.heap.size := by
  intro vs
  induction vs with
  | nil =>
    intro i w cur hb hle _
    refine ⟨w, rfl, ?_, GrB.refl w _, rfl⟩
    rw [hb]
    simp
  | cons v vs ih =>
    intro i w cur hb hle h1
    simp only [List.length_cons] at hle
    have hlt : off + i < cur.size := by omega
    have hcell : w.cell? ⟨g, off + i, none⟩ = some (cur[off + i]'hlt) := by
      rw [cell_of_block hb, Array.getElem?_eq_getElem hlt]
    have hfr : w.frozen? ⟨g, off + i, none⟩ = false := by simp [World.frozen?, hb]
    have hb2 : (w.setCell ⟨g, off + i, none⟩ v).heap[g]? = some (.cells (cur.setIfInBounds (off + i) v) t (0, 0)) := by
      simp [World.setCell, Array.getElem?_modify, hb]
    obtain ⟨w', q1, q2, q3, q4⟩ := ih (i + 1) _ _ hb2 (by simp; omega) (fun v hv => h1 v (List.mem_cons_of_mem _ hv))
    refine ⟨w', ?_, ?_, ?_, ?_⟩
    · simp only [storeCells, Sem.run_bind, add_plain, run_store P w _ v .plain (h1 v (by simp)), hcell, hfr, Bool.false_eq_true, if_false, Result.andThen_ok]
      exact q1
    · rw [q2]
      congr 3
      have hset : (cur.setIfInBounds (off + i) v).toList = cur.toList.take (off + i) ++ v :: cur.toList.drop (off + i + 1) := by
        rw [Array.toList_setIfInBounds, List.set_eq_take_append_cons_drop, if_pos (by simpa using hlt)]
      have hl : (cur.toList.take (off + i)).length = off + i := by simp; omega
      rw [hset]
      have e1 : (cur.toList.take (off + i) ++ v :: cur.toList.drop (off + i + 1)).take (off + (i + 1)) = cur.toList.take (off + i) ++ [v] := by
        rw [List.take_append, hl, List.take_of_length_le (by omega), show off + (i + 1) - (off + i) = 1 from by omega]
        rfl
      have e2 : (cur.toList.take (off + i) ++ v :: cur.toList.drop (off + i + 1)).drop (off + (i + 1) + vs.length) = cur.toList.drop (off + i + (vs.length + 1)) := by
        rw [List.drop_append, hl, List.drop_eq_nil_of_le (by omega), show off + (i + 1) + vs.length - (off + i) = vs.length + 1 from by omega, List.drop_succ_cons, List.drop_drop]
        simp only [List.nil_append]
        congr 1; omega
      rw [e1, e2]
      simp
    · refine ⟨⟨q3.os, q3.tape, q3.output, ?_, fun k hk hne => ?_⟩, q3.drawn⟩
      · have := q3.size; simpa using this
      · rw [q3.block k (by simpa using hk) hne]
        exact Below.heap_setCell w _ v k (fun e => hne (by rw [e]))
    · rw [q4]; simp
end
end Go.Vc
/- What makes and writes memory: each operation. -/
namespace Go.Vc
open Go Go.RowKit

section
variable {P : Program} {Γ : Tab} {w0 : W0} {w : World} {H0 : Heap} {st : St} {a : Act} {ρ : Nat → Nat} {σ : Nat → Value}
variable (hT : TabOK P Γ) (hg : Good P w0 H0 st a w ρ σ)
def isBA : LObj → Bool
  | .box _ _ => true
  | .arr _ _ => true
  | _ => false
/- boxes stay what and where they were, X apart -/
structure Goes (X : Nat → Prop) (st st' : St) (ρ ρ' : Nat → Nat) (w w' : World) : Prop where
  stay : ∀ (i : Nat) (f : Bool) (o : LObj), st.L[i]? = some (some (f, o)) → isBA o = true → ¬ X i → ∃ f', st'.L[i]? = some (some (f', o))
  rho : ∀ (i : Nat) (f : Bool) (o : LObj), st.L[i]? = some (some (f, o)) → isBA o = true → ¬ X i → ρ' i = ρ i
  heap : ∀ (i : Nat) (f : Bool) (o : LObj), st.L[i]? = some (some (f, o)) → isBA o = true → ¬ X i → w'.heap[ρ i]? = w.heap[ρ i]?
def noX : Nat → Prop := fun _ => False
theorem Goes.refl {X : Nat → Prop} (st : St) (ρ : Nat → Nat) (w : World) : Goes X st st ρ ρ w w := ⟨fun _ f _ h _ _ => ⟨f, h⟩, fun _ _ _ _ _ _ => rfl, fun _ _ _ _ _ _ => rfl⟩
theorem Goes.mono {X Y : Nat → Prop} {st st' : St} {ρ ρ' : Nat → Nat} {w w' : World} (h : Goes X st st' ρ ρ' w w') (hs : ∀ i, X i → Y i) : Goes Y st st' ρ ρ' w w' :=
  ⟨fun i f o h1 h2 h3 => h.stay i f o h1 h2 fun hh => h3 (hs i hh), fun i f o h1 h2 h3 => h.rho i f o h1 h2 fun hh => h3 (hs i hh), fun i f o h1 h2 h3 => h.heap i f o h1 h2 fun hh => h3 (hs i hh)⟩
theorem Goes.any {X : Nat → Prop} {st st' : St} {ρ ρ' : Nat → Nat} {w w' : World} (h : Goes noX st st' ρ ρ' w w') : Goes X st st' ρ ρ' w w' := h.mono fun _ hh => hh.elim
theorem Goes.trans {X : Nat → Prop} {st st' st'' : St} {ρ ρ' ρ'' : Nat → Nat} {w w' w'' : World} (h : Goes X st st' ρ ρ' w w') (k : Goes X st' st'' ρ' ρ'' w' w'') : Goes X st st'' ρ ρ'' w w'' := by
  refine ⟨fun i f o h1 h2 hx => ?_, fun i f o h1 h2 hx => ?_, fun i f o h1 h2 hx => ?_⟩
  · obtain ⟨f', h3⟩ := h.stay i f o h1 h2 hx
    exact k.stay i f' o h3 h2 hx
  · obtain ⟨f', h3⟩ := h.stay i f o h1 h2 hx
    exact (k.rho i f' o h3 h2 hx).trans (h.rho i f o h1 h2 hx)
  · obtain ⟨f', h3⟩ := h.stay i f o h1 h2 hx
    have := k.heap i f' o h3 h2 hx
    rw [h.rho i f o h1 h2 hx] at this
    exact this.trans (h.heap i f o h1 h2 hx)
theorem blk_BA {ρ : Nat → Nat} {σ : Nat → Value} {i : Nat} {o : LObj} (h : isBA o = true) : blk ρ σ i o = some (ρ i) := by
  cases o <;> first | rfl | (simp [isBA] at h)
theorem Goes.of (hg : Good P w0 H0 st a w ρ σ) {st' : St} {ρ' : Nat → Nat} {w' : World} {ch : Option Nat} (hL : ∀ i : Nat, st'.L[i]? = st.L[i]? ∨ st.L[i]? = some none ∨ ∃ (f : Bool) (e : TypeId) (n : Nat) (xs : List Value), st.L[i]? = some (some (f, LObj.row e n xs)))
    (hρ : ∀ i : Nat, st.L[i]? ≠ some none → ρ' i = ρ i) (hw : GrB w w' ch) (hch : ∀ g, ch = some g → ∃ (k : Nat) (f : Bool) (e : TypeId) (n : Nat) (xs : List Value), st.L[k]? = some (some (f, .row e n xs)) ∧ (σ k).ownBlock = some g) :
    Goes noX st st' ρ ρ' w w' := by
  refine ⟨fun i f o h1 h2 _ => ?_, fun i f o h1 h2 _ => hρ i (by rw [h1]; simp), fun i f o h1 h2 _ => ?_⟩
  · rcases hL i with h | h | ⟨f', e, n, xs, h⟩
    · exact ⟨f, by rw [h]; exact h1⟩
    · rw [h1] at h; simp at h
    · rw [h1] at h; simp at h; rw [h.2] at h2; simp [isBA] at h2
  · have hb := blk_BA (ρ := ρ) (σ := σ) (i := i) h2
    refine hw.block _ (hg.blk_lt h1 hb).1 (fun e => ?_)
    obtain ⟨k, f', e', n, xs, k1, k2⟩ := hch _ e.symm
    have hne : i ≠ k := by
      rintro rfl
      rw [h1] at k1; simp at k1; rw [k1.2] at h2; simp [isBA] at h2
    exact hg.sep i k f f' o (.row e' n xs) _ hne h1 k1 hb k2
/- what an operation that makes or writes memory comes to -/
def EfOK (P : Program) (w0 : W0) (H0 : Heap) (st : St) (a : Act) (w : World) (ρ : Nat → Nat) (o : Oper) (K : St → Prop) : Prop :=
  ∃ nx v w' st' ρ' σ', (execOp a.eval o).run P w = .ok nx w' ∧ (nx = .value v ∨ (nx = .skip ∧ v = undef)) ∧ K st' ∧ Keeps o.dst.toList st st' ∧
    Good P w0 H0 st' (a.put o.dst v) w' ρ' σ' ∧ Goes (fun i => stTgt st o.op = some i) st st' ρ ρ' w w'

theorem set_none {st : St} {d d' : Nat} {o : LObj} (h : (Vc.setL st d o).L[d']? = some none) (hl : d < st.L.length) : d' ≠ d ∧ st.L[d']? = some none := by
  simp only [Vc.setL] at h
  by_cases hd : d' = d
  · subst hd
    rw [set_get hl] at h
    simp at h
  · rw [List.getElem?_set_ne (Ne.symm hd)] at h
    exact ⟨hd, h⟩
theorem fresh_lt {d : Nat} (hf : fresh? st d = true) : d < st.L.length := (List.getElem?_eq_some_iff.1 (fresh?_some hf)).1
include hg in
theorem vcNew_sound {d : Nat} {t : TypeId} {i : TyI} {cs : List S1} {K : St → Prop} {ys : Array Value} (h : vcNew st d t i cs K) (hf : fresh? st d = true)
    (hr : relL ρ σ cs ys.toList) (href : ∀ d', st.noRef d' → ¬ refsL d' cs) (h1 : ∀ y ∈ ys.toList, y.oneCell' = true) :
    ∃ st', K st' ∧ Keeps [d] st st' ∧ Good P w0 H0 st' (a.put (some d) (.pointer (some ⟨w.heap.size, 0, none⟩))) (w.alloc (.cells ys t)) (upd ρ d w.heap.size) σ ∧ Goes noX st st' ρ (upd ρ d w.heap.size) w (w.alloc (.cells ys t)) := by
  have hlt := fresh_lt hf
  have hn := fresh?_some hf
  have key : ∀ o', ((∃ cs, o' = .box t cs ∧ relL ρ σ cs ys.toList ∧ ∀ d', st.noRef d' → ¬ refsL d' cs) ∨ (o' = .arr t ys.toList ∧ ∀ y ∈ ys.toList, y.oneCell' = true)) →
      K (Vc.setS (Vc.setL st d o') (some d) (.one (.loc d 0))) → ∃ st', K st' ∧ Keeps [d] st st' ∧ Good P w0 H0 st' (a.put (some d) (.pointer (some ⟨w.heap.size, 0, none⟩))) (w.alloc (.cells ys t)) (upd ρ d w.heap.size) σ ∧ Goes noX st st' ρ (upd ρ d w.heap.size) w (w.alloc (.cells ys t)) := by
    intro o' ho hK
    refine ⟨_, hK, ?_, ?_, Goes.of (ch := none) hg (fun i => ?_) (fun i hi => upd_ne _ _ (fun e => hi (e ▸ hn))) (GrB.alloc w _ none) (by simp)⟩
    · exact ((Keeps.setL_fresh hf).mono (by simp)).trans (Keeps.setS _ (some d) _)
    · refine Good.setS (hg.newObj hf t ys o' ho) (some d) ?_ ?_
      · simp only [SV.rel, S1.rel, upd_same]
      · intro d' hd' hh
        exact (set_none hd' hlt).1 hh.symm
    · by_cases hi : i = d
      · subst hi; exact .inr (.inl hn)
      · left
        simp only [Vc.setS, Vc.setL]
        rw [List.getElem?_set_ne (Ne.symm hi)]
  unfold vcNew at h
  split at h
  · split at h
    · rename_i vs hvs
      have := toVs_rel hvs hr
      subst this
      exact key _ (.inr ⟨rfl, h1⟩) h
    · exact h.elim
  · exact key _ (.inl ⟨cs, rfl, hr, href⟩) h
include hg in
theorem Good.pub {i : Nat} {e : TypeId} {n : Nat} {xs : List Value} (h : getW st i = some (.row e n xs)) :
    ∃ A c H', Heap.le st.H H' ∧ Cells H' A 0 xs ∧ leN n c ∧ Good P w0 H0 (Vc.setL { st with H := H' } i (.pub A n c)) a w ρ σ := by
  have hL := getW_some h
  have hlt : i < st.L.length := (List.getElem?_eq_some_iff.1 hL).1
  obtain ⟨hrow, h1, hfree⟩ := hg.obj _ _ _ hL
  have fin : ∀ A c H', σ i = .slice A n c → Heap.le st.H H' → (∀ b, (∀ g, (σ i).ownBlock = some g → b ≠ g) → ∀ o, H' b o = st.H b o) → Snap H' w →
      Good P w0 H0 (Vc.setL { st with H := H' } i (.pub A n c)) a w ρ σ := by
    intro A c H' hs hle hoff hsnap
    have hget : ∀ j, j ≠ i → (st.L.set i (some (true, LObj.pub A n c)))[j]? = st.L[j]? := fun j hj => List.getElem?_set_ne (Ne.symm hj)
    refine ⟨hg.defers, hg.size, hg.fr, hg.below, Heap.le_trans hg.le hle, fun b hb o => ?_, hsnap, fun j f o hj => ?_, fun j k f f' o o' g hjk hj hk hb => ?_, fun d hd => ?_, hg.sl, fun b x hb => ?_⟩
    rotate_right
    · obtain ⟨⟨k1, k2, k4⟩, k5⟩ := hg.opn b x hb
      refine ⟨⟨k1, k2, fun t ht => ?_⟩, fun j f o hj => ?_⟩
      · rw [show (Vc.setL { st with H := H' } i (.pub A _ _)).H b t = H' b t from rfl, hoff b (fun g hg' e => k5 i _ _ hL (by simp only [blk]; rw [hg', e])) t]
        exact k4 t ht
      · by_cases hji : j = i
        · subst hji
          simp only [Vc.setL] at hj
          rw [set_get hlt] at hj
          simp at hj
          obtain ⟨_, rfl⟩ := hj
          simp [blk]
        · simp only [Vc.setL] at hj
          rw [hget j hji] at hj
          exact k5 j f o hj
    · simp only [Vc.setL]
      rw [hoff b (fun g hg' => ?_) o]
      · exact hg.old b hb o
      · intro e; subst e
        exact hb (hg.blk_lt hL hg').2.1
    · simp only [Vc.setL] at hj ⊢
      by_cases hji : j = i
      · subst hji
        rw [set_get hlt] at hj
        simp at hj
        obtain ⟨_, rfl⟩ := hj
        exact hs
      · rw [hget j hji] at hj
        have ho := hg.obj _ _ _ hj
        have hne : ∀ b, blk ρ σ j o = some b → ∀ g, (σ i).ownBlock = some g → b ≠ g := by
          intro b hb g hg' e
          subst e
          exact hg.sep j i f true o _ b hji hj hL hb hg'
        cases o <;> simp only [ObjOK] at ho ⊢
        case box t cs =>
          obtain ⟨ys, q1, q2, q3, q4⟩ := ho
          exact ⟨ys, q1, q2, q3, fun o => by rw [hoff _ (hne _ rfl)]; exact q4 o⟩
        case arr t ys =>
          obtain ⟨q1, q2, q3, q4⟩ := ho
          exact ⟨q1, q2, q3, fun o => by rw [hoff _ (hne _ rfl)]; exact q4 o⟩
        case row e' n' xs' =>
          obtain ⟨q1, q2, q3⟩ := ho
          exact ⟨q1, q2, fun g hg' o => by rw [hoff _ (hne _ hg')]; exact q3 g hg' o⟩
        case pub A' n' c' => exact ho
    · simp only [Vc.setL] at hj hk
      have hjp : j = i → False := by
        intro e; subst e
        rw [set_get hlt] at hj
        simp at hj
        obtain ⟨_, rfl⟩ := hj
        simp [blk] at hb
      rw [hget j hjp] at hj
      by_cases hki : k = i
      · subst hki
        rw [set_get hlt] at hk
        simp at hk
        obtain ⟨_, rfl⟩ := hk
        simp [blk]
      · rw [hget k hki] at hk
        exact hg.sep j k f f' o o' g hjk hj hk hb
    · obtain ⟨hdi, hd'⟩ := set_none (st := st) hd hlt
      have hn := hg.nr d hd'
      refine ⟨hn.fr, fun j f o hj => ?_⟩
      simp only [Vc.setL] at hj
      by_cases hji : j = i
      · subst hji
        rw [set_get hlt] at hj
        simp at hj
        obtain ⟨_, rfl⟩ := hj
        exact fun hh => hh
      · rw [hget j hji] at hj
        exact hn.obj j f o hj
  rcases hrow.row.2 with ⟨hs, h0⟩ | ⟨g, cap, cur, hs, hle, hb, hnc, hcm, hcs, htake⟩
  · subst h0
    have hx : xs = [] := List.eq_nil_of_length_eq_zero (by simpa using hrow.row.1)
    subst hx
    exact ⟨none, 0, st.H, Heap.le_refl _, .inl rfl, Nat.le_refl _, fin _ _ _ hs (Heap.le_refl _) (fun _ _ _ => rfl) hg.snap⟩
  · have hob : (σ i).ownBlock = some g := by rw [hs]; rfl
    have hfg := hfree g hob
    refine ⟨some ⟨g, 0, none⟩, cap, fun b o => if b = g then xs[o]? else st.H b o, ?_, ?_, hnc, ?_⟩
    · intro b o v hv
      have : b ≠ g := fun e => by subst e; rw [hfg] at hv; simp at hv
      simp [this, hv]
    · exact .inr ⟨g, 0, rfl, fun t v hv => ⟨by simpa using hv, h1 v (List.mem_of_getElem? hv)⟩⟩
    · refine fin _ _ _ hs ?_ ?_ ?_
      · intro b o v hv
        have : b ≠ g := fun e => by subst e; rw [hfg] at hv; simp at hv
        simp [this, hv]
      · intro b hbn o
        have := hbn g hob
        simp [this]
      · intro b o v hv
        simp only at hv
        split at hv
        · rename_i e; subst e
          exact seen.of (row_cells hrow hs o v hv) (h1 v (List.mem_of_getElem? hv))
        · exact hg.snap _ _ _ hv
theorem vcPubs_sound : ∀ {is : List Nat} {st : St} {K : St → Prop}, Good P w0 H0 st a w ρ σ → vcPubs K is st → ∃ st', K st' ∧ Keeps [] st st' ∧ Good P w0 H0 st' a w ρ σ ∧ Goes noX st st' ρ ρ w w
  | [], st, K, hg, h => ⟨st, h, Keeps.refl st, hg, Goes.refl _ _ _⟩
  | i :: is, st, K, hg, h => by
    simp only [vcPubs, vcPub] at h
    split at h
    · rename_i e n xs hW
      obtain ⟨A, c, H', h1, h2, h3, h4⟩ := hg.pub hW
      obtain ⟨st', q1, q2, q3, q4⟩ := vcPubs_sound h4 (h A c H' h1 h2 h3)
      refine ⟨st', q1, ?_, q3, Goes.trans (Goes.of (ch := none) hg (fun j => ?_) (fun _ _ => rfl) (GrB.refl w none) (by simp)) q4⟩
      rotate_left
      · by_cases hj : j = i
        · subst hj; exact .inr (.inr ⟨_, _, _, _, getW_some hW⟩)
        · left
          simp only [Vc.setL]
          rw [List.getElem?_set_ne (Ne.symm hj)]
      have hk : Keeps [] st (Vc.setL { st with H := H' } i (.pub A n c)) := by
        have := Keeps.setL_w (o := LObj.pub A n c) hW
        exact ⟨this.fl, this.ll, this.fr, this.ro, h1⟩
      exact hk.trans q2
    · exact vcPubs_sound hg h
    · exact h.elim
end
end Go.Vc
