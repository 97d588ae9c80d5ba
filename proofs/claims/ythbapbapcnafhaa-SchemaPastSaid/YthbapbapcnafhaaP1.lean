/- The program's and the reference's validity of schemas are one: plain lists, no program in sight. -/
import Derived.Test.YthbapbapcnafhaaR3
set_option linter.unusedSectionVars false
set_option linter.unusedSimpArgs false
set_option linter.unusedVariables false
namespace Go.Vc
open Go
theorem idxOf_first {T : Type} (p : T → Bool) : ∀ (pre : List T) (x : T) (r : List T) (i : Int), p x = true → (idxOf p i (pre ++ x :: r) = i + pre.length ↔ pre.any p = false)
  | [], x, r, i, h => by simp [idxOf, h]
  | y :: pre, x, r, i, h => by
    have ih := idxOf_first p pre x r (i + 1) h
    simp only [List.cons_append, idxOf, List.any_cons, List.length_cons]
    by_cases hy : p y = true
    · simp only [hy, if_true, Bool.true_or]
      constructor
      · intro hh; omega
      · intro hh; simp at hh
    · have hy : p y = false := by simpa using hy
      simp only [hy, Bool.false_eq_true, if_false, Bool.false_or]
      rw [← ih]
      constructor <;> intro hh <;> omega
theorem kind_eq (k : Int) : columnKind k = (decide (1 ≤ k) && decide (k ≤ 3)) := by
  rw [Bool.eq_iff_iff]; simp [columnKind]; omega
/- the columns of a version -/
theorem cols_eq : ∀ (r pre : List Col) (last : Int) (p : Option Int), 0 ≤ last → (∀ x, p = some x → x = last) → (p = none → last = 0) →
    vcols last pre r = rverGo (pre ++ r) pre.length p r
  | [], _, _, _, _, _, _ => by simp [vcols, rverGo]
  | c :: r, pre, last, p, h0, hp, hn => by
    rw [rverGo_cons, vcols]
    have hfirst := idxOf_first (fun o => decide (o.name = c.name)) pre c r 0 (by simp)
    simp only [Int.zero_add] at hfirst
    have ih := cols_eq r (pre ++ [c]) c.id (some c.id)
    by_cases h1 : last < c.id
    · have ih := ih (by omega) (by simp) (by simp)
      rw [ih, List.append_assoc, List.length_append]
      have e1 : ((pre.length : Int) + 1) = ((pre.length + [c].length : Nat) : Int) := by simp
      rw [e1]
      rw [kind_eq]
      have e2 : decide (idxOf (fun o => decide (o.name = c.name)) 0 (pre ++ c :: r) = (pre.length : Int)) = !(pre.any fun o => decide (o.name = c.name)) := by
        rw [Bool.eq_iff_iff, decide_eq_true_eq, hfirst]; simp
      rw [e2]
      have a1 : decide (c.id ≤ last) = false := by simp; omega
      have a2 : decide (1 ≤ c.id) = true := by simp; omega
      have a3 : decide (12 < c.id) = !decide (c.id ≤ 12) := by by_cases h : c.id ≤ 12 <;> simp [h] <;> omega
      rw [a1, a2, a3]
      cases p with
      | none => simp only [List.singleton_append, Bool.false_or, Bool.true_and, Bool.and_true, Bool.not_or, Bool.not_not, Bool.and_assoc]
      | some x =>
        have := hp x rfl
        simp only []
        rw [decide_eq_true (p := x < c.id) (by omega)]
        simp only [List.singleton_append, Bool.false_or, Bool.true_and, Bool.and_true, Bool.not_or, Bool.not_not, Bool.and_assoc]
    · have a1 : decide (c.id ≤ last) = true := by simp; omega
      rw [a1]
      simp only [Bool.true_or, Bool.not_true, Bool.false_and]
      cases p with
      | none =>
        have := hn rfl
        rw [decide_eq_false (p := 1 ≤ c.id) (by omega)]; simp
      | some x =>
        have := hp x rfl
        simp only []
        rw [decide_eq_false (p := x < c.id) (by omega)]; simp
theorem version_eq (v : Ver) : rver v = (perValid v.rc && validColumns v.cols) := by
  unfold rver validColumns
  rw [cols_eq v.cols [] 0 none (by omega) (by simp) (by simp)]
  simp [Bool.and_assoc]
/- ascending IDs -/
theorem vcols_asc : ∀ (r : List Col) (last : Int) (pre : List Col), vcols last pre r = true → (∀ c ∈ r, last < c.id) ∧ r.Pairwise (fun a b => a.id ≠ b.id)
  | [], _, _, _ => ⟨by simp, by simp⟩
  | c :: r, last, pre, h => by
    simp only [vcols, Bool.and_eq_true, Bool.not_eq_true', Bool.or_eq_false_iff, decide_eq_false_iff_not] at h
    obtain ⟨⟨⟨⟨⟨h1, h2⟩, h3⟩, h4⟩, h5⟩, h6⟩ := h
    obtain ⟨i1, i2⟩ := vcols_asc r c.id _ h6
    refine ⟨fun x hx => ?_, ?_⟩
    · rcases List.mem_cons.1 hx with rfl | hx
      · omega
      · have := i1 x hx; omega
    · refine List.pairwise_cons.2 ⟨fun x hx => ?_, i2⟩
      have := i1 x hx; omega
theorem widthCols_le : ∀ (l : List Col) (w : Int), w ≤ widthCols w l ∧ ∀ c ∈ l, c.id ≤ widthCols w l
  | [], w => ⟨by simp [widthCols], by simp⟩
  | c :: r, w => by
    obtain ⟨h1, h2⟩ := widthCols_le r (max w c.id)
    refine ⟨by simp only [widthCols]; omega, fun x hx => ?_⟩
    simp only [widthCols]
    rcases List.mem_cons.1 hx with rfl | hx
    · omega
    · exact h2 x hx
theorem widthCols_get : ∀ (l : List Col) (w : Int), widthCols w l = w ∨ ∃ c ∈ l, c.id = widthCols w l
  | [], w => .inl rfl
  | c :: r, w => by
    rcases widthCols_get r (max w c.id) with h | ⟨x, h1, h2⟩
    · simp only [widthCols]
      rcases Int.le_total w c.id with h' | h'
      · exact .inr ⟨c, by simp, by rw [h]; omega⟩
      · left; rw [h]; omega
    · exact .inr ⟨x, by simp [h1], h2⟩
/- the table that the program keeps, against the versions seen -/
def okCol (i g : Int) (f la : List Int) (co : List Col) (c : Col) : Prop :=
  if f.getD c.id.toNat 0 = 0 then ¬ (0 < i ∧ c.id ≤ g) else la.getD c.id.toNat 0 = i ∧ co.getD c.id.toNat col0 = c
theorem getD_set_ne' {T : Type} {l : List T} {a b : Nat} {x d : T} (h : a ≠ b) : (l.set a x).getD b d = l.getD b d := by
  simp [List.getD, List.getElem?_set_ne h]
theorem getD_set_eq' {T : Type} {l : List T} {a : Nat} {x d : T} (h : a < l.length) : (l.set a x).getD a d = x := by
  simp [List.getD, h]
/- what histCols does -/
theorem histCols_spec (i g : Int) : ∀ (cols : List Col) (f la : List Int) (co : List Col) (top : Int), f.length = 13 → la.length = 13 → co.length = 13 → (∀ c ∈ cols, 1 ≤ c.id ∧ c.id ≤ 12) → cols.Pairwise (fun a b => a.id ≠ b.id) →
    ((∀ c ∈ cols, okCol i g f la co c) → ∃ f' la' co', histCols i g f la co top cols = some (f', la', co', widthCols top cols) ∧ f'.length = 13 ∧ la'.length = 13 ∧ co'.length = 13 ∧
      (∀ x : Int, 0 ≤ x → x ≤ 12 → (∀ c ∈ cols, c.id ≠ x) → f'.getD x.toNat 0 = f.getD x.toNat 0 ∧ la'.getD x.toNat 0 = la.getD x.toNat 0 ∧ co'.getD x.toNat col0 = co.getD x.toNat col0) ∧
      (∀ c ∈ cols, (i + 1 ≠ 0 → f'.getD c.id.toNat 0 ≠ 0) ∧ la'.getD c.id.toNat 0 = i + 1 ∧ co'.getD c.id.toNat col0 = c)) ∧
    ((∃ c ∈ cols, ¬ okCol i g f la co c) → histCols i g f la co top cols = none)
  | [], f, la, co, top, h1, h2, h3, _, _ => ⟨fun _ => ⟨f, la, co, rfl, h1, h2, h3, fun _ _ _ _ => ⟨rfl, rfl, rfl⟩, by simp⟩, by simp⟩
  | c :: r, f, la, co, top, h1, h2, h3, hid, hpw => by
    obtain ⟨hpc, hpr⟩ := List.pairwise_cons.1 hpw
    obtain ⟨c1, c2⟩ := hid c (by simp)
    have hid' : ∀ x ∈ r, 1 ≤ x.id ∧ x.id ≤ 12 := fun x hx => hid x (by simp [hx])
    have key : ∀ (f2 : List Int) (co2 : List Col), f2.length = 13 → co2.length = 13 → (∀ y : Nat, y ≠ c.id.toNat → f2.getD y 0 = f.getD y 0 ∧ co2.getD y col0 = co.getD y col0) → (i + 1 ≠ 0 → f2.getD c.id.toNat 0 ≠ 0) → co2.getD c.id.toNat col0 = c →
        ((∀ x ∈ r, okCol i g f la co x) → ∃ f' la' co', histCols i g f2 (la.set c.id.toNat (i + 1)) co2 (max top c.id) r = some (f', la', co', widthCols (max top c.id) r) ∧ f'.length = 13 ∧ la'.length = 13 ∧ co'.length = 13 ∧
          (∀ x : Int, 0 ≤ x → x ≤ 12 → (∀ d ∈ c :: r, d.id ≠ x) → f'.getD x.toNat 0 = f.getD x.toNat 0 ∧ la'.getD x.toNat 0 = la.getD x.toNat 0 ∧ co'.getD x.toNat col0 = co.getD x.toNat col0) ∧
          (∀ d ∈ c :: r, (i + 1 ≠ 0 → f'.getD d.id.toNat 0 ≠ 0) ∧ la'.getD d.id.toNat 0 = i + 1 ∧ co'.getD d.id.toNat col0 = d)) ∧
        ((∃ x ∈ r, ¬ okCol i g f la co x) → histCols i g f2 (la.set c.id.toNat (i + 1)) co2 (max top c.id) r = none) := by
      intro f2 co2 l1 l3 hsame hf2 hco2
      have ok_eq : ∀ x ∈ r, okCol i g f2 (la.set c.id.toNat (i + 1)) co2 x ↔ okCol i g f la co x := by
        intro x hx
        have hne : x.id.toNat ≠ c.id.toNat := by have := hpc x hx; have := hid' x hx; omega
        obtain ⟨e1, e2⟩ := hsame _ hne
        unfold okCol
        rw [e1, e2, getD_set_ne' (Ne.symm hne)]
      obtain ⟨ih1, ih2⟩ := histCols_spec i g r f2 (la.set c.id.toNat (i + 1)) co2 (max top c.id) l1 (by simpa using h2) l3 hid' hpr
      refine ⟨fun hall => ?_, fun ⟨x, hx, hbad⟩ => ih2 ⟨x, hx, fun hh => hbad ((ok_eq x hx).1 hh)⟩⟩
      obtain ⟨f', la', co', e0, e1, e2, e3, e4, e5⟩ := ih1 fun x hx => (ok_eq x hx).2 (hall x hx)
      refine ⟨f', la', co', e0, e1, e2, e3, fun x x0 x12 hx => ?_, fun d hd => ?_⟩
      · obtain ⟨a1, a2, a3⟩ := e4 x x0 x12 fun d hd => hx d (by simp [hd])
        have hne : x.toNat ≠ c.id.toNat := by have := hx c (by simp); omega
        obtain ⟨b1, b2⟩ := hsame _ hne
        exact ⟨a1.trans b1, a2.trans (getD_set_ne' (Ne.symm hne)), a3.trans b2⟩
      · rcases List.mem_cons.1 hd with rfl | hd
        · obtain ⟨a1, a2, a3⟩ := e4 d.id (by omega) c2 fun x hx => Ne.symm (hpc x hx)
          refine ⟨fun hi => ?_, ?_, a3.trans hco2⟩
          · rw [a1]; exact hf2 hi
          · rw [a2, getD_set_eq' (by omega)]
        · exact e5 d hd
    rw [histCols]
    by_cases hz : f.getD c.id.toNat 0 = 0
    · rw [if_pos hz]
      have okc : okCol i g f la co c ↔ ¬ (0 < i ∧ c.id ≤ g) := by unfold okCol; rw [if_pos hz]
      by_cases hb : 0 < i ∧ c.id ≤ g
      · rw [if_pos hb]
        exact ⟨fun hall => absurd hb (okc.1 (hall c (by simp))), fun _ => rfl⟩
      · rw [if_neg hb]
        obtain ⟨k1, k2⟩ := key (f.set c.id.toNat (i + 1)) (co.set c.id.toNat c) (by simpa using h1) (by simpa using h3) (fun y hy => ⟨getD_set_ne' (Ne.symm hy), getD_set_ne' (Ne.symm hy)⟩)
          (fun hi => by rw [getD_set_eq' (by omega)]; exact hi) (getD_set_eq' (by omega))
        refine ⟨fun hall => k1 fun x hx => hall x (by simp [hx]), fun ⟨x, hx, hbad⟩ => ?_⟩
        rcases List.mem_cons.1 hx with rfl | hx
        · exact absurd (okc.2 hb) hbad
        · exact k2 ⟨x, hx, hbad⟩
    · rw [if_neg hz]
      have okc : okCol i g f la co c ↔ (la.getD c.id.toNat 0 = i ∧ co.getD c.id.toNat col0 = c) := by unfold okCol; rw [if_neg hz]
      by_cases hb : la.getD c.id.toNat 0 = i ∧ co.getD c.id.toNat col0 = c
      · rw [if_pos hb]
        obtain ⟨k1, k2⟩ := key f co h1 h3 (fun y _ => ⟨rfl, rfl⟩) (fun _ => hz) hb.2
        refine ⟨fun hall => k1 fun x hx => hall x (by simp [hx]), fun ⟨x, hx, hbad⟩ => ?_⟩
        rcases List.mem_cons.1 hx with rfl | hx
        · exact absurd (okc.2 hb) hbad
        · exact k2 ⟨x, hx, hbad⟩
      · rw [if_neg hb]
        exact ⟨fun hall => absurd (okc.1 (hall c (by simp))) hb, fun _ => rfl⟩
/- the program's tables before version i, whose predecessor is p -/
structure HInv (i g : Int) (p : Option Ver) (f la : List Int) (co : List Col) : Prop where
  lf : f.length = 13
  lla : la.length = 13
  lco : co.length = 13
  i0 : 0 ≤ i
  none : p = none → i = 0 ∧ ∀ x : Int, 0 ≤ x → x ≤ 12 → f.getD x.toNat 0 = 0
  zero : ∀ a, p = some a → 0 < i
  big : ∀ x : Int, 1 ≤ x → x ≤ 12 → f.getD x.toNat 0 ≠ 0 → x ≤ g
  inn : ∀ a, p = some a → ∀ c ∈ a.cols, f.getD c.id.toNat 0 ≠ 0 ∧ la.getD c.id.toNat 0 = i ∧ co.getD c.id.toNat col0 = c
  out : ∀ a, p = some a → ∀ x : Int, 1 ≤ x → x ≤ 12 → (∀ c ∈ a.cols, c.id ≠ x) → la.getD x.toNat 0 ≠ i
  le : ∀ x : Int, 0 ≤ x → x ≤ 12 → la.getD x.toNat 0 ≤ i
theorem okCol_iff {i g : Int} {p : Option Ver} {f la : List Int} {co : List Col} (h : HInv i g p f la co) {c : Col} (c1 : 1 ≤ c.id) (c2 : c.id ≤ 12) :
    okCol i g f la co c ↔ (match (generalizing := false) p with | none => True | some a => followsCol a.cols g c = true) := by
  cases p with
  | none =>
    obtain ⟨e, hz⟩ := h.none rfl
    unfold okCol
    rw [if_pos (hz c.id (by omega) c2)]
    simp [e]
  | some a =>
    have hi := h.zero a rfl
    simp only
    unfold followsCol okCol
    cases hf : a.cols.find? (fun d => decide (d.id = c.id)) with
    | none =>
      have hno : ∀ d ∈ a.cols, d.id ≠ c.id := fun d hd => by simpa using List.find?_eq_none.1 hf d hd
      have hout := h.out a rfl c.id c1 c2 hno
      split
      · simp only [decide_eq_true_eq]; omega
      · rename_i hnz
        have := h.big c.id c1 c2 hnz
        simp only [decide_eq_true_eq]
        constructor
        · intro hh; exact absurd hh.1 hout
        · intro hh; omega
    | some d =>
      have hd := List.mem_of_find?_eq_some hf
      have hdi : d.id = c.id := by simpa using List.find?_some hf
      obtain ⟨a1, a2, a3⟩ := h.inn a rfl d hd
      rw [hdi] at a1 a2 a3
      rw [if_neg a1]
      simp only [decide_eq_true_eq, a2, a3, true_and]
theorem hist_eq : ∀ (l : List Ver) (i g : Int) (p : Option Ver) (f la : List Int) (co : List Col), HInv i g p f la co → (∀ v ∈ l, validColumns v.cols = true) →
    (histVers i g f la co l = true ↔ (∀ (k : Nat) (hk : k < l.length), match (if k = 0 then p else l[k - 1]?) with | none => True | some a => l[k].cols.all (followsCol a.cols (widthGo g (l.take k))) = true))
  | [], i, g, p, f, la, co, _, _ => by simp [histVers]
  | v :: r, i, g, p, f, la, co, h, hv => by
    have hvc := hv v (by simp)
    simp only [validColumns, Bool.and_eq_true] at hvc
    obtain ⟨hasc1, hasc2⟩ := vcols_asc _ _ _ hvc.2
    have hids := vcols_ids _ _ _ (by omega) hvc.2
    obtain ⟨s1, s2⟩ := histCols_spec i g v.cols f la co g h.lf h.lla h.lco hids hasc2
    have hok : (∀ c ∈ v.cols, okCol i g f la co c) ↔ (match (generalizing := false) p with | none => True | some a => v.cols.all (followsCol a.cols g) = true) := by
      cases p with
      | none => exact ⟨fun _ => trivial, fun _ c hc => (okCol_iff h (hids c hc).1 (hids c hc).2).2 trivial⟩
      | some a =>
        simp only [List.all_eq_true]
        exact ⟨fun hh c hc => (okCol_iff h (hids c hc).1 (hids c hc).2).1 (hh c hc), fun hh c hc => (okCol_iff h (hids c hc).1 (hids c hc).2).2 (hh c hc)⟩
    rw [histVers_cons]
    by_cases hall : ∀ c ∈ v.cols, okCol i g f la co c
    · obtain ⟨f', la', co', e0, e1, e2, e3, e4, e5⟩ := s1 hall
      rw [e0]
      have inv : HInv (i + 1) (widthCols g v.cols) (some v) f' la' co' := by
        have hi0 := h.i0
        refine ⟨e1, e2, e3, by omega, by simp, fun _ _ => by omega, fun x x1 x2 hx => ?_, fun a ha c hc => ?_, fun a ha x x1 x2 hx => ?_, fun x x0 x2 => ?_⟩
        · by_cases hin : ∃ c ∈ v.cols, c.id = x
          · obtain ⟨c, hc, rfl⟩ := hin
            exact (widthCols_le v.cols g).2 c hc
          · have hno : ∀ c ∈ v.cols, c.id ≠ x := fun c hc e => hin ⟨c, hc, e⟩
            rw [(e4 x (by omega) x2 hno).1] at hx
            have := h.big x x1 x2 hx
            have := (widthCols_le v.cols g).1
            omega
        · simp only [Option.some.injEq] at ha
          subst ha
          obtain ⟨a1, a2, a3⟩ := e5 c hc
          exact ⟨a1 (by omega), a2, a3⟩
        · simp only [Option.some.injEq] at ha
          subst ha
          rw [(e4 x (by omega) x2 hx).2.1]
          have := h.le x (by omega) x2
          omega
        · by_cases hin : ∃ c ∈ v.cols, c.id = x
          · obtain ⟨c, hc, rfl⟩ := hin
            rw [(e5 c hc).2.1]; omega
          · have hno : ∀ c ∈ v.cols, c.id ≠ x := fun c hc e => hin ⟨c, hc, e⟩
            rw [(e4 x x0 x2 hno).2.1]
            have := h.le x x0 x2
            omega
      have ih := hist_eq r (i + 1) (widthCols g v.cols) (some v) f' la' co' inv (fun w hw => hv w (by simp [hw]))
      simp only
      rw [ih]
      constructor
      · intro hr k hk
        cases k with
        | zero => simpa [widthGo] using hok.1 hall
        | succ k =>
          have := hr k (by simpa using hk)
          simp only [Nat.add_one_sub_one, Nat.add_eq_zero_iff, Nat.one_ne_zero, and_false, if_false, List.getElem_cons_succ, List.take_succ_cons, widthGo]
          cases k with
          | zero => simpa using this
          | succ k => simpa using this
      · intro hr k hk
        have := hr (k + 1) (by simpa using hk)
        simp only [Nat.add_one_sub_one, Nat.add_eq_zero_iff, Nat.one_ne_zero, and_false, if_false, List.getElem_cons_succ, List.take_succ_cons, widthGo] at this
        cases k with
        | zero => simpa using this
        | succ k => simpa using this
    · have hbad : ∃ c ∈ v.cols, ¬ okCol i g f la co c := by
        simp only [Classical.not_forall] at hall
        obtain ⟨c, hc, hb⟩ := hall
        exact ⟨c, hc, hb⟩
      rw [s2 hbad]
      constructor
      · intro hh; simp at hh
      · intro hr
        have := hr 0 (by simp)
        exact absurd (hok.2 (by simpa [widthGo] using this)) hall
end Go.Vc
