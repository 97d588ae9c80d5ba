/- Regions that draw their order. -/
import Derived.Test.YtkfbbnagniolcaaVcS16
import Derived.Test.YtkfbbnagniolcaaVcF
set_option linter.unusedSectionVars false
set_option linter.unusedSimpArgs false
set_option linter.unusedVariables false
namespace Go.Vc
open Go Go.RowKit

/- which operations are late -/
def lateF (ops : Array Oper) (i : Nat) : Bool := match ops[i]? with
  | some o => late ops.toList o
  | none => false
theorem waitsAll_get {o : Oper} : ∀ {l : List Oper} {k i : Nat} {x : Oper}, waitsAll o l k = true → l[i]? = some x → isSt x = true ∨ waits o (k + i) = true
  | [], k, i, x, h, e => by simp only [List.getElem?_nil, reduceCtorEq] at e
  | y :: l, k, 0, x, h, e => by
    simp only [waitsAll, Bool.and_eq_true, Bool.or_eq_true] at h
    simp only [List.getElem?_cons_zero, Option.some.injEq] at e
    rw [← e]
    exact h.1
  | y :: l, k, i + 1, x, h, e => by
    simp only [waitsAll, Bool.and_eq_true] at h
    rw [List.getElem?_cons_succ] at e
    have := waitsAll_get (k := k + 1) (i := i) h.2 e
    rw [show k + (i + 1) = k + 1 + i by omega]
    exact this
theorem allLate_mem {l : List Oper} (os : List Oper) {o : Oper} (h : allLate l os = true) (hm : o ∈ os) (hs : isSt o = true) : waitsAll o l 0 = true := by
  induction os with
  | nil => cases hm
  | cons x os ih =>
    unfold allLate at h
    rw [Bool.and_eq_true] at h
    cases hm with
    | head => have h1 := h.1; rw [hs, Bool.not_true, Bool.false_or] at h1; exact h1
    | tail _ hm => exact ih h.2 hm
theorem lateF_waits {ops : Array Oper} {i j : Nat} {oi oj : Oper} (hi : ops[i]? = some oi) (hs : isSt oi = false) (hf : lateF ops j = true) (hj : ops[j]? = some oj) : ∃ e ∈ oj.after, Region.binds .any e = true ∧ e.on = i := by
  unfold lateF at hf
  rw [hj] at hf
  simp only [late] at hf
  split at hf
  · rename_i hsj
    have hmem : oj ∈ ops.toList := List.mem_of_getElem? (show ops.toList[j]? = some oj by simpa using hj)
    rcases waitsAll_get (allLate_mem _ hf hmem hsj) (show ops.toList[i]? = some oi by simpa using hi) with h | h
    · rw [hs] at h; simp at h
    · rw [Nat.zero_add] at h
      simp only [waits, List.any_eq_true, Bool.and_eq_true, beq_iff_eq] at h
      obtain ⟨e, h1, h2, h3⟩ := h
      exact ⟨e, by simpa using h1, h3, h2⟩
  · simp at hf
/- behind a late operation all that is left is late -/
theorem lateF_rest {ops : Array Oper} {listed : Array Bool} {j : Nat} (hf : lateF ops j = true) (hr : j ∈ Region.ready .any ops listed) (i : Nat) (hi : i < ops.size) (hun : (listed.setIfInBounds j true).getD i true = false) : lateF ops i = true := by
  have hio : ops[i]? = some ops[i] := by simp [hi]
  obtain ⟨h1, oj, h2, h3⟩ := mem_ready.1 hr
  cases hs : isSt ops[i] with
  | true =>
    unfold lateF at hf ⊢
    rw [h2] at hf; rw [hio]
    simp only [late] at hf ⊢
    split at hf
    · simp only [hs, hf]
    · simp at hf
  | false =>
    obtain ⟨e, e1, e2, e3⟩ := lateF_waits hio hs hf h2
    have := h3 e e1 e2
    rw [e3] at this
    by_cases hji : j = i
    · subst hji
      exact hf
    · rw [getD_set_ne true hji] at hun
      rcases Nat.lt_or_ge i listed.size with h' | h'
      · simp [h'] at hun this; rw [hun] at this; simp at this
      · simp [Array.getElem?_eq_none h'] at this
theorem isRd_isSt {o : Oper} (h : isRd o.op = true) : isSt o = false := by
  unfold isSt
  split
  · rename_i hh; rw [hh] at h; simp [isRd] at h
  · rfl
section
variable {P : Program} {Γ : Tab} {w0 : W0} {w w' : World} {H0 H' : Heap} {st st' : St} {a : Act} {ρ ρ' : Nat → Nat} {σ : Nat → Value} {an : Ann}
theorem killL_some {W : List Nat} : ∀ {L : List (Option Ent)} {k i : Nat} {f : Bool} {o : LObj}, (killL W k L)[i]? = some (some (f, o)) → o = .dead ∨ ((∀ e n xs, o ≠ .row e n xs) ∧ L[i]? = some (some (f, o)) ∧ k + i ∉ W)
  | [], k, i, f, o, h => by simp [killL] at h
  | none :: L, k, i, f, o, h => by
    cases i with
    | zero => simp [killL] at h
    | succ i =>
      have := killL_some (L := L) (k := k + 1) (i := i) (by simpa [killL] using h)
      simpa [Nat.add_assoc, Nat.add_comm 1 i] using this
  | some (g, b) :: L, k, i, f, o, h => by
    cases i with
    | zero =>
      simp only [killL, List.getElem?_cons_zero, Option.some.injEq] at h
      split at h
      · simp at h; exact .inl h.2.symm
      · rename_i hne
        split at h
        · simp at h; exact .inl h.2.symm
        · rename_i hW
          simp at h
          obtain ⟨rfl, rfl⟩ := h
          exact .inr ⟨fun e n xs hh => hne e n xs hh, rfl, by simpa using hW⟩
    | succ i =>
      have := killL_some (L := L) (k := k + 1) (i := i) (by simpa [killL] using h)
      simpa [Nat.add_assoc, Nat.add_comm 1 i] using this
theorem killL_none {W : List Nat} : ∀ {L : List (Option Ent)} {k i : Nat}, (killL W k L)[i]? = some none ↔ L[i]? = some none
  | [], k, i => by simp [killL]
  | none :: L, k, i => by
    cases i with
    | zero => simp [killL]
    | succ i => simpa [killL] using killL_none (L := L) (k := k + 1) (i := i)
  | some (g, b) :: L, k, i => by
    cases i with
    | zero =>
      simp only [killL, List.getElem?_cons_zero, Option.some.injEq]
      constructor
      · intro h
        split at h
        · simp at h
        · split at h <;> simp at h
      · intro h; simp at h
    | succ i => simpa [killL] using killL_none (L := L) (k := k + 1) (i := i)
/- what the reads of a region rest on -/
structure Sees (W : List Nat) (st : St) (ρ : Nat → Nat) (w w' : World) : Prop where
  snap : Snap st.H w'
  heap : ∀ (i : Nat) (f : Bool) (o : LObj), st.L[i]? = some (some (f, o)) → isBA o = true → i ∉ W → w'.heap[ρ i]? = w.heap[ρ i]?
theorem Sees.same {W : List Nat} (h : Sees W st ρ w w') : SameFor (noRows W st) ρ σ w w' := by
  refine ⟨h.snap, fun i f t cs hi => ?_, fun i f t xs hi => ?_, fun i f e n xs hi => ?_⟩
  · rcases killL_some hi with h1 | ⟨_, h1, h2⟩
    · simp at h1
    · exact h.heap i f _ h1 rfl (by simpa using h2)
  · rcases killL_some hi with h1 | ⟨_, h1, h2⟩
    · simp at h1
    · exact h.heap i f _ h1 rfl (by simpa using h2)
  · rcases killL_some hi with h1 | ⟨h1, _⟩
    · simp at h1
    · exact absurd rfl (h1 e n xs)
theorem Good.noRows (hg : Good P w0 H0 st a w ρ σ) (W : List Nat) : Good P w0 H0 (noRows W st) a w ρ σ := by
  refine hg.alike (fun i f o hi => ?_) (fun d hd => killL_none.1 hd)
  rcases killL_some hi with h1 | ⟨_, h1, _⟩
  · exact .inl h1
  · exact .inr ⟨f, h1⟩
theorem Sees.trans {W : List Nat} {w'' : World} (hk : Heap.le st.H st'.H) (hgo : Goes (fun i => i ∈ W) st st' ρ ρ' w w') (h : Sees W st' ρ' w' w'') : Sees W st ρ w w'' := by
  refine ⟨fun b o v hv => h.snap b o v (hk b o v hv), fun i f o h1 h2 hx => ?_⟩
  obtain ⟨f', h3⟩ := hgo.stay i f o h1 h2 hx
  have := h.heap i f' o h3 h2 hx
  rw [hgo.rho i f o h1 h2 hx] at this
  exact this.trans (hgo.heap i f o h1 h2 hx)
theorem Sees.of {W : List Nat} (hk : Heap.le st.H st'.H) (hgo : Goes (fun i => i ∈ W) st st' ρ ρ' w w') (hs : Snap st'.H w') : Sees W st ρ w w' :=
  ⟨fun b o v hv => hs b o v (hk b o v hv), hgo.heap⟩
theorem forkIf_sound (hg : Good P w0 H0 st a w ρ σ) {l : List Oper} {j : Nat} {K : St → Prop} (h : forkIf l j st K) :
    ∃ st', K st' ∧ Keeps (writesO l) st st' ∧ Good P w0 H0 st' a w ρ σ ∧ Goes noX st st' ρ ρ w w := by
  unfold forkIf at h
  split at h
  · obtain ⟨st', h1, h2, h3, h4⟩ := vcFork_sound hg h
    exact ⟨st', h1, h2.mono dstOf_sub, h3, h4⟩
  · exact ⟨st, h, (Keeps.refl st).mono (by simp), hg, Goes.refl _ _ _⟩
/- a read taken: one value in all the worlds -/
theorem vcTake_sound (hT : TabOK P Γ) (hg : Good P w0 H0 st a w ρ σ) {l : List Oper} {o : Oper} {K : St → Prop} {W : List Nat} (h : vcTake Γ W l st o K) :
    ∃ v st', YieldsIf P l.toArray (Sees W st ρ w) o v a ∧ K st' ∧ Keeps o.dst.toList st st' ∧ Good P w0 H0 st' (a.put o.dst v) w ρ σ ∧ Goes noX st st' ρ ρ w w := by
  have hskip : Region.wanted o (yielded l.toArray a.tmps) = false → K (setS st o.dst (.one .un)) → ∃ v st', YieldsIf P l.toArray (Sees W st ρ w) o v a ∧ K st' ∧ Keeps o.dst.toList st st' ∧ Good P w0 H0 st' (a.put o.dst v) w ρ σ ∧ Goes noX st st' ρ ρ w w := fun hw hk =>
    ⟨undef, _, .inr ⟨hw, rfl⟩, hk, Keeps.setS st o.dst _, Good.setS hg o.dst (r := .one .un) rfl (fun _ _ hh => hh), goes_setS _ _ _ _ _⟩
  have hrd : Region.wanted o (yielded l.toArray a.tmps) = true → (vcRd Γ (noRows W st) o.op fun r => K (setS st o.dst r)) → ∃ v st', YieldsIf P l.toArray (Sees W st ρ w) o v a ∧ K st' ∧ Keeps o.dst.toList st st' ∧ Good P w0 H0 st' (a.put o.dst v) w ρ σ ∧ Goes noX st st' ρ ρ w w := by
    intro hw hk
    obtain ⟨v, r, h1, h2, h3, h4⟩ := vcRd_sound hT (hg.noRows W) hk
    refine ⟨v, _, .inl ⟨hw, fun w' hw' => h1 w' hw'.same⟩, h4, Keeps.setS st o.dst r, Good.setS hg o.dst h2 fun d hd => h3 d ((hg.noRows W).nr d ?_), goes_setS _ _ _ _ _⟩
    exact killL_none.2 hd
  unfold vcTake at h
  split at h
  · rename_i hgd
    exact hrd (by simp [Region.wanted, hgd]) h
  · rename_i j want hgd
    split at h
    · exact h.elim
    · rename_i d hd
      split at h
      · rename_i hx
        have hy := yielded_of hg hd hx (v := .bool true) (fun y hy => hy)
        cases want
        · exact hskip (by simp [Region.wanted, hgd, hy, boolO]) h
        · exact hrd (by simp [Region.wanted, hgd, hy, boolO]) h
      · rename_i hx
        have hy := yielded_of hg hd hx (v := .bool false) (fun y hy => hy)
        cases want
        · exact hrd (by simp [Region.wanted, hgd, hy, boolO]) h
        · exact hskip (by simp [Region.wanted, hgd, hy, boolO]) h
      · rename_i hx
        have hy := yielded_of hg hd hx (v := undef) (fun y hy => hy)
        exact hskip (by simp [Region.wanted, hgd, hy, boolO, undef]) h
      · exact h.elim
theorem readyIs_mem {ops : Array Oper} {listed : Array Bool} {j : Nat} (h : readyIs ops listed j = true) : j ∈ Region.ready .any ops listed := by
  unfold readyIs at h
  rw [Bool.and_eq_true, Bool.not_eq_true'] at h
  obtain ⟨h1, h2⟩ := h
  cases ho : ops[j]? with
  | none => rw [ho] at h2; simp at h2
  | some o =>
    rw [ho] at h2
    refine mem_ready.2 ⟨h1, o, ho, fun e he hb => ?_⟩
    have := List.all_eq_true.1 h2 e (by simpa using he)
    rw [hb, Bool.not_true, Bool.false_or] at this
    exact this
def eltP (P : Program) (Γ : Tab) (an : Ann) (ops : Array Oper) (W : List Nat) (K : St → Prop) (j : Nat) (r : Sch) (st : St) : Prop := match ops[j]? with
      | some o => match late ops.toList o || stOK W st o.op with
        | true => vcOne P Γ an ops.toList st o fun st' => forkIf ops.toList j st' fun st'' => vcSch P Γ an ops W K r st''
        | false => False
      | none => False
theorem vcSch_alt {ops : Array Oper} {W : List Nat} {K : St → Prop} {j : Nat} {r rest : Sch} (h : vcSch P Γ an ops W K (.alt j r rest) st) :
    eltP P Γ an ops W K j r st ∧ (rest.ids ≠ [] → vcSch P Γ an ops W K rest st) := by
  cases rest with
  | alt j' r' rest' => exact ⟨h.1, fun _ => h.2⟩
  | done => exact ⟨h, fun hh => absurd rfl hh⟩
  | fin => exact ⟨h, fun hh => absurd rfl hh⟩
  | take j' r' => exact ⟨h, fun hh => absurd rfl hh⟩
theorem vcSch_sound (hT : TabOK P Γ) {ops : Array Oper} (hsel : Region.noSelect ops = true) {Q : Exit → Act → World → Prop} (hQ : ∀ c a w, ¬ Q (.panic c) a w) {K : St → Prop} {W : List Nat} (s : Sch) :
    (∀ {n : Nat} {listed : Array Bool} {st : St} {a : Act} {w : World} {ρ : Nat → Nat} {σ : Nat → Value}, Good P w0 H0 st a w ρ σ → schOK ops false n listed s = true → vcSch P Γ an ops W K s st →
      Next0 P w0 H0 (writesO ops.toList) st K (Q .normal) → wpAnyG P .any ops Q (Sees W st ρ w) (lateF ops) n listed a w) ∧
    (∀ {n : Nat} {listed : Array Bool} {st : St} {a : Act} {w : World} {ρ : Nat → Nat} {σ : Nat → Value}, Good P w0 H0 st a w ρ σ → schOK ops true (n + 1) listed s = true → (s.ids ≠ [] → vcSch P Γ an ops W K s st) →
      Next0 P w0 H0 (writesO ops.toList) st K (Q .normal) → (∀ j ∈ s.ids, j ∈ Region.ready .any ops listed) → ∀ j ∈ s.ids,
        wpOp P ops Q j (fun a' w' => (lateF ops j = false → Sees W st ρ w w') ∧ wpAnyG P .any ops Q (Sees W st ρ w) (lateF ops) n (listed.setIfInBounds j true) a' w') a w) := by
  have toA : ∀ (i : Nat) (o : Oper), ops[i]? = some o → ops.toList[i]? = some o := fun i o h => by simpa using h
  induction s with
  | done =>
    refine ⟨fun {n listed st a w ρ σ} hg hs h hn => ?_, fun _ _ _ _ _ j hj => by cases hj⟩
    simp only [schOK, List.isEmpty_iff] at hs
    exact wpAnyG_done hs (hn _ _ _ _ _ h ((Keeps.refl st).mono (by simp)) hg) n
  | fin =>
    refine ⟨fun hg hs h hn => ?_, fun _ _ _ _ _ j hj => by cases hj⟩
    simp [schOK] at hs
  | take j r ih =>
    refine ⟨fun {n listed st a w ρ σ} hg hs h hn => ?_, fun _ _ _ _ _ j hj => by cases hj⟩
    cases n with
    | zero => simp [schOK] at hs
    | succ n =>
      simp only [schOK] at hs
      split at hs
      · rename_i hc
        rw [Bool.and_eq_true, Bool.and_eq_true] at hc
        obtain ⟨⟨hr, hrd⟩, hfree⟩ := hc
        simp only [vcSch] at h
        split at h
        · rename_i o ho
          have hisrd : isRd o.op = true := by unfold rdAt at hrd; rw [ho] at hrd; exact hrd
          obtain ⟨v, st1, hy, hk, hkeep, hg1, hgo1⟩ := vcTake_sound hT hg h
          obtain ⟨st2, k1, k2, k3, k4⟩ := forkIf_sound hg1 hk
          have hk2 : Keeps (writesO ops.toList) st st2 := (hkeep.mono (dst_sub (toA _ _ ho))).trans k2
          have hS : Sees W st ρ w w := ⟨hg.snap, fun _ _ _ _ _ _ => rfl⟩
          have IH := ih.1 k3 hs k1 fun a3 w3 st3 ρ3 σ3 q1 q2 q3 => hn _ _ _ _ _ q1 (hk2.trans q2) q3
          refine wpAnyG_first (v := v) ho (Region.noSelect_spec hsel) (fun c a w hh => absurd hh (hQ _ _ _)) (fun k ok hf hk _ => lateF_waits ho (isRd_isSt hisrd) hf hk) n listed a w (Region.free_spec ho hfree) (readyIs_mem hr) ?_ hS ?_
          · simpa using hy
          · exact wpAnyG_mono (fun w' hw' => Sees.trans (Heap.le_trans hkeep.le k2.le) (hgo1.trans k4).any hw') _ _ _ _ IH
        · exact h.elim
      · simp at hs
  | alt j r rest ihr ihrest =>
    have elt : ∀ {n : Nat} {listed : Array Bool} {st : St} {a : Act} {w : World} {ρ : Nat → Nat} {σ : Nat → Value}, Good P w0 H0 st a w ρ σ → schOK ops false n (listed.setIfInBounds j true) r = true → eltP P Γ an ops W K j r st →
        Next0 P w0 H0 (writesO ops.toList) st K (Q .normal) → j ∈ Region.ready .any ops listed →
        wpOp P ops Q j (fun a' w' => (lateF ops j = false → Sees W st ρ w w') ∧ wpAnyG P .any ops Q (Sees W st ρ w) (lateF ops) n (listed.setIfInBounds j true) a' w') a w := by
      intro n listed st a w ρ σ hg hs h hn hj
      unfold eltP at h
      split at h
      · rename_i o ho
        split at h
        · rename_i hst
          have hw := vcOne_sound hT hg (toA _ _ ho) (Q := Q) (next := fun a' w' => (lateF ops j = false → Sees W st ρ w w') ∧ wpAnyG P .any ops Q (Sees W st ρ w) (lateF ops) n (listed.setIfInBounds j true) a' w') h ?_
          · simpa using hw
          · intro a' w' st1 ρ1 σ1 hk hkeep hg1 hgo1
            obtain ⟨st2, k1, k2, k3, k4⟩ := forkIf_sound hg1 hk
            have hk2 : Keeps (writesO ops.toList) st st2 := (hkeep.mono (dst_sub (toA _ _ ho))).trans k2
            have IH := ihr.1 k3 hs k1 fun a3 w3 st3 ρ3 σ3 q1 q2 q3 => hn _ _ _ _ _ q1 (hk2.trans q2) q3
            have hle := Heap.le_trans hkeep.le k2.le
            cases hlt : lateF ops j with
            | false =>
              have hlt' : late ops.toList o = false := by simpa [lateF, ho] using hlt
              have hgo : Goes (fun i => i ∈ W) st st2 ρ ρ1 w w' := by
                refine (hgo1.mono fun i hi => ?_).trans k4.any
                rw [hlt', Bool.false_or] at hst
                unfold stOK at hst
                rw [hi] at hst
                simpa using hst
              exact ⟨fun _ => Sees.of hle hgo k3.snap, wpAnyG_mono (fun w'' hw'' => Sees.trans hle hgo hw'') _ _ _ _ IH⟩
            | true => exact ⟨fun hh => by simp at hh, wpAnyG_weak _ _ _ _ (lateF_rest hlt hj) IH⟩
        · exact h.elim
      · exact h.elim
    have two : ∀ {n : Nat} {listed : Array Bool} {st : St} {a : Act} {w : World} {ρ : Nat → Nat} {σ : Nat → Value}, Good P w0 H0 st a w ρ σ → schOK ops false n (listed.setIfInBounds j true) r = true → schOK ops true (n + 1) listed rest = true →
        vcSch P Γ an ops W K (.alt j r rest) st → Next0 P w0 H0 (writesO ops.toList) st K (Q .normal) → (∀ i ∈ j :: rest.ids, i ∈ Region.ready .any ops listed) → ∀ i ∈ j :: rest.ids,
        wpOp P ops Q i (fun a' w' => (lateF ops i = false → Sees W st ρ w w') ∧ wpAnyG P .any ops Q (Sees W st ρ w) (lateF ops) n (listed.setIfInBounds i true) a' w') a w := by
      intro n listed st a w ρ σ hg hs1 hs2 h hn hr i hi
      obtain ⟨h1, h2⟩ := vcSch_alt h
      rcases List.mem_cons.1 hi with rfl | hi
      · exact elt hg hs1 h1 hn (hr _ (by simp))
      · exact ihrest.2 hg hs2 h2 hn (fun k hk => hr k (by simp [hk])) i hi
    refine ⟨fun {n listed st a w ρ σ} hg hs h hn => ?_, fun {n listed st a w ρ σ} hg hs h hn hr i hi => ?_⟩
    · cases n with
      | zero => simp [schOK] at hs
      | succ n =>
        simp only [schOK] at hs
        split at hs
        · rename_i hc
          rw [Bool.and_eq_true, Bool.false_or, beq_iff_eq] at hc
          refine ⟨fun h0 => ?_, fun i hi => ?_⟩
          · rw [h0] at hc; simp at hc
          · rw [hc.1] at hi
            exact two hg hc.2 hs h hn (fun k hk => by rw [hc.1]; exact hk) i hi
        · simp at hs
    · simp only [schOK] at hs
      split at hs
      · rename_i hc
        rw [Bool.and_eq_true] at hc
        exact two hg hc.2 hs (h (by simp [Sch.ids])) hn hr i hi
      · simp at hs
theorem Good.drew (hg : Good P w0 H0 st a w ρ σ) : Good P w0 H0 st a { w with drawn := w.drawn + 1 } ρ σ :=
  ⟨hg.defers, hg.size, hg.fr, ⟨hg.below.os, hg.below.tape, hg.below.output, hg.below.size, hg.below.block, Nat.le_trans hg.below.drawn (Nat.le_succ _)⟩, hg.le, hg.old, hg.snap, fun i f o h => by
    have := hg.obj i f o h
    cases o <;> simp only [ObjOK] at this ⊢
    case row e n xs => exact ⟨⟨this.1.row, this.1.nw⟩, this.2⟩
    all_goals exact this, hg.sep, hg.nr, hg.sl, hg.opn⟩
theorem draw_sound (hm : P.follows .mixedOrders = true) (hT : TabOK P Γ) (hg : Good P w0 H0 st a w ρ σ) {id : Nat} {ops : Array Oper} {Q : Exit → Act → World → Prop} {K : St → Prop} (hsel : Region.noSelect ops = true)
    {W : List Nat} {s : Sch} (hs : schOK ops false ops.size (Array.replicate ops.size false) s = true) (h : vcSch P Γ an ops W K s st) (hn : Next0 P w0 H0 (writesO ops.toList) st K (Q .normal)) : (Code.region id ops true).wp P Q a w := by
  refine wp_mono (Q := fun e a w => e = .normal ∧ Q .normal a w) (wp_region_g (S := Sees W st ρ { w with drawn := w.drawn + 1 }) (F := lateF ops) hm ?_) (fun e a w ⟨he, hq⟩ => he ▸ hq)
  exact (vcSch_sound hT hsel (fun c a w hh => by simp at hh) s).1 hg.drew hs h fun a' w' st' ρ' σ' h1 h2 h3 => ⟨rfl, hn _ _ _ _ _ h1 h2 h3⟩
end
end Go.Vc
