/- Regions that draw their order. -/
import Derived.Test.YteogpcpleokfbaaGJAg5
import Derived.Test.YteogpcpleokfbaaGJAg6
set_option linter.unusedSectionVars false
set_option linter.unusedSimpArgs false
set_option linter.unusedVariables false
namespace Go.Vc
open Go Go.RowKit

/- which operations are late -/
def lateF (ops : Array Oper) (i : Nat) : Bool := match ops[i]? with
  | some o => late ops.toList o
  | none => false
theorem waitsAll_get {l0 : List Oper} {o : Oper} : ∀ {l : List Oper} {k i : Nat} {x : Oper}, waitsAll l0 o l k = true → l[i]? = some x → isSt x = true ∨ waits2 l0 o (k + i) = true
  | [], k, i, x, h, e => by simp only [List.getElem?_nil, reduceCtorEq] at e
  | y :: l, k, 0, x, h, e => by
    simp only [waitsAll, Bool.and_eq_true, Bool.or_eq_true] at h
    simp only [List.getElem?_cons_zero, Option.some.injEq] at e
    rw [← e]
    exact h.1
  | y :: l, k, i + 1, x, h, e => by
    simp only [waitsAll, Bool.and_eq_true] at h
    rw [List.getElem?_cons_succ] at e
    have := waitsAll_get (k := k + 1) (i := i) h.2 e
    rw [show k + (i + 1) = k + 1 + i by omega]
    exact this
theorem allLate_mem {l : List Oper} (os : List Oper) {o : Oper} (h : allLate l os = true) (hm : o ∈ os) (hs : isSt o = true) : waitsAll l o l 0 = true := by
  induction os with
  | nil => cases hm
  | cons x os ih =>
    unfold allLate at h
    rw [Bool.and_eq_true] at h
    cases hm with
    | head => have h1 := h.1; rw [hs, Bool.not_true, Bool.false_or] at h1; exact h1
    | tail _ hm => exact ih h.2 hm
theorem waits_listed {oj : Oper} {i : Nat} {listed : Array Bool} (h : waits oj i = true) (h3 : ∀ e ∈ oj.after, Region.binds .any e = true → listed.getD e.on false = true) : listed.getD i false = true := by
  simp only [waits, List.any_eq_true, Bool.and_eq_true, beq_iff_eq] at h
  obtain ⟨e, h1, h2, h4⟩ := h
  have := h3 e (by simpa using h1) h4
  rwa [h2] at this
theorem listed_not {listed : Array Bool} {i : Nat} (h : listed.getD i false = true) (h0 : listed.getD i true = false) : False := by
  rcases Nat.lt_or_ge i listed.size with h' | h'
  · simp [h'] at h0 h; rw [h] at h0; cases h0
  · simp [Array.getElem?_eq_none h'] at h
theorem lateF_listed {ops : Array Oper} {i j : Nat} {oi : Oper} {listed : Array Bool} (hcl : Closed .any ops listed) (hi : ops[i]? = some oi) (hs : isSt oi = false) (hf : lateF ops j = true) (hr : j ∈ Region.ready .any ops listed) : listed.getD i false = true := by
  obtain ⟨_, oj, hj, h3⟩ := mem_ready.1 hr
  unfold lateF at hf
  rw [hj] at hf
  simp only [late] at hf
  split at hf
  · rename_i hsj
    have hmem : oj ∈ ops.toList := List.mem_of_getElem? (show ops.toList[j]? = some oj by simpa using hj)
    rcases waitsAll_get (allLate_mem _ hf hmem hsj) (show ops.toList[i]? = some oi by simpa using hi) with h | h
    · rw [hs] at h; simp at h
    · rw [Nat.zero_add] at h
      unfold waits2 at h
      rw [Bool.or_eq_true] at h
      rcases h with h | h
      · exact waits_listed h h3
      · rw [List.any_eq_true] at h
        obtain ⟨e, h1, h2⟩ := h
        rw [Bool.and_eq_true] at h2
        have he := h3 e (by simpa using h1) h2.1
        cases ho : ops.toList[e.on]? with
        | none => rw [ho] at h2; simp at h2
        | some o' =>
          rw [ho] at h2
          refine waits_listed h2.2 (hcl e.on o' (by simpa using ho) ?_)
          rcases Nat.lt_or_ge e.on listed.size with h' | h'
          · simp [h'] at he ⊢; exact he
          · simp [Array.getElem?_eq_none h']
  · simp at hf
/- behind a late operation all that is left is late -/
theorem lateF_rest {ops : Array Oper} {listed : Array Bool} {j : Nat} (hcl : Closed .any ops listed) (hf : lateF ops j = true) (hr : j ∈ Region.ready .any ops listed) (i : Nat) (hi : i < ops.size) (hun : (listed.setIfInBounds j true).getD i true = false) : lateF ops i = true := by
  have hio : ops[i]? = some ops[i] := by simp [hi]
  obtain ⟨h1, oj, h2, h3⟩ := mem_ready.1 hr
  cases hs : isSt ops[i] with
  | true =>
    unfold lateF at hf ⊢
    rw [h2] at hf; rw [hio]
    simp only [late] at hf ⊢
    split at hf
    · simp only [hs, hf]
    · simp at hf
  | false =>
    have := lateF_listed hcl hio hs hf hr
    by_cases hji : j = i
    · subst hji
      exact hf
    · rw [getD_set_ne true hji] at hun
      rcases Nat.lt_or_ge i listed.size with h' | h'
      · simp [h'] at hun this; rw [hun] at this; simp at this
      · simp [Array.getElem?_eq_none h'] at this
theorem isRd_isSt {o : Oper} (h : isRd o.op = true) : isSt o = false := by
  unfold isSt
  split
  · rename_i hh; rw [hh] at h; simp [isRd] at h
  · rfl
section
variable {P : Program} {Γ : Tab} {w0 : W0} {w w' : World} {H0 H' : Heap} {st st' : St} {a : Act} {ρ ρ' : Nat → Nat} {σ : Nat → Value} {an : Ann}
theorem killL_some {W : List Nat} : ∀ {L : List (Option Ent)} {k i : Nat} {f : Bool} {o : LObj}, (killL W k L)[i]? = some (some (f, o)) → o = .dead ∨ ((∀ e n xs, o ≠ .row e n xs) ∧ L[i]? = some (some (f, o)) ∧ k + i ∉ W)
  | [], k, i, f, o, h => by simp [killL] at h
  | none :: L, k, i, f, o, h => by
    cases i with
    | zero => simp [killL] at h
    | succ i =>
      have := killL_some (L := L) (k := k + 1) (i := i) (by simpa [killL] using h)
      simpa [Nat.add_assoc, Nat.add_comm 1 i] using this
  | some (g, b) :: L, k, i, f, o, h => by
    cases i with
    | zero =>
      simp only [killL, List.getElem?_cons_zero, Option.some.injEq] at h
      split at h
      · simp at h; exact .inl h.2.symm
      · rename_i hne
        split at h
        · simp at h; exact .inl h.2.symm
        · rename_i hW
          simp at h
          obtain ⟨rfl, rfl⟩ := h
          exact .inr ⟨fun e n xs hh => hne e n xs hh, rfl, by simpa using hW⟩
    | succ i =>
      have := killL_some (L := L) (k := k + 1) (i := i) (by simpa [killL] using h)
      simpa [Nat.add_assoc, Nat.add_comm 1 i] using this
theorem killL_none {W : List Nat} : ∀ {L : List (Option Ent)} {k i : Nat}, (killL W k L)[i]? = some none ↔ L[i]? = some none
  | [], k, i => by simp [killL]
  | none :: L, k, i => by
    cases i with
    | zero => simp [killL]
    | succ i => simpa [killL] using killL_none (L := L) (k := k + 1) (i := i)
  | some (g, b) :: L, k, i => by
    cases i with
    | zero =>
      simp only [killL, List.getElem?_cons_zero, Option.some.injEq]
      constructor
      · intro h
        split at h
        · simp at h
        · split at h <;> simp at h
      · intro h; simp at h
    | succ i => simpa [killL] using killL_none (L := L) (k := k + 1) (i := i)
/- what the reads of a region rest on -/
structure Sees (W : List Nat) (st : St) (ρ : Nat → Nat) (w w' : World) : Prop where
  snap : Snap st.H w'
  heap : ∀ (i : Nat) (f : Bool) (o : LObj), st.L[i]? = some (some (f, o)) → isBA o = true → i ∉ W → w'.heap[ρ i]? = w.heap[ρ i]?
theorem Sees.same {W : List Nat} (h : Sees W st ρ w w') : SameFor (noRows W st) ρ σ w w' := by
  refine ⟨h.snap, fun i f t cs hi => ?_, fun i f t xs hi => ?_, fun i f e n xs hi => ?_⟩
  · rcases killL_some hi with h1 | ⟨_, h1, h2⟩
    · simp at h1
    · exact h.heap i f _ h1 rfl (by simpa using h2)
  · rcases killL_some hi with h1 | ⟨_, h1, h2⟩
    · simp at h1
    · exact h.heap i f _ h1 rfl (by simpa using h2)
  · rcases killL_some hi with h1 | ⟨h1, _⟩
    · simp at h1
    · exact absurd rfl (h1 e n xs)
theorem Good.noRows (hg : Good P w0 H0 st a w ρ σ) (W : List Nat) : Good P w0 H0 (noRows W st) a w ρ σ := by
  refine hg.alike (fun i f o hi => ?_) (fun d hd => killL_none.1 hd)
  rcases killL_some hi with h1 | ⟨_, h1, _⟩
  · exact .inl h1
  · exact .inr ⟨f, h1⟩
theorem Sees.trans {W : List Nat} {w'' : World} (hk : Heap.le st.H st'.H) (hgo : Goes (fun i => i ∈ W) st st' ρ ρ' w w') (h : Sees W st' ρ' w' w'') : Sees W st ρ w w'' := by
  refine ⟨fun b o v hv => h.snap b o v (hk b o v hv), fun i f o h1 h2 hx => ?_⟩
  obtain ⟨f', h3⟩ := hgo.stay i f o h1 h2 hx
  have := h.heap i f' o h3 h2 hx
  rw [hgo.rho i f o h1 h2 hx] at this
  exact this.trans (hgo.heap i f o h1 h2 hx)
theorem Sees.of {W : List Nat} (hk : Heap.le st.H st'.H) (hgo : Goes (fun i => i ∈ W) st st' ρ ρ' w w') (hs : Snap st'.H w') : Sees W st ρ w w' :=
  ⟨fun b o v hv => hs b o v (hk b o v hv), hgo.heap⟩
theorem forkIf_sound (hg : Good P w0 H0 st a w ρ σ) {l : List Oper} {j : Nat} {K : St → Prop} (h : forkIf l j st K) :
    ∃ st', K st' ∧ Keeps (writesO l) st st' ∧ Good P w0 H0 st' a w ρ σ ∧ Goes noX st st' ρ ρ w w := by
  unfold forkIf at h
  split at h
  · obtain ⟨st', h1, h2, h3, h4⟩ := vcFork_sound hg h
    exact ⟨st', h1, h2.mono dstOf_sub, h3, h4⟩
  · exact ⟨st, h, (Keeps.refl st).mono (by simp), hg, Goes.refl _ _ _⟩
/- a read taken: one value in all the worlds -/
theorem vcTake_sound (hT : TabOK P Γ) (hg : Good P w0 H0 st a w ρ σ) {l : List Oper} {o : Oper} {K : St → Prop} {W : List Nat} (h : vcTake Γ W l st o K) :
    ∃ v st', YieldsIf P l.toArray (Sees W st ρ w) o v a ∧ K st' ∧ Keeps o.dst.toList st st' ∧ Good P w0 H0 st' (a.put o.dst v) w ρ σ ∧ Goes noX st st' ρ ρ w w := by
  have hskip : Region.wanted o (yielded l.toArray a.tmps) = false → K (setS st o.dst (.one .un)) → ∃ v st', YieldsIf P l.toArray (Sees W st ρ w) o v a ∧ K st' ∧ Keeps o.dst.toList st st' ∧ Good P w0 H0 st' (a.put o.dst v) w ρ σ ∧ Goes noX st st' ρ ρ w w := fun hw hk =>
    ⟨undef, _, .inr ⟨hw, rfl⟩, hk, Keeps.setS st o.dst _, Good.setS hg o.dst (r := .one .un) rfl (fun _ _ hh => hh), goes_setS _ _ _ _ _⟩
  have hrd : Region.wanted o (yielded l.toArray a.tmps) = true → (vcRd Γ (noRows W st) o.op fun r => K (setS st o.dst r)) → ∃ v st', YieldsIf P l.toArray (Sees W st ρ w) o v a ∧ K st' ∧ Keeps o.dst.toList st st' ∧ Good P w0 H0 st' (a.put o.dst v) w ρ σ ∧ Goes noX st st' ρ ρ w w := by
    intro hw hk
    obtain ⟨v, r, h1, h2, h3, h4⟩ := vcRd_sound hT (hg.noRows W) hk
    refine ⟨v, _, .inl ⟨hw, fun w' hw' => h1 w' hw'.same⟩, h4, Keeps.setS st o.dst r, Good.setS hg o.dst h2 fun d hd => h3 d ((hg.noRows W).nr d ?_), goes_setS _ _ _ _ _⟩
    exact killL_none.2 hd
  unfold vcTake at h
  split at h
  · rename_i hgd
    exact hrd (by simp [Region.wanted, hgd]) h
  · rename_i j want hgd
    split at h
    · exact h.elim
    · rename_i d hd
      split at h
      · rename_i hx
        have hy := yielded_of hg hd hx (v := .bool true) (fun y hy => hy)
        cases want
        · exact hskip (by simp [Region.wanted, hgd, hy, boolO]) h
        · exact hrd (by simp [Region.wanted, hgd, hy, boolO]) h
      · rename_i hx
        have hy := yielded_of hg hd hx (v := .bool false) (fun y hy => hy)
        cases want
        · exact hrd (by simp [Region.wanted, hgd, hy, boolO]) h
        · exact hskip (by simp [Region.wanted, hgd, hy, boolO]) h
      · rename_i hx
        have hy := yielded_of hg hd hx (v := undef) (fun y hy => hy)
        exact hskip (by simp [Region.wanted, hgd, hy, boolO, undef]) h
      · exact h.elim
theorem readyIs_mem {ops : Array Oper} {listed : Array Bool} {j : Nat} (h : readyIs ops listed j = true) : j ∈ Region.ready .any ops listed := by
  unfold readyIs at h
  rw [Bool.and_eq_true, Bool.not_eq_true'] at h
  obtain ⟨h1, h2⟩ := h
  cases ho : ops[j]? with
  | none => rw [ho] at h2; simp at h2
  | some o =>
    rw [ho] at h2
    refine mem_ready.2 ⟨h1, o, ho, fun e he hb => ?_⟩
    have := List.all_eq_true.1 h2 e (by simpa using he)
    rw [hb, Bool.not_true, Bool.false_or] at this
    exact this
def eltP (P : Program) (Γ : Tab) (an : Ann) (ops : Array Oper) (W : List Nat) (K : St → Prop) (j : Nat) (r : Sch) (st : St) : Prop := match ops[j]? with
      | some o => match late ops.toList o || (stOK W st o.op && bxOK an W st o) with
        | true => vcOne P Γ an ops.toList st o fun st' => forkIf ops.toList j st' fun st'' => vcSch P Γ an ops W K r st''
        | false => False
      | none => False
theorem vcSch_alt {ops : Array Oper} {W : List Nat} {K : St → Prop} {j : Nat} {r rest : Sch} (h : vcSch P Γ an ops W K (.alt j r rest) st) :
    eltP P Γ an ops W K j r st ∧ (rest.ids ≠ [] → vcSch P Γ an ops W K rest st) := by
  cases rest with
  | alt j' r' rest' => exact ⟨h.1, fun _ => h.2⟩
  | done => exact ⟨h, fun hh => absurd rfl hh⟩
  | fin => exact ⟨h, fun hh => absurd rfl hh⟩
  | take j' r' => exact ⟨h, fun hh => absurd rfl hh⟩
theorem vcSch_sound (hT : TabOK P Γ) {ops : Array Oper} (hsel : Region.noSelect ops = true) {Q : Exit → Act → World → Prop} (hQ : ∀ c a w, ¬ Q (.panic c) a w) {K : St → Prop} {W : List Nat} (s : Sch) :
    (∀ {n : Nat} {listed : Array Bool} {st : St} {a : Act} {w : World} {ρ : Nat → Nat} {σ : Nat → Value}, Good P w0 H0 st a w ρ σ → Closed .any ops listed → schOK ops false n listed s = true → vcSch P Γ an ops W K s st →
      Next0 P w0 H0 (writesO ops.toList) st K (Q .normal) → wpAnyG P .any ops Q (Sees W st ρ w) (lateF ops) n listed a w) ∧
    (∀ {n : Nat} {listed : Array Bool} {st : St} {a : Act} {w : World} {ρ : Nat → Nat} {σ : Nat → Value}, Good P w0 H0 st a w ρ σ → Closed .any ops listed → schOK ops true (n + 1) listed s = true → (s.ids ≠ [] → vcSch P Γ an ops W K s st) →
      Next0 P w0 H0 (writesO ops.toList) st K (Q .normal) → (∀ j ∈ s.ids, j ∈ Region.ready .any ops listed) → ∀ j ∈ s.ids,
        wpOp P ops Q j (fun a' w' => (lateF ops j = false → Sees W st ρ w w') ∧ wpAnyG P .any ops Q (Sees W st ρ w) (lateF ops) n (listed.setIfInBounds j true) a' w') a w) := by
  have toA : ∀ (i : Nat) (o : Oper), ops[i]? = some o → ops.toList[i]? = some o := fun i o h => by simpa using h
  induction s with
  | done =>
    refine ⟨fun {n listed st a w ρ σ} hg hcl hs h hn => ?_, fun _ _ _ _ _ _ j hj => by cases hj⟩
    simp only [schOK, List.isEmpty_iff] at hs
    exact wpAnyG_done hs (hn _ _ _ _ _ h ((Keeps.refl st).mono (by simp)) hg) n
  | fin =>
    refine ⟨fun hg hcl hs h hn => ?_, fun _ _ _ _ _ _ j hj => by cases hj⟩
    simp [schOK] at hs
  | take j r ih =>
    refine ⟨fun {n listed st a w ρ σ} hg hcl hs h hn => ?_, fun _ _ _ _ _ _ j hj => by cases hj⟩
    cases n with
    | zero => simp [schOK] at hs
    | succ n =>
      simp only [schOK] at hs
      split at hs
      · rename_i hc
        rw [Bool.and_eq_true, Bool.and_eq_true] at hc
        obtain ⟨⟨hr, hrd⟩, hfree⟩ := hc
        simp only [vcSch] at h
        split at h
        · rename_i o ho
          have hisrd : isRd o.op = true := by unfold rdAt at hrd; rw [ho] at hrd; exact hrd
          obtain ⟨v, st1, hy, hk, hkeep, hg1, hgo1⟩ := vcTake_sound hT hg h
          obtain ⟨st2, k1, k2, k3, k4⟩ := forkIf_sound hg1 hk
          have hk2 : Keeps (writesO ops.toList) st st2 := (hkeep.mono (dst_sub (toA _ _ ho))).trans k2
          have hS : Sees W st ρ w w := ⟨hg.snap, fun _ _ _ _ _ _ => rfl⟩
          have IH := ih.1 k3 (hcl.set (readyIs_mem hr)) hs k1 fun a3 w3 st3 ρ3 σ3 q1 q2 q3 => hn _ _ _ _ _ q1 (hk2.trans q2) q3
          refine wpAnyG_first (v := v) ho (Region.noSelect_spec hsel) (fun c a w hh => absurd hh (hQ _ _ _)) (fun listed' k hcl' hf hk h0 => (listed_not (lateF_listed hcl' ho (isRd_isSt hisrd) hf hk) h0).elim) n listed a w hcl (Region.free_spec ho hfree) (readyIs_mem hr) ?_ hS ?_
          · simpa using hy
          · exact wpAnyG_mono (fun w' hw' => Sees.trans (Heap.le_trans hkeep.le k2.le) (hgo1.trans k4).any hw') _ _ _ _ IH
        · exact h.elim
      · simp at hs
  | alt j r rest ihr ihrest =>
    have elt : ∀ {n : Nat} {listed : Array Bool} {st : St} {a : Act} {w : World} {ρ : Nat → Nat} {σ : Nat → Value}, Good P w0 H0 st a w ρ σ → Closed .any ops listed → schOK ops false n (listed.setIfInBounds j true) r = true → eltP P Γ an ops W K j r st →
        Next0 P w0 H0 (writesO ops.toList) st K (Q .normal) → j ∈ Region.ready .any ops listed →
        wpOp P ops Q j (fun a' w' => (lateF ops j = false → Sees W st ρ w w') ∧ wpAnyG P .any ops Q (Sees W st ρ w) (lateF ops) n (listed.setIfInBounds j true) a' w') a w := by
      intro n listed st a w ρ σ hg hcl hs h hn hj
      unfold eltP at h
      split at h
      · rename_i o ho
        split at h
        · rename_i hst
          have hw := vcOne_sound hT hg (toA _ _ ho) (Q := Q) (next := fun a' w' => (lateF ops j = false → Sees W st ρ w w') ∧ wpAnyG P .any ops Q (Sees W st ρ w) (lateF ops) n (listed.setIfInBounds j true) a' w') h ?_
          · simpa using hw
          · intro a' w' st1 ρ1 σ1 hk hkeep hg1 hgo1
            obtain ⟨st2, k1, k2, k3, k4⟩ := forkIf_sound hg1 hk
            have hk2 : Keeps (writesO ops.toList) st st2 := (hkeep.mono (dst_sub (toA _ _ ho))).trans k2
            have IH := ihr.1 k3 (hcl.set hj) hs k1 fun a3 w3 st3 ρ3 σ3 q1 q2 q3 => hn _ _ _ _ _ q1 (hk2.trans q2) q3
            have hle := Heap.le_trans hkeep.le k2.le
            cases hlt : lateF ops j with
            | false =>
              have hlt' : late ops.toList o = false := by simpa [lateF, ho] using hlt
              have hgo : Goes (fun i => i ∈ W) st st2 ρ ρ1 w w' := by
                refine (hgo1.mono fun i hi => ?_).trans k4.any
                rw [hlt', Bool.false_or, Bool.and_eq_true] at hst
                rcases hi with hi | hi
                · have h1 := hst.1
                  unfold stOK at h1
                  rw [hi] at h1
                  simpa using h1
                · have h1 := hst.2
                  unfold bxOK at h1
                  rw [hi] at h1
                  simpa using h1
              exact ⟨fun _ => Sees.of hle hgo k3.snap, wpAnyG_mono (fun w'' hw'' => Sees.trans hle hgo hw'') _ _ _ _ IH⟩
            | true => exact ⟨fun hh => by simp at hh, wpAnyG_weak _ _ _ _ (lateF_rest hcl hlt hj) IH⟩
        · exact h.elim
      · exact h.elim
    have two : ∀ {n : Nat} {listed : Array Bool} {st : St} {a : Act} {w : World} {ρ : Nat → Nat} {σ : Nat → Value}, Good P w0 H0 st a w ρ σ → Closed .any ops listed → schOK ops false n (listed.setIfInBounds j true) r = true → schOK ops true (n + 1) listed rest = true →
        vcSch P Γ an ops W K (.alt j r rest) st → Next0 P w0 H0 (writesO ops.toList) st K (Q .normal) → (∀ i ∈ j :: rest.ids, i ∈ Region.ready .any ops listed) → ∀ i ∈ j :: rest.ids,
        wpOp P ops Q i (fun a' w' => (lateF ops i = false → Sees W st ρ w w') ∧ wpAnyG P .any ops Q (Sees W st ρ w) (lateF ops) n (listed.setIfInBounds i true) a' w') a w := by
      intro n listed st a w ρ σ hg hcl hs1 hs2 h hn hr i hi
      obtain ⟨h1, h2⟩ := vcSch_alt h
      rcases List.mem_cons.1 hi with rfl | hi
      · exact elt hg hcl hs1 h1 hn (hr _ (by simp))
      · exact ihrest.2 hg hcl hs2 h2 hn (fun k hk => hr k (by simp [hk])) i hi
    refine ⟨fun {n listed st a w ρ σ} hg hcl hs h hn => ?_, fun {n listed st a w ρ σ} hg hcl hs h hn hr i hi => ?_⟩
    · cases n with
      | zero => simp [schOK] at hs
      | succ n =>
        simp only [schOK] at hs
        split at hs
        · rename_i hc
          rw [Bool.and_eq_true, Bool.false_or, beq_iff_eq] at hc
          refine ⟨fun h0 => ?_, fun i hi => ?_⟩
          · rw [h0] at hc; simp at hc
          · rw [hc.1] at hi
            exact two hg hcl hc.2 hs h hn (fun k hk => by rw [hc.1]; exact hk) i hi
        · simp at hs
    · simp only [schOK] at hs
      split at hs
      · rename_i hc
        rw [Bool.and_eq_true] at hc
        exact two hg hcl hc.2 hs (h (by simp [Sch.ids])) hn hr i hi
      · simp at hs
theorem Good.drew (hg : Good P w0 H0 st a w ρ σ) : Good P w0 H0 st a { w with drawn := w.drawn + 1 } ρ σ :=
  ⟨hg.defers, hg.size, hg.fr, ⟨hg.below.os, hg.below.tape, hg.below.output, hg.below.size, hg.below.block, Nat.le_trans hg.below.drawn (Nat.le_succ _)⟩, hg.le, hg.old, hg.snap, fun i f o h => by
    have := hg.obj i f o h
    cases o <;> simp only [ObjOK] at this ⊢
    case row e n xs => exact ⟨⟨this.1.row, this.1.nw⟩, this.2⟩
    all_goals exact this, hg.sep, hg.nr, hg.sl, hg.opn⟩
theorem draw_sound (hm : P.follows .mixedOrders = true) (hT : TabOK P Γ) (hg : Good P w0 H0 st a w ρ σ) {id : Nat} {ops : Array Oper} {Q : Exit → Act → World → Prop} {K : St → Prop} (hsel : Region.noSelect ops = true)
    {W : List Nat} {s : Sch} (hs : schOK ops false ops.size (Array.replicate ops.size false) s = true) (h : vcSch P Γ an ops W K s st) (hn : Next0 P w0 H0 (writesO ops.toList) st K (Q .normal)) : (Code.region id ops true).wp P Q a w := by
  refine wp_mono (Q := fun e a w => e = .normal ∧ Q .normal a w) (wp_region_g (S := Sees W st ρ { w with drawn := w.drawn + 1 }) (F := lateF ops) hm ?_) (fun e a w ⟨he, hq⟩ => he ▸ hq)
  exact (vcSch_sound hT hsel (fun c a w hh => by simp at hh) s).1 hg.drew (Closed.empty _ (Nat.le_refl _)) hs h fun a' w' st' ρ' σ' h1 h2 h3 => ⟨rfl, hn _ _ _ _ _ h1 h2 h3⟩
end
end Go.Vc
/- The code: the theorem. -/
namespace Go.Vc
open Go Go.RowKit

theorem havF_length : ∀ (ds : List Nat) (fr : List SV), (havF ds fr).length = fr.length
  | [], _ => rfl
  | d :: ds, fr => by simp [havF, havF_length ds]
theorem havF_get : ∀ {ds : List Nat} {fr : List SV} {j : Nat} {x : SV}, (havF ds fr)[j]? = some x → x = .one .any ∨ (j ∉ ds ∧ fr[j]? = some x)
  | [], fr, j, x, h => .inr ⟨by simp, h⟩
  | d :: ds, fr, j, x, h => by
    rcases havF_get (ds := ds) (fr := fr.set d (.one .any)) h with h1 | ⟨h1, h2⟩
    · exact .inl h1
    · by_cases hj : d = j
      · subst hj
        rw [List.getElem?_set_self'] at h2
        cases hl : fr[d]? with
        | none => rw [hl] at h2; simp at h2
        | some y => rw [hl] at h2; simp at h2; exact .inl h2.symm
      · rw [List.getElem?_set_ne hj] at h2
        exact .inr ⟨by simp [Ne.symm hj, h1], h2⟩
theorem havF_not : ∀ {ds : List Nat} {fr : List SV} {j : Nat}, j ∉ ds → (havF ds fr)[j]? = fr[j]?
  | [], _, _, _ => rfl
  | d :: ds, fr, j, h => by
    simp at h
    simp only [havF]
    rw [havF_not h.2, List.getElem?_set_ne (Ne.symm h.1)]
theorem havL_length : ∀ (ds : List Nat) (L : List (Option Ent)), (havL ds L).length = L.length
  | [], _ => rfl
  | d :: ds, fr => by simp [havL, havL_length ds]
theorem havL_get : ∀ {ds : List Nat} {L : List (Option Ent)} {j : Nat} {x : Option Ent}, (havL ds L)[j]? = some x → (x = none ∧ (j ∈ ds ∨ L[j]? = some none)) ∨ (j ∉ ds ∧ L[j]? = some x)
  | [], L, j, x, h => .inr ⟨by simp, h⟩
  | d :: ds, L, j, x, h => by
    rcases havL_get (ds := ds) (L := L.set d none) h with ⟨h1, h2⟩ | ⟨h1, h2⟩
    · rcases h2 with h2 | h2
      · exact .inl ⟨h1, .inl (by simp [h2])⟩
      · by_cases hj : d = j
        · exact .inl ⟨h1, .inl (by simp [hj])⟩
        · rw [List.getElem?_set_ne hj] at h2
          exact .inl ⟨h1, .inr h2⟩
    · by_cases hj : d = j
      · subst hj
        rw [List.getElem?_set_self'] at h2
        cases hl : L[d]? with
        | none => rw [hl] at h2; simp at h2
        | some y => rw [hl] at h2; simp at h2; exact .inl ⟨h2.symm, .inl (by simp)⟩
      · rw [List.getElem?_set_ne hj] at h2
        exact .inr ⟨by simp [Ne.symm hj, h1], h2⟩
theorem havL_not : ∀ {ds : List Nat} {L : List (Option Ent)} {j : Nat}, j ∉ ds → (havL ds L)[j]? = L[j]?
  | [], _, _, _ => rfl
  | d :: ds, fr, j, h => by
    simp at h
    simp only [havL]
    rw [havL_not h.2, List.getElem?_set_ne (Ne.symm h.1)]
theorem lock_length : ∀ (L : List (Option Ent)), (lock L).length = L.length
  | [] => rfl
  | none :: L => by simp [lock, lock_length L]
  | some (_, _) :: L => by simp [lock, lock_length L]
theorem lock_get : ∀ (L : List (Option Ent)) (j : Nat), (lock L)[j]? = (L[j]?).map (Option.map fun x => (false, x.2))
  | [], j => by simp [lock]
  | none :: L, j => by
    cases j with
    | zero => simp [lock]
    | succ j => simpa [lock] using lock_get L j
  | some (_, _) :: L, j => by
    cases j with
    | zero => simp [lock]
    | succ j => simpa [lock] using lock_get L j
theorem deadB_length : ∀ (is : List Item) (L : List (Option Ent)), (deadB is L).length = L.length
  | [], _ => rfl
  | .slot _ _ _ :: is, L => deadB_length is L
  | .box i _ _ :: is, L => by simp [deadB, deadB_length is]
  | .arr i _ :: is, L => by simp [deadB, deadB_length is]
  | .rowc i _ :: is, L => by simp [deadB, deadB_length is]
theorem deadB_get : ∀ {is : List Item} {L : List (Option Ent)} {j : Nat} {x : Option Ent}, (deadB is L)[j]? = some x → x = some (false, .dead) ∨ (j ∉ itemBoxes is ∧ L[j]? = some x)
  | [], L, j, x, h => .inr ⟨by simp [itemBoxes], h⟩
  | .slot _ _ _ :: is, L, j, x, h => deadB_get (is := is) h
  | .box i _ _ :: is, L, j, x, h => by
    rcases deadB_get (is := is) h with h1 | ⟨h1, h2⟩
    · exact .inl h1
    · by_cases hj : i = j
      · subst hj
        rw [List.getElem?_set_self'] at h2
        cases hl : L[i]? with
        | none => rw [hl] at h2; simp at h2
        | some y => rw [hl] at h2; simp at h2; exact .inl h2.symm
      · rw [List.getElem?_set_ne hj] at h2
        exact .inr ⟨by simp [itemBoxes, Ne.symm hj, h1], h2⟩
  | .arr i _ :: is, L, j, x, h => by
    rcases deadB_get (is := is) h with h1 | ⟨h1, h2⟩
    · exact .inl h1
    · by_cases hj : i = j
      · subst hj
        rw [List.getElem?_set_self'] at h2
        cases hl : L[i]? with
        | none => rw [hl] at h2; simp at h2
        | some y => rw [hl] at h2; simp at h2; exact .inl h2.symm
      · rw [List.getElem?_set_ne hj] at h2
        exact .inr ⟨by simp [itemBoxes, Ne.symm hj, h1], h2⟩
  | .rowc i _ :: is, L, j, x, h => by
    rcases deadB_get (is := is) h with h1 | ⟨h1, h2⟩
    · exact .inl h1
    · by_cases hj : i = j
      · subst hj
        rw [List.getElem?_set_self'] at h2
        cases hl : L[i]? with
        | none => rw [hl] at h2; simp at h2
        | some y => rw [hl] at h2; simp at h2; exact .inl h2.symm
      · rw [List.getElem?_set_ne hj] at h2
        exact .inr ⟨by simp [itemBoxes, Ne.symm hj, h1], h2⟩
theorem deadB_not : ∀ {is : List Item} {L : List (Option Ent)} {j : Nat}, j ∉ itemBoxes is → (deadB is L)[j]? = L[j]?
  | [], _, _, _ => rfl
  | .slot _ _ _ :: is, L, j, h => deadB_not (is := is) h
  | .box i _ _ :: is, L, j, h => by
    simp [itemBoxes] at h
    simp only [deadB]
    rw [deadB_not h.2, List.getElem?_set_ne (Ne.symm h.1)]
  | .arr i _ :: is, L, j, h => by
    simp [itemBoxes] at h
    simp only [deadB]
    rw [deadB_not h.2, List.getElem?_set_ne (Ne.symm h.1)]
  | .rowc i _ :: is, L, j, h => by
    simp [itemBoxes] at h
    simp only [deadB]
    rw [deadB_not h.2, List.getElem?_set_ne (Ne.symm h.1)]
theorem allFree_mem {st : St} : ∀ {ds : List Nat}, allFree st ds = true → ∀ d ∈ ds, st.L[d]? = some none
  | [], _, d, hd => by simp at hd
  | x :: ds, h, d, hd => by
    simp [allFree] at h
    rcases List.mem_cons.1 hd with rfl | hd
    · exact fresh?_some h.1
    · exact allFree_mem h.2 d hd
/- the head's objects -/
theorem headSt_get {an : Ann} {c : Code} {is : List Item} {st : St} {H : Heap} {O : OMap} {i : Nat} {f : Bool} {o : LObj} (h : (headSt an c is st H O).L[i]? = some (some (f, o))) :
    o = .dead ∨ (f = false ∧ i ∉ itemBoxes is ∧ ∃ f', st.L[i]? = some (some (f', o))) := by
  simp only [headSt] at h
  rcases deadB_get h with h1 | ⟨h1, h2⟩
  · simp at h1; exact .inl h1.2
  · right
    rcases havL_get h2 with ⟨h3, _⟩ | ⟨_, h3⟩
    · simp at h3
    · rcases havL_get h3 with ⟨h4, _⟩ | ⟨_, h4⟩
      · simp at h4
      · rw [lock_get] at h4
        cases hl : st.L[i]? with
        | none => rw [hl] at h4; simp at h4
        | some e =>
          rw [hl] at h4
          cases e with
          | none => simp at h4
          | some e =>
            simp at h4
            exact ⟨h4.1, h1, e.1, by rw [← h4.2]⟩
theorem headSt_none {an : Ann} {c : Code} {is : List Item} {st : St} {H : Heap} {O : OMap} {i : Nat} (h : (headSt an c is st H O).L[i]? = some none) :
    st.L[i]? = some none ∨ i ∈ itemIds is ++ idsOf an c := by
  simp only [headSt] at h
  rcases deadB_get h with h1 | ⟨h1, h2⟩
  · simp at h1
  · rcases havL_get h2 with ⟨_, h3⟩ | ⟨_, h3⟩
    · rcases h3 with h3 | h3
      · exact .inr (by simp [h3])
      · rcases havL_get h3 with ⟨_, h4⟩ | ⟨_, h4⟩
        · rcases h4 with h4 | h4
          · exact .inr (by simp [h4])
          · rw [lock_get] at h4
            cases hl : st.L[i]? with
            | none => rw [hl] at h4; simp at h4
            | some e => rw [hl] at h4; cases e <;> simp at h4; exact .inl rfl
        · rw [lock_get] at h4
          cases hl : st.L[i]? with
          | none => rw [hl] at h4; simp at h4
          | some e => rw [hl] at h4; cases e <;> simp at h4; exact .inl rfl
    · rcases havL_get h3 with ⟨_, h4⟩ | ⟨_, h4⟩
      · rcases h4 with h4 | h4
        · exact .inr (by simp [h4])
        · rw [lock_get] at h4
          cases hl : st.L[i]? with
          | none => rw [hl] at h4; simp at h4
          | some e => rw [hl] at h4; cases e <;> simp at h4; exact .inl rfl
      · rw [lock_get] at h4
        cases hl : st.L[i]? with
        | none => rw [hl] at h4; simp at h4
        | some e => rw [hl] at h4; cases e <;> simp at h4; exact .inl rfl
theorem headSt_ro {an : Ann} {c : Code} {is : List Item} {st : St} {H : Heap} {O : OMap} {i : Nat} {o : LObj} {f : Bool} (h : st.L[i]? = some (some (f, o))) (h1 : i ∉ itemBoxes is) (h2 : i ∉ itemIds is ++ idsOf an c) :
    (headSt an c is st H O).L[i]? = some (some (false, o)) := by
  simp at h2
  simp only [headSt]
  rw [deadB_not h1, havL_not h2.1, havL_not h2.2, lock_get, h]
  rfl
theorem unlock_get : ∀ (L L' : List (Option Ent)) (i : Nat), (∃ o, (∃ o', L[i]? = some (some (true, o'))) ∧ (∃ f, L'[i]? = some (some (f, o))) ∧ (unlock L L')[i]? = some (some (true, o))) ∨
    ((unlock L L')[i]? = L'[i]? ∧ ((∀ o, L[i]? ≠ some (some (true, o))) ∨ (∀ x, L'[i]? ≠ some (some x))))
  | [], L', i => .inr ⟨rfl, .inl (by simp)⟩
  | x :: L, [], i => .inr ⟨by cases x with
      | none => rfl
      | some x => obtain ⟨b, o⟩ := x; cases b <;> rfl, .inr (by simp)⟩
  | none :: L, y :: L', i => by
    cases i with
    | zero => exact .inr ⟨rfl, .inl (by simp)⟩
    | succ i => simpa [unlock] using unlock_get L L' i
  | some (false, o) :: L, y :: L', i => by
    cases i with
    | zero => exact .inr ⟨rfl, .inl (by simp)⟩
    | succ i => simpa [unlock] using unlock_get L L' i
  | some (true, o) :: L, none :: L', i => by
    cases i with
    | zero => exact .inr ⟨rfl, .inr (by simp)⟩
    | succ i => simpa [unlock] using unlock_get L L' i
  | some (true, o) :: L, some (f, o') :: L', i => by
    cases i with
    | zero => exact .inl ⟨o', ⟨o, rfl⟩, ⟨f, rfl⟩, rfl⟩
    | succ i => simpa [unlock] using unlock_get L L' i
theorem unlock_length : ∀ (L L' : List (Option Ent)), (unlock L L').length = L'.length
  | [], L' => rfl
  | x :: L, [] => by
    cases x with
    | none => rfl
    | some x => obtain ⟨b, o⟩ := x; cases b <;> rfl
  | none :: L, y :: L' => by simp [unlock, unlock_length L L']
  | some (false, o) :: L, y :: L' => by simp [unlock, unlock_length L L']
  | some (true, o) :: L, none :: L' => by simp [unlock, unlock_length L L']
  | some (true, o) :: L, some (f, o') :: L' => by simp [unlock, unlock_length L L']

section
variable {P : Program} {Γ : Tab} {w0 : W0} {w w' : World} {H0 H' : Heap} {a : Act} {ρ : Nat → Nat} {σ : Nat → Value} {an : Ann}
/- what holds of the state at a round's end, against the state st before the loop (st2: behind the handing over) -/
structure AtHead (an : Ann) (c : Code) (is : List Item) (st st2 stc st3 : St) : Prop where
  fl : stc.fr.length = st.fr.length
  ll : stc.L.length = st.L.length
  fr : ∀ j, j ∉ itemSlots is → j ∉ writes an c → stc.fr[j]? = st.fr[j]?
  obj : ∀ (i : Nat) (f : Bool) (o : LObj), (headSt an c is st2 stc.H noO).L[i]? = some (some (f, o)) → o = .dead ∨ (f = false ∧ ∃ f', st3.L[i]? = some (some (f', o)))
  le : Heap.le st.H stc.H
theorem head_LI {c : Code} {is : List Item} {st st2 stc st3 : St} (hnr : ∀ d : Nat, st.L[d]? = some none → st.noRef d) (hd2 : Dies st st2) (hfree : allFree st (itemIds is ++ idsOf an c) = true)
    (hg : Good P w0 H0 stc a w ρ σ) (hd3 : Dies stc st3) (hh : AtHead an c is st st2 stc st3) {O' : OMap} (hO : ∀ b : Nat, O' b ≠ none → stc.O b = O' b) : LI P w0 H0 a w ρ σ stc st3 (headSt an c is st2 stc.H O') σ stc := by
  have hg3 := hg.dies hd3
  have hfr : ∀ (j : Nat) (x : SV), (headSt an c is st2 stc.H O').fr[j]? = some x → x = .one .any ∨ (st.fr[j]? = some x ∧ stc.fr[j]? = some x) := by
    intro j x hx
    simp only [headSt] at hx
    rcases havF_get hx with h1 | ⟨h1, h2⟩
    · exact .inl h1
    · rcases havF_get h2 with h3 | ⟨h3, h4⟩
      · exact .inl h3
      · rw [hd2.fr] at h4
        exact .inr ⟨h4, (hh.fr j h1 h3).trans h4⟩
  have hlen : (headSt an c is st2 stc.H O').L.length = stc.L.length := by
    simp only [headSt, deadB_length, havL_length, lock_length]
    rw [hd2.ll, hh.ll]
  have hfl : (headSt an c is st2 stc.H O').fr.length = stc.fr.length := by
    simp only [headSt, havF_length]
    rw [hd2.fr, hh.fl]
  have hobj3 : ∀ (i : Nat) (f : Bool) (o : LObj), (headSt an c is st2 stc.H O').L[i]? = some (some (f, o)) → o ≠ .dead → ∃ f', st3.L[i]? = some (some (f', o)) := by
    intro i f o hi ho
    rcases hh.obj i f o hi with h | ⟨_, h⟩
    · exact absurd h ho
    · exact h
  refine ⟨⟨hg.defers, by rw [hg.size, hfl], fun i x hx => ?_, hg.below, hg.le, hg.old, hg.snap, fun i f o hi => ?_, fun i j f f' o o' g hij hi hj hb hb' => ?_, fun d hd => ?_, hg.sl, fun b x hb => ?_⟩, Dies.refl _, rfl, hfl, hlen, fun j f o g hj hb => ?_, hO, fun _ _ _ => rfl⟩
  rotate_right
  rotate_right
  · obtain ⟨k1, k2⟩ := hg.opn b x ((hO b (by rw [show O' b = _ from hb]; simp)).trans hb)
    refine ⟨k1, fun i f o hi => ?_⟩
    by_cases ho : o = .dead
    · subst ho; simp [blk]
    · obtain ⟨f', h⟩ := hobj3 i f o hi ho
      exact k2 i f' o (hd3.back h ho)
  rotate_left
  · rcases hfr i x hx with rfl | ⟨_, h⟩
    · trivial
    · exact hg.fr i x h
  · by_cases ho : o = .dead
    · subst ho; trivial
    · obtain ⟨f', h⟩ := hobj3 i f o hi ho
      have := hg3.obj i f' o h
      rw [hd3.H] at this
      exact this
  · have ho : o ≠ .dead := by rintro rfl; simp [blk] at hb
    have ho' : o' ≠ .dead := by rintro rfl; simp [blk] at hb'
    obtain ⟨f1, h1⟩ := hobj3 i f o hi ho
    obtain ⟨f2, h2⟩ := hobj3 j f' o' hj ho'
    exact hg3.sep i j f1 f2 o o' g hij h1 h2 hb hb'
  · have hst : st.L[d]? = some none := by
      rcases headSt_none hd with h | h
      · exact hd2.none h
      · exact allFree_mem hfree d h
    have hn := hnr d hst
    refine ⟨fun j x hx => ?_, fun j f o hj => ?_⟩
    · rcases hfr j x hx with rfl | ⟨h, _⟩
      · exact fun hh => hh
      · exact hn.fr j x h
    · rcases headSt_get hj with rfl | ⟨_, _, f', h⟩
      · exact fun hh => hh
      · by_cases ho : o = .dead
        · subst ho; exact fun hh => hh
        · exact hn.obj j f' o (hd2.back h ho)
  · have ho : o ≠ .dead := by rintro rfl; simp [blk] at hb
    obtain ⟨f', h⟩ := hobj3 j f o hj ho
    refine ⟨j, f', o, hd3.back h ho, hb, .inl ⟨rfl, fun hd => ?_⟩⟩
    unfold isDead at hd
    rw [h] at hd
    simp at hd
    exact ho hd.2

def NextE (P : Program) (w0 : W0) (H0 : Heap) (ws : List Nat) (st : St) (K : Exit → St → Prop) (Q : Exit → Act → World → Prop) : Prop :=
  ∀ e a' w' st' ρ' σ', K e st' → Keeps ws st st' → Good P w0 H0 st' a' w' ρ' σ' → Q e a' w'
theorem NextE.mono {ws ws' : List Nat} {st : St} {K : Exit → St → Prop} {Q : Exit → Act → World → Prop} (h : NextE P w0 H0 ws' st K Q) (hs : ∀ x ∈ ws, x ∈ ws') : NextE P w0 H0 ws st K Q :=
  fun e a' w' st' ρ' σ' h1 h2 h3 => h e a' w' st' ρ' σ' h1 (h2.mono hs) h3
theorem allO_elim {o : Bool} {K : OMap → Prop} (O : OMap) (h : allO o K) : ∃ O' : OMap, (∀ b : Nat, O' b ≠ none → O b = O' b) ∧ (∀ (q : HP o) (H : Heap), apH o q H O → apH o q H O') ∧ K O' := by
  cases o with
  | false => exact ⟨noO, fun b hb => absurd rfl hb, fun q H h => h, h⟩
  | true => exact ⟨O, fun _ _ => rfl, fun _ _ h => h, h O⟩
theorem vcC_sound (hm : P.follows .mixedOrders = true) (hT : TabOK P Γ) : ∀ {c : Code} {K : Exit → St → Prop} {Q : Exit → Act → World → Prop} {st : St} {a : Act} {w : World} {ρ : Nat → Nat} {σ : Nat → Value},
    Good P w0 H0 st a w ρ σ → vcC P Γ an c K st → NextE P w0 H0 (writes an c) st K Q → c.wp P Q a w := by
  intro c
  induction c with
  | skip => intro K Q st a w ρ σ hg h hn; exact wp_skip (hn _ _ _ _ _ _ h ((Keeps.refl st).mono (by simp)) hg)
  | label l => intro K Q st a w ρ σ hg h hn; exact wp_label (hn _ _ _ _ _ _ h ((Keeps.refl st).mono (by simp)) hg)
  | exit l => intro K Q st a w ρ σ hg h hn; exact wp_exit (hn _ _ _ _ _ _ h ((Keeps.refl st).mono (by simp)) hg)
  | ret => intro K Q st a w ρ σ hg h hn; exact wp_ret (hn _ _ _ _ _ _ h ((Keeps.refl st).mono (by simp)) hg)
  | region id ops draw =>
    intro K Q st a w ρ σ hg h hn
    cases draw with
    | false => exact region_sound hT hg h fun a' w' st' ρ' σ' h1 h2 h3 => hn _ _ _ _ _ _ h1 h2 h3
    | true =>
      simp only [vcC] at h
      split at h
      · rename_i hs
        split at h
        · rename_i hsch
          exact draw_sound hm hT hg hs hsch h fun a' w' st' ρ' σ' h1 h2 h3 => hn _ _ _ _ _ _ h1 h2 h3
        · exact h.elim
      · exact h.elim
  | seq x y ihx ihy =>
    intro K Q st a w ρ σ hg h hn
    refine wp_seq (ihx hg h ?_)
    intro e a' w' st' ρ' σ' h1 h2 h3
    have hk : Keeps (writes an (.seq x y)) st st' := h2.mono (by simp [writes]; intro x hx; exact .inl hx)
    cases e with
    | normal => exact ihy h3 h1 fun e a'' w'' st'' ρ'' σ'' k1 k2 k3 => hn _ _ _ _ _ _ k1 (hk.trans (k2.mono (by simp [writes]; intro x hx; exact .inr hx))) k3
    | _ => exact hn _ _ _ _ _ _ h1 hk h3
  | cond o x y ihx ihy =>
    intro K Q st a w ρ σ hg h hn
    have hx : ∀ {st : St} {a : Act} {w : World} {ρ σ}, Good P w0 H0 st a w ρ σ → vcC P Γ an x K st → NextE P w0 H0 (writes an (.cond o x y)) st K Q → x.wp P Q a w :=
      fun hg h hn => ihx hg h (hn.mono (by simp [writes]; intro x hx; exact .inl hx))
    have hy : ∀ {st : St} {a : Act} {w : World} {ρ σ}, Good P w0 H0 st a w ρ σ → vcC P Γ an y K st → NextE P w0 H0 (writes an (.cond o x y)) st K Q → y.wp P Q a w :=
      fun hg h hn => ihy hg h (hn.mono (by simp [writes]; intro x hx; exact .inr hx))
    simp only [vcC] at h
    split at h
    · rename_i he
      exact wp_cond_true (ev_rel hg he) (hx hg h hn)
    · rename_i he
      exact wp_cond_false (ev_rel hg he) (hy hg h hn)
    · rename_i b he
      exact wp_cond_split (t := b) (ev_rel hg he) (fun e => hx hg (h.1 e) hn) (fun e => hy hg (h.2 e) hn)
    · rename_i b he
      exact wp_cond_split (t := b) (ev_rel hg he) (fun e => hx hg (h.1 e) hn) (fun e => hy hg (h.2 e) hn)
    · exact h.elim
  | block id c ih =>
    intro K Q st a w ρ σ hg h hn
    refine wp_block (ih hg h ?_)
    intro e a' w' st' ρ' σ' h1 h2 h3
    cases e with
    | exit id' =>
      simp only [Exit.inBlock]
      simp only at h1
      split at h1
      · rename_i he
        simp only [he, if_true]
        exact hn _ _ _ _ _ _ h1 h2 h3
      · rename_i he
        simp only [he, if_false]
        exact hn _ _ _ _ _ _ h1 h2 h3
    | _ => exact hn _ _ _ _ _ _ h1 h2 h3
  | loop c ih =>
    intro K Q st0 a w ρ σ hg0 h hn0
    simp only [vcC] at h
    obtain ⟨inv, μ, h⟩ := h
    obtain ⟨st, h, hk0, hg, _⟩ := vcPubs_sound hg0 h
    have hn : NextE P w0 H0 (writes an (.loop c)) st K Q := fun e a' w' st' ρ' σ' h1 h2 h3 => hn0 _ _ _ _ _ _ h1 ((hk0.mono (by simp)).trans h2) h3
    split at h
    · rename_i hfree
      generalize han : an.lt (firstReg c) = is at *
      generalize hz : zipI is inv μ = z at *
      split at h
      · rename_i x st2 hcol
        obtain ⟨h0, hround⟩ := h
        have hd2 := colI_dies hcol
        have hboxes := colI_boxes hcol
        refine wp_loop_ghost (fun n a w => ∃ stc st3 ρ σ q, Good P w0 H0 stc a w ρ σ ∧ colI is z stc = some ((q, n), st3) ∧ apH an.opn q stc.H stc.O ∧ AtHead an c is st st2 stc st3) x.2 ⟨st, st2, ρ, σ, x.1, hg, hcol, h0, rfl, rfl, fun _ _ _ => rfl, ?_, Heap.le_refl _⟩ ?_
        · intro i f o hi
          rcases headSt_get hi with h1 | ⟨h1, _, h2⟩
          · exact .inl h1
          · exact .inr ⟨h1, h2⟩
        · rintro n a1 w1 ⟨stc, st3, ρ1, σ1, q, hg1, hcol1, hq, hh⟩
          have hd3 := colI_dies hcol1
          obtain ⟨O', hO', hap, hall⟩ := allO_elim stc.O (hround stc.H hh.le)
          have li := head_LI hg.nr hd2 hfree hg1 hd3 hh hO'
          obtain ⟨bs, σ2, k1, k2, k3⟩ := headI_sound hg1 hd3 li hall hcol1
          have hbH : bs.H = stc.H := k3.H
          have hbfr : ∀ j, j ∉ itemSlots is → j ∉ writes an c → bs.fr[j]? = st.fr[j]? := by
            intro j h1 h2
            rw [k3.fr j h1]
            simp only [headSt]
            rw [havF_not h1, havF_not h2, hd2.fr]
          have hblen : bs.L.length = st.L.length := by
            rw [k3.ll]
            simp only [headSt, deadB_length, havL_length, lock_length]
            exact hd2.ll
          have hbfl : bs.fr.length = st.fr.length := by
            rw [k3.fl]
            simp only [headSt, havF_length]
            rw [hd2.fr]
          refine ih k2 (k1 (hap _ _ hq)) ?_
          intro e a' w' st' ρ' σ' e1 e2 e3
          have hro : ∀ (i : Nat) (o : LObj), (headSt an c is st2 stc.H noO).L[i]? = some (some (false, o)) → i ∉ itemBoxes is → st'.L[i]? = some (some (false, o)) :=
            fun i o hi hb => e2.ro i o (k3.ro i o hb hi)
          have hle : Heap.le st.H st'.H := Heap.le_trans hh.le (by rw [← hbH]; exact e2.le)
          have exits : Keeps (writes an (.loop c)) st { st' with L := unlock st2.L st'.L } ∧ Good P w0 H0 { st' with L := unlock st2.L st'.L } a' w' ρ' σ' := by
            constructor
            · refine ⟨e2.fl.trans hbfl, by simp only [unlock_length]; exact e2.ll.trans hblen, fun j hj => ?_, fun i o hi => ?_, hle⟩
              · simp only [writes, han, List.mem_append, not_or] at hj
                exact (e2.fr j hj.2).trans (hbfr j hj.1 hj.2)
              · have h1 := hd2.ro hi
                have h2 : i ∉ itemBoxes is := fun hb => by
                  obtain ⟨o', ho'⟩ := hboxes i hb
                  rw [hi] at ho'; simp at ho'
                have h3 : i ∉ itemIds is ++ idsOf an c := fun hb => by
                  have := allFree_mem hfree i hb
                  rw [hi] at this; simp at this
                have h4 := hro i o (headSt_ro h1 h2 h3) h2
                rcases unlock_get st2.L st'.L i with ⟨o', ⟨o2, ho2⟩, _⟩ | ⟨h5, _⟩
                · rw [h1] at ho2; simp at ho2
                · simp only; rw [h5]; exact h4
            · refine e3.alike (fun i f o hi => .inr ?_) (fun d hd => ?_)
              · rcases unlock_get st2.L st'.L i with ⟨o', _, ⟨f', hf'⟩, h5⟩ | ⟨h5, _⟩
                · rw [h5] at hi; simp at hi; exact ⟨f', by rw [← hi.2]; exact hf'⟩
                · exact ⟨f, by rw [← h5]; exact hi⟩
              · rcases unlock_get st2.L st'.L d with ⟨o', _, _, h5⟩ | ⟨h5, _⟩
                · rw [h5] at hd; simp at hd
                · rw [← h5]; exact hd
          cases e with
          | normal =>
            simp only [vcEnd] at e1
            obtain ⟨stp, e1, hkp, e3, _⟩ := vcPubs_sound e3 e1
            have e2 := e2.trans (hkp.mono (by simp))
            have hro : ∀ (i : Nat) (o : LObj), (headSt an c is st2 stc.H noO).L[i]? = some (some (false, o)) → i ∉ itemBoxes is → stp.L[i]? = some (some (false, o)) :=
              fun i o hi hb => e2.ro i o (k3.ro i o hb hi)
            have hle : Heap.le st.H stp.H := Heap.le_trans hh.le (by rw [← hbH]; exact e2.le)
            split at e1
            · rename_i x' st3' hcol'
              refine ⟨x'.2, e1.2, stp, st3', ρ', σ', x'.1, e3, hcol', e1.1, e2.fl.trans hbfl, e2.ll.trans hblen, fun j h1 h2 => (e2.fr j h2).trans (hbfr j h1 h2), ?_, hle⟩
              intro i f o hi
              rcases headSt_get hi with h1 | ⟨h1, h2, f', h3⟩
              · exact .inl h1
              · subst h1
                refine .inr ⟨rfl, false, (colI_dies hcol').ro (hro i o ?_ h2)⟩
                exact hi
            · exact e1.elim
          | _ => exact hn _ _ _ _ _ _ e1 exits.1 exits.2
      · exact h.elim
    · exact h.elim
  | _ => intro K Q st a w ρ σ hg h hn; exact h.elim
end
end Go.Vc
/- The end of a body, and a contract out of the verification condition. -/
namespace Go.Vc
open Go Go.RowKit

section
variable {P : Program} {Γ : Tab} {w0 : W0} {w w' : World} {H0 H' : Heap} {a : Act} {ρ : Nat → Nat} {σ : Nat → Value} {an : Ann}
theorem colL_out : ∀ {ls : List Leaf} {R : Type} {p : PostL ls R} {cs : List S1} {ys : List Value} {st st' : St} {q : R}, Good P w0 H0 st a w ρ σ → colL ls p cs st = some (q, st') → relL ρ σ cs ys →
    ∃ nr, RowsOut P w0 w σ st st' nr ∧ ∀ (nr2 : List NRow) (K : List Value → List NRow → R → Prop), K ys nr2 q → exL ls p (nr ++ nr2) K
  | [], R, p, cs, ys, st, st', q, hg, h, hr => by
    cases cs with
    | nil =>
      simp [colL] at h
      obtain ⟨rfl, rfl⟩ := h
      cases ys with
      | nil => exact ⟨[], RowsOut.nil _ _, fun nr2 K hk => hk⟩
      | cons _ _ => exact hr.elim
    | cons _ _ => simp [colL] at h
  | l :: ls, R, p, cs, ys, st, st', q, hg, h, hr => by
    cases cs with
    | nil => cases l <;> simp [colL] at h
    | cons c cs =>
      cases ys with
      | nil => exact hr.elim
      | cons y ys =>
        cases l with
        | cells => simp [colL] at h
        | row i e =>
          simp only [colL] at h
          split at h
          · rename_i n xs st1 ht
            have hd := takeRow_dies ht
            obtain ⟨nr, h1, h2⟩ := colL_out (hg.dies hd) h hr.2
            refine ⟨⟨y, e, n, xs⟩ :: nr, (takeRow_out hg ht hr.1).append hg h1 hd (colL_dies h), fun nr2 K hk => ?_⟩
            exact ⟨⟨y, e, n, xs⟩, nr ++ nr2, rfl, rfl, h2 nr2 _ hk⟩
          · simp at h
        | int k =>
          simp only [colL] at h
          split at h
          · rename_i n hn
            have := asInt_rel hn hr.1
            subst this
            obtain ⟨nr, h1, h2⟩ := colL_out hg h hr.2
            exact ⟨nr, h1, fun nr2 K hk => ⟨n, h2 nr2 _ hk⟩⟩
          · simp at h
        | bool =>
          simp only [colL] at h
          split at h
          · rename_i n hn
            have := S1.asB_rel hn hr.1
            subst this
            obtain ⟨nr, h1, h2⟩ := colL_out hg h hr.2
            exact ⟨nr, h1, fun nr2 K hk => ⟨n, h2 nr2 _ hk⟩⟩
          · simp at h
        | str =>
          simp only [colL] at h
          split at h
          · rename_i n hn
            have := asStr_rel hn hr.1
            subst this
            obtain ⟨nr, h1, h2⟩ := colL_out hg h hr.2
            exact ⟨nr, h1, fun nr2 K hk => ⟨n, h2 nr2 _ hk⟩⟩
          · simp at h
        | sl =>
          simp only [colL] at h
          split at h
          · rename_i A n m hn
            have := asSl_rel hn hr.1
            subst this
            obtain ⟨nr, h1, h2⟩ := colL_out hg h hr.2
            exact ⟨nr, h1, fun nr2 K hk => ⟨A, n, m, h2 nr2 _ hk⟩⟩
          · simp at h
        | mp =>
          simp only [colL] at h
          split at h
          · rename_i A hn
            have := asMp_rel hn hr.1
            subst this
            obtain ⟨nr, h1, h2⟩ := colL_out hg h hr.2
            exact ⟨nr, h1, fun nr2 K hk => ⟨A, h2 nr2 _ hk⟩⟩
          · simp at h
        | val =>
          simp only [colL] at h
          split at h
          · rename_i v hn
            have := asVal_rel hn hr.1
            subst this
            obtain ⟨nr, h1, h2⟩ := colL_out hg h hr.2
            have hone : y.oneCell' = true := by
              unfold S1.asVal at hn
              split at hn
              · rename_i hk; exact S1.ok1_rel hg.sl hk hr.1
              · simp at hn
            exact ⟨nr, h1, fun nr2 K hk => ⟨y, hone, h2 nr2 _ hk⟩⟩
          · simp at h
theorem colR_out : ∀ {ps : List (Bool × List Leaf)} {R : Type} {p : PostR ps R} {xs : List SV} {vs : List Value} {st st' : St} {q : R}, Good P w0 H0 st a w ρ σ → colR ps p xs st = some (q, st') → relA ρ σ xs vs →
    Dies st st' ∧ ∃ nr, RowsOut P w0 w σ st st' nr ∧ ∀ (nr2 : List NRow) (K : List Value → List NRow → R → Prop), K vs nr2 q → exR ps p (nr ++ nr2) K
  | [], R, p, xs, vs, st, st', q, hg, h, hr => by
    cases xs with
    | nil =>
      simp [colR] at h
      obtain ⟨rfl, rfl⟩ := h
      cases vs with
      | nil => exact ⟨Dies.refl _, [], RowsOut.nil _ _, fun nr2 K hk => hk⟩
      | cons _ _ => exact hr.elim
    | cons _ _ => simp [colR] at h
  | (g, ls) :: ps, R, p, xs, vs, st, st', q, hg, h, hr => by
    cases xs with
    | nil => simp [colR] at h
    | cons x xs =>
      cases vs with
      | nil => exact hr.elim
      | cons v vs =>
        have hx := resV_rel hg.obj hr.1
        have key : ∀ {cs : List S1} {ys : List Value} {q1 : PostR ps R} {st1 : St}, colL ls p cs st = some (q1, st1) → colR ps q1 xs st1 = some (q, st') → relL ρ σ cs ys → mkV g ys = some v →
            Dies st st' ∧ ∃ nr, RowsOut P w0 w σ st st' nr ∧ ∀ (nr2 : List NRow) (K : List Value → List NRow → R → Prop), K (v :: vs) nr2 q → exR ((g, ls) :: ps) p (nr ++ nr2) K := by
          intro cs ys q1 st1 h1 h2 hrl hmk
          have hd := colL_dies h1
          obtain ⟨nr, k1, k2⟩ := colL_out hg h1 hrl
          obtain ⟨hd', nr', j1, j2⟩ := colR_out (hg.dies hd) h2 hr.2
          refine ⟨hd.trans hd', nr ++ nr', k1.append hg j1 hd hd', fun nr2 K hk => ?_⟩
          rw [List.append_assoc]
          exact k2 (nr' ++ nr2) _ ⟨v, hmk, j2 nr2 _ hk⟩
        simp only [colR] at h
        split at h
        · rename_i cs hres
          rw [hres] at hx
          obtain ⟨ys, rfl, hy⟩ := hx
          split at h
          · rename_i q1 st1 h1
            exact key h1 h hy (by simp [mkV])
          · simp at h
        · rename_i c hres
          rw [hres] at hx
          split at h
          · rename_i q1 st1 h1
            exact key (ys := [v]) h1 h ⟨hx, trivial⟩ rfl
          · simp at h
        · simp at h
theorem retOne_sound (hT : TabOK P Γ) {st : St} (hg : Good P w0 H0 st a w ρ σ) {r : ResultVar} {x : SV} (h : retOne Γ st r = some x) :
    ∃ v, (match r with | .tmp t => pure (a.tmps.getD t undef) | .cell b t => do loadVar t (← asAddr (a.tmps.getD b undef)) : Sem Value).run P w = .ok v w ∧ x.rel ρ σ v := by
  unfold retOne at h
  split at h
  · rename_i t
    split at h
    · rename_i y hy
      simp at h; subst h
      exact ⟨_, rfl, resV_rel hg.obj (hg.fr t y hy)⟩
    · simp at h
  · rename_i b t
    split at h
    · rename_i o ho
      split at h
      · rename_i t' cs hL
        split at h
        · rename_i i hi
          split at h
          · rename_i hl
            have hTy := hT _ _ hi
            obtain ⟨ys, hb, hr, _⟩ := box_of hg hL
            have hv : a.tmps.getD b undef = .pointer (some ⟨ρ o, 0, none⟩) := hg.fr b _ ho
            obtain ⟨h1, h2, _⟩ := mkSV_rel h (resL_rel hg.obj hr)
            refine ⟨_, ?_, h1⟩
            simp only [hv]
            have hlen := relL_length hr
            have := run_loadVar hTy w (ρ o) 0 ys.toList (fun k y hy => by rw [Nat.zero_add, cell_of_block hb]; simpa using hy) (by omega) (h2)
            simpa [asAddr] using this
          · simp at h
        · simp at h
      · simp at h
    · simp at h
theorem retAll_sound (hT : TabOK P Γ) {st : St} (hg : Good P w0 H0 st a w ρ σ) : ∀ {rs : List ResultVar} {xs : List SV}, retAll Γ st rs = some xs →
    ∃ vs, (rs.mapM fun r => (match r with | .tmp t => pure (a.tmps.getD t undef) | .cell b t => do loadVar t (← asAddr (a.tmps.getD b undef)) : Sem Value)).run P w = .ok vs w ∧ relA ρ σ xs vs ∧ vs.length = rs.length
  | [], xs, h => by
    simp [retAll] at h; subst h
    exact ⟨[], by simp, trivial, rfl⟩
  | r :: rs, xs, h => by
    simp only [retAll] at h
    split at h
    · rename_i x hx
      split at h
      · rename_i xs' hxs
        simp at h; subst h
        obtain ⟨v, h1, h2⟩ := retOne_sound hT hg hx
        obtain ⟨vs, k1, k2, k3⟩ := retAll_sound hT hg hxs
        refine ⟨v :: vs, ?_, ⟨h2, k2⟩, by simp [k3]⟩
        rw [List.mapM_cons]
        simp only [Sem.run_bind]
        rw [h1]
        simp only [Result.andThen_ok]
        rw [k1]
        simp
      · simp at h
    · simp at h
theorem ofArg_rel (v : Value) : (ofArg v).rel ρ σ v := by
  unfold ofArg
  split
  · exact ⟨_, rfl, relL_v _⟩
  · exact ⟨_, _, rfl, rfl⟩
  · exact rfl
theorem ofArg_refs {v : Value} {d : Nat} (h : (ofArg v).refs d) : False := by
  unfold ofArg at h
  split at h
  · exact refsL_v h
  · exact h
  · exact h
theorem st0_good {args : List Value} {n extra : Nat} {H : Heap} (hs : Snap H w) :
    Good P ⟨w, fun _ => False⟩ H (st0 args n extra H) { tmps := args.toArray ++ Array.replicate (n - args.toArray.size) undef, defers := [] } w (fun _ => 0) (fun _ => .slice none 0 0) := by
  refine ⟨rfl, by simp [st0], fun i x hx => ?_, ⟨rfl, rfl, rfl, Nat.le_refl _, fun _ _ _ => rfl, Nat.le_refl _⟩, Heap.le_refl _, fun _ _ _ => rfl, hs, fun i f o h => ?_, fun i j f f' o o' g _ h => ?_, fun d _ => ⟨fun j x hx => ?_, fun j f o h => ?_⟩, fun _ => ⟨_, _, _, rfl⟩, fun b x h => by cases h⟩
  · simp only [st0] at hx
    by_cases hi : i < args.length
    · rw [List.getElem?_append_left (by simpa using hi)] at hx
      simp [hi] at hx
      subst hx
      have : (args.toArray ++ Array.replicate (n - args.toArray.size) undef).getD i undef = args[i] := by
        simp [Array.getElem?_append, hi]
      rw [this]
      exact ofArg_rel _
    · rw [List.getElem?_append_right (by simpa using hi)] at hx
      simp [List.getElem?_replicate] at hx
      obtain ⟨h1, rfl⟩ := hx
      have : (args.toArray ++ Array.replicate (n - args.toArray.size) undef).getD i undef = undef := by
        simp [Array.getElem?_append, hi, h1]
      rw [this]
      rfl
  · simp [st0, List.getElem?_replicate] at h
  · simp [st0, List.getElem?_replicate] at h
  · simp only [st0] at hx
    rcases List.mem_append.1 (List.mem_of_getElem? hx) with h | h
    · obtain ⟨v, _, rfl⟩ := List.mem_map.1 h
      exact fun hh => ofArg_refs hh
    · rw [(List.mem_replicate.1 h).2]
      exact fun hh => hh
  · simp [st0, List.getElem?_replicate] at h
theorem ret_sound (hT : TabOK P Γ) {fn : Func} {H : Heap} {st : St} (hg : Good P w0 H st a w ρ σ) {sh : RSh} {post : PostR sh.parts (Heap → Prop)} (h : vcRet Γ fn.results.toList sh post st) :
    a.defers = [] ∧ ∃ v, (results fn a.tmps).run P w = .ok v w ∧ ∃ H' nr, Fits sh post v H' nr ∧ (BelS w0.w w w0.g ∧ Heap.le H H' ∧ (∀ b, ¬ w0.nw b → ∀ o, H' b o = H b o) ∧ Snap H' w) ∧ (∀ r ∈ nr, RowIn P w0 w H' r) ∧ apartRows nr := by
  refine ⟨hg.defers, ?_⟩
  unfold vcRet at h
  split at h
  · rename_i htup
    split at h
    · exact h.elim
    · obtain ⟨st2, q1, q2, q3, _⟩ := vcPubs_sound hg h
      split at q1
      · exact q1.elim
      · rename_i xs hxs
        split at q1
        · rename_i q st3 hcol
          obtain ⟨vs, hrun, hrel, hlen⟩ := retAll_sound hT q3 hxs
          obtain ⟨hd, nr, h1, h2⟩ := colR_out q3 hcol hrel
          have hres : (results fn a.tmps).run P w = .ok (if h : vs.toArray.size = 1 then vs.toArray[0] else .tuple vs.toArray) w := by
            unfold results
            rw [Array.mapM_eq_mapM_toList]
            simp only [Sem.run_bind, Sem.run_map]
            refine (congrArg (fun r : Result (List Value) => ((r.andThen _).andThen _)) (show _ = Result.ok vs w from hrun)).trans ?_
            simp
          refine ⟨_, hres, st2.H, nr, ?_, ⟨q3.below, q3.le, q3.old, q3.snap⟩, fun r hr => (h1.each r hr).1, h1.apart⟩
          · have := h2 [] (fun us nr' q => nr' = [] ∧ (if sh.tup then (if h : vs.toArray.size = 1 then vs.toArray[0] else .tuple vs.toArray) = .tuple ⟨us⟩ else us = [if h : vs.toArray.size = 1 then vs.toArray[0] else .tuple vs.toArray]) ∧ q st2.H) ⟨rfl, ?_, q1⟩
            · rw [List.append_nil] at this
              exact this
            · rw [htup, ← hlen]
              by_cases h1 : vs.length = 1
              · match vs, h1 with
                | [v], _ => simp
              · have : (vs.length != 1) = true := by simpa using h1
                simp [this, h1]
        · exact q1.elim
  · exact h.elim
/-- a contract out of the verification condition -/
theorem con_of_vc (hm : P.follows .mixedOrders = true) (hT : TabOK P Γ) {f : FuncId} {fn : Func} (hf : P.funcs[f]? = some fn) (hname : (fn.name == "runtime.NumGoroutine") = false) {args : List Value} {extra : Nat} {H : Heap} {sh : RSh} {post : PostR sh.parts (Heap → Prop)}
    (h : vcFn P Γ an fn args extra H sh post) : ConT P f args H sh post := by
  unfold vcFn at h
  split at h
  · exact h.elim
  · rename_i c hb
    refine ⟨⟨fn, hf, by rw [hb]; rfl, hname⟩, fun w hs => calls_of_wp hf hb ?_⟩
    refine vcC_sound hm hT (st0_good hs) h ?_
    intro e a' w' st' ρ' σ' hk _ hg
    have fin : ∀ {v : Value} {H' : Heap} {nr : List NRow}, (results fn a'.tmps).run P w' = .ok v w' → Fits sh post v H' nr ∧ (BelS w w' (fun _ => False) ∧ Heap.le H H' ∧ (∀ b, ¬ (W0.mk w (fun _ => False)).nw b → ∀ o, H' b o = H b o) ∧ Snap H' w') ∧ (∀ r ∈ nr, RowIn P ⟨w, fun _ => False⟩ w' H' r) ∧ apartRows nr →
        ∃ v' H' nr, Ending.returned v = .returned v' ∧ Fits sh post v' H' nr ∧ Grows w w' H H' ∧ (∀ r ∈ nr, NewRow P w w' H' r) ∧ apartRows nr := by
      rintro v H' nr _ ⟨h1, ⟨hb, hle, hold, hsn⟩, hr, hap⟩
      refine ⟨v, H', nr, rfl, h1, ⟨⟨hb.os, hb.tape, hb.output, hb.size, fun k hk => hb.block k hk (by simp)⟩, hle, fun b hb => hold b (fun h => by rcases h with h | h; exact absurd hb (Nat.not_lt.2 h); simp at h), hsn, hb.drawn⟩, fun r hr' => ?_, hap⟩
      obtain ⟨q1, q2, q3⟩ := hr r hr'
      refine ⟨⟨q1.row.1, ?_⟩, q2, q3⟩
      rcases q1.row.2 with h | ⟨g, cap, cur, hv, _, h⟩
      · exact .inl h
      · refine .inr ⟨g, cap, cur, hv, ?_, h⟩
        rcases q1.nw g (by rw [hv]; rfl) with h' | h'
        · exact h'
        · simp at h'
    cases e with
    | normal =>
      obtain ⟨h1, v, h2, H', nr, h3⟩ := ret_sound hT hg hk
      exact ⟨h1, v, h2, fin h2 h3⟩
    | ret =>
      obtain ⟨h1, v, h2, H', nr, h3⟩ := ret_sound hT hg hk
      exact ⟨h1, v, h2, fin h2 h3⟩
    | exit id => exact hk.elim
    | goto l => exact hk.elim
    | panic ch => exact hk.elim
    | outgrown => exact hk.elim
theorem st0M_good {args : List Value} {k n extra : Nat} {e : TypeId} {m : Nat} {xs : List Value} {s : Value} {H : Heap} (hs : Snap H w) (hk : k < args.length) (hr : w.ownsRow 0 e (P.cellsOf e) s m xs) (h1 : ∀ x ∈ xs, x.oneCell' = true)
    (hf : ∀ g, s.ownBlock = some g → ∀ o, H g o = none) :
    Good P ⟨w, fun b => s.ownBlock = some b⟩ H (st0M args k n extra e m xs H) { tmps := (args.set k s).toArray ++ Array.replicate (n - (args.set k s).toArray.size) undef, defers := [] } w (fun _ => 0) (fun i => if i = n + extra then s else .slice none 0 0) := by
  have hL : ∀ {i f o}, (st0M args k n extra e m xs H).L[i]? = some (some (f, o)) → i = n + extra ∧ f = true ∧ o = .row e m xs := by
    intro i f o h
    simp only [st0M] at h
    rcases Nat.lt_trichotomy i (n + extra) with hi | hi | hi
    · rw [List.getElem?_append_left (by simpa using hi)] at h
      simp [List.getElem?_replicate] at h
    · subst hi
      rw [List.getElem?_append_right (by simp)] at h
      simp at h
      exact ⟨rfl, h.1, h.2.symm⟩
    · rw [List.getElem?_eq_none (by simp; omega)] at h
      cases h
  have hN : ∀ {d : Nat}, (st0M args k n extra e m xs H).L[d]? = some none → d ≠ n + extra := by
    rintro d h rfl
    simp only [st0M] at h
    rw [List.getElem?_append_right (by simp)] at h
    simp at h
  have hsl : ∃ A n c, s = .slice A n c := by
    rcases hr.2 with ⟨hv, _⟩ | ⟨g, cap, cur, hv, _⟩
    · exact ⟨_, _, _, hv⟩
    · exact ⟨_, _, _, hv⟩
  refine ⟨rfl, by simp [st0M], fun i x hx => ?_, ⟨rfl, rfl, rfl, Nat.le_refl _, fun _ _ _ => rfl, Nat.le_refl _⟩, Heap.le_refl _, fun _ _ _ => rfl, hs, fun i f o h => ?_, fun i j f f' o o' g hij h h' => ?_, fun d hd => ⟨fun j x hx => ?_, fun j f o h => ?_⟩, fun i => ?_, fun b x h => by cases h⟩
  · simp only [st0M] at hx
    by_cases hi : i < args.length
    · rw [List.getElem?_append_left (by simpa using hi)] at hx
      have hget : ((args.set k s).toArray ++ Array.replicate (n - (args.set k s).toArray.size) undef).getD i undef = (args.set k s)[i]'(by simpa using hi) := by
        simp [Array.getElem?_append, hi]
      rw [hget]
      by_cases hik : k = i
      · subst hik
        rw [List.getElem?_set_self (by simpa using hk)] at hx
        simp at hx
        subst hx
        simp only [List.getElem_set_self]
        show s = _
        simp
      · rw [List.getElem?_set_ne hik] at hx
        simp [hi] at hx
        subst hx
        rw [List.getElem_set_ne hik]
        exact ofArg_rel _
    · rw [List.getElem?_append_right (by simpa using hi)] at hx
      simp [List.getElem?_replicate] at hx
      obtain ⟨h1, rfl⟩ := hx
      have : ((args.set k s).toArray ++ Array.replicate (n - (args.set k s).toArray.size) undef).getD i undef = undef := by
        simp [Array.getElem?_append, hi, h1]
      rw [this]
      rfl
  · obtain ⟨rfl, rfl, rfl⟩ := hL h
    simp only [ObjOK, if_true]
    exact ⟨⟨hr, fun g hg => .inr hg⟩, h1, hf⟩
  · exact absurd ((hL h).1.trans (hL h').1.symm) hij
  · simp only [st0M] at hx
    rcases List.mem_append.1 (List.mem_of_getElem? hx) with h | h
    · rcases List.mem_or_eq_of_mem_set h with h | rfl
      · obtain ⟨v, _, rfl⟩ := List.mem_map.1 h
        exact fun hh => ofArg_refs hh
      · intro hh
        exact hN hd (Eq.symm hh)
    · rw [(List.mem_replicate.1 h).2]
      exact fun hh => hh
  · obtain ⟨_, _, rfl⟩ := hL h
    exact fun hh => hh
  · split
    · exact hsl
    · exact ⟨_, _, _, rfl⟩
/-- the contract of a function that is handed a row and gives it up -/
theorem conM_of_vc (hm : P.follows .mixedOrders = true) (hT : TabOK P Γ) {f : FuncId} {fn : Func} (hf : P.funcs[f]? = some fn) (hname : (fn.name == "runtime.NumGoroutine") = false) {args : List Value} {k : Nat} {e : TypeId} {m : Nat} {xs : List Value} {extra : Nat} {H : Heap} {sh : RSh} {post : PostR sh.parts (Heap → Prop)}
    (hk : k < args.length) (h : vcFnM P Γ an fn args k e m xs extra H sh post) : ConM P f args k e m xs false H sh (fun _ => post) := by
  unfold vcFnM at h
  split at h
  · exact h.elim
  · rename_i c hb
    refine ⟨⟨fn, hf, by rw [hb]; rfl, hname⟩, fun w B s hs hB hrx => calls_of_wp hf hb ?_⟩
    obtain ⟨hr, h1, hfr⟩ := hrx
    have hrow0 : w.ownsRow 0 e (P.cellsOf e) s m xs := ownsRow_base0 hr
    refine vcC_sound hm hT (st0M_good (n := fn.ntmps) (extra := extra) hs hk hrow0 h1 hfr) h ?_
    intro e' a' w' st' ρ' σ' hkk _ hg
    have fin : ∀ {v : Value} {H' : Heap} {nr : List NRow}, Fits sh post v H' nr ∧ (BelS w w' (fun b => s.ownBlock = some b) ∧ Heap.le H H' ∧ (∀ b, ¬ (W0.mk w (fun b => s.ownBlock = some b)).nw b → ∀ o, H' b o = H b o) ∧ Snap H' w') ∧ (∀ r ∈ nr, RowIn P ⟨w, fun b => s.ownBlock = some b⟩ w' H' r) ∧ apartRows nr →
        ∃ v' H' nr ys, Ending.returned v = .returned v' ∧ Fits sh post v' H' nr ∧ GrowsX w w' H H' s.ownBlock ∧ (false = true → RowX P w' B H' ⟨s, e, m, ys⟩) ∧
          (∀ r ∈ nr, RowX P w' B H' r ∧ ∀ g, r.s.ownBlock = some g → w.heap.size ≤ g ∨ (false = false ∧ s.ownBlock = some g)) ∧ apartRows nr := by
      rintro v H' nr ⟨q1, ⟨hb, hle, hold, hsn⟩, hr', hap⟩
      refine ⟨v, H', nr, [], rfl, q1, ⟨hb.opt, hle, fun b hb1 hb2 => hold b (fun h => by rcases h with h | h; exact absurd hb1 (Nat.not_lt.2 h); exact hb2 h), hsn⟩, by simp, fun r hrn => ?_, hap⟩
      obtain ⟨q1, q2, q3⟩ := hr' r hrn
      refine ⟨⟨⟨q1.row.1, ?_⟩, q2, q3⟩, fun g hg => ?_⟩
      · rcases q1.row.2 with h | ⟨g, cap, cur, hv, _, h⟩
        · exact .inl h
        · refine .inr ⟨g, cap, cur, hv, ?_, h⟩
          rcases q1.nw g (by rw [hv]; rfl) with h' | h'
          · exact Nat.le_trans hB h'
          · exact (hr.lt g h').1
      · rcases q1.nw g hg with h' | h'
        · exact .inl h'
        · exact .inr ⟨rfl, h'⟩
    cases e' with
    | normal =>
      obtain ⟨h1, v, h2, H', nr, h3⟩ := ret_sound hT hg hkk
      exact ⟨h1, v, h2, fin h3⟩
    | ret =>
      obtain ⟨h1, v, h2, H', nr, h3⟩ := ret_sound hT hg hkk
      exact ⟨h1, v, h2, fin h3⟩
    | exit id => exact hkk.elim
    | goto l => exact hkk.elim
    | panic ch => exact hkk.elim
    | outgrown => exact hkk.elim
end
end Go.Vc
/- A table of types, checked against a program. -/
namespace Go.Vc
open Go Go.RowKit

def valEq : Value → Value → Bool
  | .bool a, .bool b => a == b
  | .int k x, .int k' y => decide (k = k') && decide (x = y)
  | .string a, .string b => decide (a = b)
  | .slice none n c, .slice none m d => n == m && c == d
  | .pointer none, .pointer none => true
  | .nilFunc, .nilFunc => true
  | .map none, .map none => true
  | .nilIface, .nilIface => true
  | _, _ => false
theorem valEq_eq {a b : Value} (h : valEq a b = true) : a = b := by
  unfold valEq at h
  split at h <;> simp_all
def valsEq : List Value → List Value → Bool
  | [], [] => true
  | a :: as, b :: bs => valEq a b && valsEq as bs
  | _, _ => false
theorem valsEq_eq : ∀ {as bs : List Value}, valsEq as bs = true → as = bs
  | [], [], _ => rfl
  | a :: as, b :: bs, h => by
    simp [valsEq] at h
    rw [valEq_eq h.1, valsEq_eq h.2]
  | [], _ :: _, h => by simp [valsEq] at h
  | _ :: _, [], h => by simp [valsEq] at h
theorem valEq_one {a b : Value} (h : valEq a b = true) : b.oneCell' = true := by
  unfold valEq at h
  split at h <;> first | rfl | simp at h
theorem valsEq_one : ∀ {as bs : List Value}, valsEq as bs = true → ∀ z ∈ bs, z.oneCell' = true
  | [], [], _ => by simp
  | a :: as, b :: bs, h => by
    simp [valsEq] at h
    intro z hz
    rcases List.mem_cons.1 hz with rfl | hz
    · exact valEq_one h.1
    · exact valsEq_one h.2 z hz
  | [], _ :: _, h => by simp [valsEq] at h
  | _ :: _, [], h => by simp [valsEq] at h
def undCheck (P : Program) (t : TypeId) (ty : Ty) : Bool :=
  match ty with
  | .int k => match P.underlying t with
    | some (.int k') => decide (k = k')
    | _ => false
  | .bool => match P.underlying t with
    | some .bool => true
    | _ => false
  | .string => match P.underlying t with
    | some .string => true
    | _ => false
  | .slice e => match P.underlying t with
    | some (.slice e') => decide (e = e')
    | _ => false
  | .struct fs => match P.underlying t with
    | some (.struct F) => decide (F.toList.map (fun f => (f.offset, f.type)) = fs) && F.toList.all fun f => (P.info? f.type).isSome
    | _ => false
  | .array n e => match P.underlying t with
    | some (.array n' e') => decide (n = n') && decide (e = e')
    | _ => false
  | .map k e => match P.underlying t with
    | some (.map k' e') => decide (k = k') && decide (e = e')
    | _ => false
  | .ptr e => match P.underlying t with
    | some (.pointer e') => decide (e = e')
    | _ => false
  | .other => match P.underlying t with
    | some (.struct _) => false
    | some (.array _ _) => false
    | some _ => true
    | none => false
def aggTy : Ty → Bool
  | .struct _ => true
  | .array _ _ => true
  | _ => false
def ekCheck (P : Program) (q : EK) (t : TypeId) : Bool :=
  match q with
  | .int => match P.underlying t with
    | some (.int _) => true
    | _ => false
  | .bool => match P.underlying t with
    | some .bool => true
    | _ => false
  | .str => match P.underlying t with
    | some .string => true
    | _ => false
theorem ekCheck_ok {P : Program} {q : EK} {t : TypeId} (h : ekCheck P q t = true) : EKOK P q t := by
  cases q <;> simp only [ekCheck] at h <;> split at h <;> simp_all [EKOK]
def fieldsCheck (P : Program) : Nat → List Field → List EK → Bool
  | _, [], [] => true
  | k, f :: fs, q :: qs => decide (f.offset = k) && decide (f.name ≠ "_") && ekCheck P q f.type && fieldsCheck P (k + 1) fs qs
  | _, _, _ => false
theorem fieldsCheck_ok {P : Program} : ∀ {k : Nat} {fs : List Field} {qs : List EK}, fieldsCheck P k fs qs = true → fs.length = qs.length ∧
    ∀ (j : Nat) (f : Field) (q : EK), fs[j]? = some f → qs[j]? = some q → f.offset = k + j ∧ f.name ≠ "_" ∧ EKOK P q f.type
  | k, [], [], _ => ⟨rfl, by simp⟩
  | k, f :: fs, q :: qs, h => by
    simp [fieldsCheck] at h
    obtain ⟨⟨⟨h1, h2⟩, h3⟩, h4⟩ := h
    obtain ⟨k1, k2⟩ := fieldsCheck_ok h4
    refine ⟨by simp [k1], fun j g r hg hr => ?_⟩
    cases j with
    | zero =>
      simp at hg hr; subst hg; subst hr
      exact ⟨by simpa using h1, h2, ekCheck_ok h3⟩
    | succ j =>
      simp at hg hr
      obtain ⟨q1, q2⟩ := k2 j g r hg hr
      exact ⟨by omega, q2⟩
  | _, [], _ :: _, h => by simp [fieldsCheck] at h
  | _, _ :: _, [], h => by simp [fieldsCheck] at h
def eqCheck (P : Program) (t : TypeId) (qs : List EK) : Bool :=
  match qs with
  | [] => true
  | _ => match P.underlying t with
    | some (.struct F) => !P.eqGuardType P.depth t && !P.stoodInHeld t && fieldsCheck P 0 F.toList qs
    | _ => false
def infoCheck (P : Program) (t : TypeId) (i : TyI) : Bool :=
  match P.info? t with
  | some inf => decide (inf.size = i.size) && decide (inf.bytes = i.bytes) && match inf.zero with
    | some z => valsEq z.cells.toList i.zero && (match z with
      | .agg _ => i.agg
      | _ => !i.agg)
    | none => false
  | none => false
def tyCheck (P : Program) (t : TypeId) (i : TyI) : Bool :=
  undCheck P t i.ty && decide (i.agg = aggTy i.ty) && infoCheck P t i && decide (i.zero.length = i.size) && eqCheck P t i.eqk
theorem tyCheck_ok {P : Program} {t : TypeId} {i : TyI} (h : tyCheck P t i = true) : TyOK P t i := by
  simp only [tyCheck, Bool.and_eq_true, decide_eq_true_eq] at h
  obtain ⟨⟨⟨⟨h1, h2⟩, h3⟩, h4⟩, h5⟩ := h
  have hu : ∀ d, P.underlying t = some d → ∀ w, (isAgg t).run P w = .ok (match d with | .struct _ => true | .array _ _ => true | _ => false) w := by
    intro d hd w
    simp only [isAgg, Sem.run_bind, run_und hd, Result.andThen_ok]
    cases d <;> rfl
  have hinf : ∃ inf z, P.info? t = some inf ∧ inf.size = i.size ∧ inf.bytes = i.bytes ∧ inf.zero = some z ∧ valsEq z.cells.toList i.zero = true ∧ (i.agg = true ↔ ∃ cs, z = .agg cs) := by
    unfold infoCheck at h3
    split at h3
    · rename_i inf hi
      simp only [Bool.and_eq_true, decide_eq_true_eq] at h3
      obtain ⟨⟨q1, q2⟩, q3⟩ := h3
      split at q3
      · rename_i z hz
        rw [Bool.and_eq_true] at q3
        refine ⟨inf, z, hi, q1, q2, hz, q3.1, ?_⟩
        have q4 := q3.2
        cases z <;> simp_all
      · simp at q3
    · simp at h3
  obtain ⟨inf, z, i1, i2, i3, i4, i5, i6⟩ := hinf
  refine ⟨?_, ?_, ⟨inf, z, i1, i2, i3, i4, Array.ext' (valsEq_eq i5)⟩, h4, fun inf' z' j1 j2 => ?_, valsEq_one i5, ?_, ?_⟩
  · unfold undCheck at h1
    split at h1 <;> rename_i hty <;> rw [hty] <;> simp only
    · split at h1
      · simp at h1; subst h1; assumption
      · simp at h1
    · split at h1
      · assumption
      · simp at h1
    · split at h1
      · assumption
      · simp at h1
    · split at h1
      · simp at h1; subst h1; assumption
      · simp at h1
    · split at h1
      · rename_i F hF
        simp only [Bool.and_eq_true, decide_eq_true_eq, List.all_eq_true] at h1
        exact ⟨F, hF, h1.1, fun f hf => Option.isSome_iff_exists.1 (h1.2 f hf)⟩
      · simp at h1
    · split at h1
      · simp at h1; obtain ⟨rfl, rfl⟩ := h1; assumption
      · simp at h1
    · split at h1
      · simp at h1; obtain ⟨rfl, rfl⟩ := h1; assumption
      · simp at h1
    · split at h1
      · simp at h1; subst h1; assumption
      · simp at h1
  · intro w
    rw [h2]
    unfold undCheck at h1
    split at h1 <;> rename_i hty <;> rw [hty] <;> simp only [aggTy] <;> split at h1 <;> first | (simp at h1; done) | skip
    all_goals first
      | (rename_i hd; exact hu _ hd w)
      | (rename_i d hn1 hn2 hd; rw [hu _ hd w]; cases d <;> simp_all)
  · rw [i1] at j1; cases j1
    rw [i4] at j2; cases j2
    exact i6
  · rw [h2]
    cases i.ty <;> simp [aggTy]
  · intro hne
    unfold eqCheck at h5
    split at h5
    · rename_i he; exact absurd he hne
    · split at h5
      · rename_i F hF
        simp only [Bool.and_eq_true, Bool.not_eq_true'] at h5
        obtain ⟨⟨q1, q2⟩, q3⟩ := h5
        obtain ⟨k1, k2⟩ := fieldsCheck_ok q3
        refine ⟨F, hF, q1, q2, k1, fun k f q hk hq => ?_⟩
        have := k2 k f q hk hq
        simpa using this
      · simp at h5
def tabCheck (P : Program) (Γ : Tab) : List Nat → Bool
  | [] => true
  | t :: ts => (match Γ t with
    | some i => tyCheck P t i
    | none => true) && tabCheck P Γ ts
theorem tabCheck_ok {P : Program} {Γ : Tab} : ∀ {ts : List Nat}, tabCheck P Γ ts = true → ∀ t ∈ ts, ∀ i, Γ t = some i → TyOK P t i
  | [], _, t, ht => by simp at ht
  | x :: ts, h, t, ht => by
    simp only [tabCheck, Bool.and_eq_true] at h
    intro i hi
    rcases List.mem_cons.1 ht with rfl | ht
    · have := h.1
      rw [hi] at this
      exact tyCheck_ok this
    · exact tabCheck_ok h.2 t ht i hi
end Go.Vc
/- Functions that are handed a box, and functions that hand back a new one: their contracts out of the verification condition. -/
namespace Go.Vc
open Go Go.RowKit

section
variable {P : Program} {Γ : Tab} {w0 : W0} {w w' : World} {H0 H' : Heap} {a : Act} {ρ : Nat → Nat} {σ : Nat → Value} {an : Ann}
theorem bEnts_get : ∀ {cs : List BC} {ys : List Value}, bLies cs ys → ∀ k : Nat, (bEnts cs)[k]? = ((bRows cs ys)[k]?).map fun r => some (true, LObj.row r.e r.n r.xs)
  | [], [], _, k => by simp [bEnts, bRows]
  | .v x :: cs, y :: ys, h, k => bEnts_get h.2 k
  | .row e n xs :: cs, y :: ys, h, 0 => rfl
  | .row e n xs :: cs, y :: ys, h, k + 1 => by
    have := bEnts_get (cs := cs) (ys := ys) h k
    simpa [bEnts, bRows] using this
  | [], _ :: _, h, _ => h.elim
  | .v _ :: _, [], h, _ => h.elim
  | .row _ _ _ :: _, [], h, _ => h.elim
theorem bCells_rel : ∀ {cs : List BC} {ys : List Value} {m : Nat}, bLies cs ys → (∀ (k : Nat) (r : NRow), (bRows cs ys)[k]? = some r → σ (m + k) = r.s) → relL ρ σ (bCells cs m) ys
  | [], [], _, _, _ => trivial
  | .v x :: cs, y :: ys, m, h, hs => ⟨h.1.1, bCells_rel h.2 hs⟩
  | .row e n xs :: cs, y :: ys, m, h, hs => ⟨(hs 0 _ rfl).symm, bCells_rel h fun k r hk => by
    have := hs (k + 1) r (by simpa [bRows] using hk)
    rw [← this]; congr 1; omega⟩
  | [], _ :: _, _, h, _ => h.elim
  | .v _ :: _, [], _, h, _ => h.elim
  | .row _ _ _ :: _, [], _, h, _ => h.elim
theorem bCells_refs : ∀ {cs : List BC} {m d : Nat}, refsL d (bCells cs m) → m ≤ d
  | [], m, d, ⟨c, hc, _⟩ => by simp [bCells] at hc
  | .v x :: cs, m, d, ⟨c, hc, hr⟩ => by
    rcases List.mem_cons.1 hc with rfl | hc
    · exact hr.elim
    · exact bCells_refs ⟨c, hc, hr⟩
  | .row e n xs :: cs, m, d, ⟨c, hc, hr⟩ => by
    rcases List.mem_cons.1 hc with rfl | hc
    · have : m = d := hr
      omega
    · have := bCells_refs (m := m + 1) (d := d) ⟨c, hc, hr⟩
      omega
theorem eltOK_mem {cs : List BC} {p j : Nat} : ∀ {args : List BA}, eltOK cs args → BA.elt p j ∈ args → ∃ e n xs, cs[p]? = some (.row e n xs) ∧ 0 < n
  | a :: as, h, hm => by
    rcases List.mem_cons.1 hm with rfl | hm
    · have h := h.1
      split at h
      · rename_i e n xs hc
        exact ⟨e, n, xs, hc, h⟩
      · exact h.elim
    · refine eltOK_mem (args := as) ?_ hm
      cases a with
      | elt _ _ => exact h.2
      | v _ => exact h
      | me => exact h
theorem bRows_rowNo : ∀ {cs : List BC} {ys : List Value} {p : Nat} {e : TypeId} {n : Nat} {xs : List Value}, bLies cs ys → cs[p]? = some (.row e n xs) → ∃ y, ys[p]? = some y ∧ (bRows cs ys)[rowNo cs p]? = some ⟨y, e, n, xs⟩
  | [], _, _, _, _, _, _, h => by simp at h
  | .v x :: cs, y :: ys, 0, _, _, _, _, h => by simp at h
  | .v x :: cs, y :: ys, p + 1, e, n, xs, hl, h => by
    obtain ⟨z, h1, h2⟩ := bRows_rowNo (cs := cs) (ys := ys) (p := p) hl.2 (by simpa using h)
    exact ⟨z, by simpa using h1, h2⟩
  | .row _ _ _ :: cs, y :: ys, 0, e, n, xs, hl, h => by
    simp at h
    obtain ⟨rfl, rfl, rfl⟩ := h
    exact ⟨y, rfl, rfl⟩
  | .row _ _ _ :: cs, y :: ys, p + 1, e, n, xs, hl, h => by
    obtain ⟨z, h1, h2⟩ := bRows_rowNo (cs := cs) (ys := ys) (p := p) hl (by simpa using h)
    exact ⟨z, by simpa using h1, by simpa [bRows, rowNo] using h2⟩
  | .v _ :: _, [], _, _, _, _, h, _ => h.elim
  | .row _ _ _ :: _, [], _, _, _, _, h, _ => h.elim
def sigB (N : Nat) (nr : List NRow) (i : Nat) : Value := if N + 1 ≤ i then match nr[i - (N + 1)]? with
  | some r => r.s
  | none => .slice none 0 0 else .slice none 0 0
theorem stB_good {args : List BA} {n extra ad : Nat} {t : TypeId} {cs : List BC} {H : Heap} {O : OMap} {ys : List Value} (hs : Snap H w) (hl : bLies cs ys) (he : eltOK cs args) (hb : BoxW P w H ad t ys (bRows cs ys) O) :
    Good P ⟨w, Names (some ad) (bRows cs ys) O⟩ H (stB args n extra ad t cs H O) { tmps := (args.map (BA.val ad ys)).toArray ++ Array.replicate (n - (args.map (BA.val ad ys)).toArray.size) undef, defers := [] } w (fun _ => ad) (sigB (n + extra) (bRows cs ys)) := by
  obtain ⟨N, hN⟩ : ∃ N, N = n + extra := ⟨_, rfl⟩
  have hLlow : ∀ i, i < N → (stB args n extra ad t cs H O).L[i]? = some none := by
    intro i hi
    simp only [stB, ← hN]
    rw [List.getElem?_append_left (by simpa using hi)]
    simp [List.getElem?_replicate, hi]
  have hLbox : (stB args n extra ad t cs H O).L[N]? = some (some (true, .box t (bCells cs (N + 1)))) := by
    simp only [stB, ← hN]
    rw [List.getElem?_append_right (by simp)]
    simp
  have hLrow : ∀ k, (stB args n extra ad t cs H O).L[N + 1 + k]? = ((bRows cs ys)[k]?).map fun r => some (true, LObj.row r.e r.n r.xs) := by
    intro k
    simp only [stB, ← hN]
    rw [List.getElem?_append_right (by simp; omega), List.length_replicate, show N + 1 + k - N = k + 1 by omega, List.getElem?_cons_succ]
    exact bEnts_get hl k
  have hL : ∀ {i : Nat} {f : Bool} {o : LObj}, (stB args n extra ad t cs H O).L[i]? = some (some (f, o)) → (i = N ∧ o = .box t (bCells cs (N + 1))) ∨ ∃ k r, i = N + 1 + k ∧ (bRows cs ys)[k]? = some r ∧ o = .row r.e r.n r.xs := by
    intro i f o h
    rcases Nat.lt_trichotomy i N with hi | hi | hi
    · rw [hLlow i hi] at h; simp at h
    · subst hi
      rw [hLbox] at h
      simp at h
      exact .inl ⟨rfl, h.2.symm⟩
    · obtain ⟨k, rfl⟩ : ∃ k, i = N + 1 + k := ⟨i - (N + 1), by omega⟩
      rw [hLrow] at h
      rcases hr : (bRows cs ys)[k]? with _ | r
      · rw [hr] at h; simp at h
      · rw [hr] at h
        simp at h
        exact .inr ⟨k, r, rfl, hr, h.2.symm⟩
  have hsig : ∀ (k : Nat) (r : NRow), (bRows cs ys)[k]? = some r → sigB N (bRows cs ys) (N + 1 + k) = r.s := by
    intro k r hr
    unfold sigB
    rw [if_pos (by omega), show N + 1 + k - (N + 1) = k by omega, hr]
  rw [← hN]
  refine ⟨rfl, by simp [stB], fun i x hx => ?_, ⟨rfl, rfl, rfl, Nat.le_refl _, fun _ _ _ => rfl, Nat.le_refl _⟩, Heap.le_refl _, fun _ _ _ => rfl, hs, fun i f o h => ?_, fun i j f f' o o' g hij h h' hb1 hb2 => ?_, fun d hd => ?_, fun i => ?_, fun b x hO => ?_⟩
  · simp only [stB] at hx
    by_cases hi : i < args.length
    · rw [List.getElem?_append_left (by simpa using hi)] at hx
      simp [hi] at hx
      subst hx
      have : ((args.map (BA.val ad ys)).toArray ++ Array.replicate (n - (args.map (BA.val ad ys)).toArray.size) undef).getD i undef = args[i].val ad ys := by
        simp [Array.getElem?_append, hi]
      rw [this]
      cases hai : args[i] with
      | v x => exact ofArg_rel _
      | me => exact ⟨rfl, rfl⟩
      | elt p j =>
        obtain ⟨e, m, xs, hc, hm⟩ := eltOK_mem he (hai ▸ List.getElem_mem hi : BA.elt p j ∈ args)
        obtain ⟨y, hy, hr⟩ := bRows_rowNo hl hc
        obtain ⟨q1, _, _⟩ := hb.rows _ (List.mem_of_getElem? hr)
        have hs1 := hsig _ _ hr
        rcases q1.2 with ⟨_, h0⟩ | ⟨g, cap, cur, hv, _⟩
        · simp only at h0
          omega
        · simp only at hv hs1
          subst hv
          refine ⟨g, _, _, by rw [← hN]; exact hs1, ?_⟩
          simp only [BA.val, hy]
    · rw [List.getElem?_append_right (by simpa using hi)] at hx
      simp [List.getElem?_replicate] at hx
      obtain ⟨h1, rfl⟩ := hx
      have : ((args.map (BA.val ad ys)).toArray ++ Array.replicate (n - (args.map (BA.val ad ys)).toArray.size) undef).getD i undef = undef := by
        simp [Array.getElem?_append, hi, h1]
      rw [this]
      rfl
  · rcases hL h with ⟨rfl, rfl⟩ | ⟨k, r, rfl, hr, rfl⟩
    · exact ⟨⟨ys⟩, hb.box, bCells_rel hl fun k r hk => hsig k r hk, .inr (.inl rfl), hb.hid⟩
    · have hm := List.mem_of_getElem? hr
      obtain ⟨q1, q2, q3⟩ := hb.rows r hm
      simp only [ObjOK]
      rw [hsig k r hr]
      exact ⟨⟨q1, fun g hg => .inr (.inr (.inl ⟨r, hm, hg⟩))⟩, q2, q3⟩
  · rcases hL h with ⟨rfl, rfl⟩ | ⟨k, r, rfl, hr, rfl⟩
    · simp [blk] at hb1
      subst hb1
      rcases hL h' with ⟨e, _⟩ | ⟨k', r', rfl, hr', rfl⟩
      · exact hij e.symm
      · simp only [blk] at hb2
        rw [hsig k' r' hr'] at hb2
        exact hb.ne r' (List.mem_of_getElem? hr') hb2
    · simp only [blk] at hb1
      rw [hsig k r hr] at hb1
      rcases hL h' with ⟨rfl, rfl⟩ | ⟨k', r', rfl, hr', rfl⟩
      · simp [blk] at hb2
        subst hb2
        exact hb.ne r (List.mem_of_getElem? hr) hb1
      · simp only [blk] at hb2
        rw [hsig k' r' hr'] at hb2
        have hne : k ≠ k' := fun e => hij (by rw [e])
        obtain ⟨hk, e1⟩ := List.getElem?_eq_some_iff.1 hr
        obtain ⟨hk', e2⟩ := List.getElem?_eq_some_iff.1 hr'
        have hp := List.pairwise_iff_getElem.1 hb.apart
        rcases Nat.lt_or_gt_of_ne hne with hlt | hlt
        · have := hp k k' hk hk' hlt g (by rw [e1]; exact hb1)
          rw [e2] at this
          exact this hb2
        · have := hp k' k hk' hk hlt g (by rw [e2]; exact hb2)
          rw [e1] at this
          exact this hb1
  · have hdN : d < N := by
      rcases Nat.lt_trichotomy d N with hi | hi | hi
      · exact hi
      · subst hi; rw [hLbox] at hd; simp at hd
      · obtain ⟨k, rfl⟩ : ∃ k, d = N + 1 + k := ⟨d - (N + 1), by omega⟩
        rw [hLrow] at hd
        rcases hr : (bRows cs ys)[k]? with _ | r
        · rw [hr] at hd; simp at hd
        · rw [hr] at hd; simp at hd
    refine ⟨fun j x hx => ?_, fun j f o hj => ?_⟩
    · simp only [stB] at hx
      rcases List.mem_append.1 (List.mem_of_getElem? hx) with h | h
      · obtain ⟨b, _, rfl⟩ := List.mem_map.1 h
        cases b with
        | v x => exact fun hh => ofArg_refs hh
        | me =>
          intro hh
          have hh : n + extra = d := hh
          omega
        | elt p j =>
          intro hh
          have hh : n + extra + 1 + rowNo cs p = d := hh
          omega
      · rw [(List.mem_replicate.1 h).2]
        exact fun hh => hh
    · rcases hL hj with ⟨rfl, rfl⟩ | ⟨k, r, rfl, hr, rfl⟩
      · intro hh
        have := bCells_refs hh
        omega
      · exact fun hh => hh
  · unfold sigB
    split
    · split
      · rename_i r hr
        exact ownsRow_form (hb.rows r (List.mem_of_getElem? hr)).1
      · exact ⟨_, _, _, rfl⟩
    · exact ⟨_, _, _, rfl⟩
  · have hO : O b = some x := hO
    obtain ⟨h1, h2⟩ := hb.opn b x hO
    have h3 := hb.opn2 b (by rw [hO]; simp)
    refine ⟨⟨.inr (.inr (.inr (by rw [hO]; simp))), h1, h2⟩, fun i f o hi hbi => ?_⟩
    rcases hL hi with ⟨rfl, rfl⟩ | ⟨k, r, rfl, hr, rfl⟩
    · simp [blk] at hbi
      exact h3.1 hbi.symm
    · simp only [blk] at hbi
      rw [hsig k r hr] at hbi
      exact h3.2 r (List.mem_of_getElem? hr) hbi
theorem res_run {fn : Func} {vs : List Value} {a : Act} (hrun : (fn.results.toList.mapM fun r => (match r with | .tmp t => pure (a.tmps.getD t undef) | .cell b t => do loadVar t (← asAddr (a.tmps.getD b undef)) : Sem Value)).run P w = .ok vs w) :
    (results fn a.tmps).run P w = .ok (if h : vs.toArray.size = 1 then vs.toArray[0] else .tuple vs.toArray) w := by
  unfold results
  rw [Array.mapM_eq_mapM_toList]
  simp only [Sem.run_bind, Sem.run_map]
  refine (congrArg (fun r : Result (List Value) => ((r.andThen _).andThen _)) (show _ = Result.ok vs w from hrun)).trans ?_
  simp
/- what is handed back, out of the state at the end -/
theorem boxW_out {st st' : St} (hg : Good P w0 H0 st a w ρ σ) {i : Nat} {f : Bool} {t : TypeId} {cs : List S1} (hL : st.L[i]? = some (some (f, .box t cs))) {ys : List Value} (hys : w.heap[ρ i]? = some (.cells ⟨ys⟩ t (0, 0))) (hid : ∀ o, st.H (ρ i) o = none) {nr : List NRow} (ho : RowsOut P w0 w σ st st' nr) : BoxW P w st.H (ρ i) t ys nr st.O := by
  refine ⟨hys, hid, fun r hr => ?_, fun r hr hgb => ?_, ho.apart, fun b x hO => (hg.opn b x hO).1.2, fun b hO => ⟨?_, fun r hr hgb => ?_⟩⟩
  · obtain ⟨q1, q2, q3⟩ := (ho.each r hr).1
    exact ⟨q1.row, q2, q3⟩
  · obtain ⟨k, e, n, xs, k1, _, k3⟩ := (ho.each r hr).2 _ hgb
    have hne : k ≠ i := by rintro rfl; rw [hL] at k1; simp at k1
    exact hg.sep k i _ _ _ _ _ hne k1 hL k3 rfl
  · rintro rfl
    exact hO (hg.noOpen hL rfl)
  · obtain ⟨k, e, n, xs, k1, _, k3⟩ := (ho.each r hr).2 _ hgb
    exact hO (hg.noOpen k1 k3)
theorem names_nw {st st' : St} (hg : Good P w0 H0 st a w ρ σ) {i : Nat} (hnw : w0.nw (ρ i)) {nr : List NRow} (ho : RowsOut P w0 w σ st st' nr) {b : Nat} (h : Names (some (ρ i)) nr st.O b) : w0.nw b := by
  rcases h with e | ⟨r, hr, hgb⟩ | hO
  · cases e; exact hnw
  · exact (ho.each r hr).1.own.nw b hgb
  · rcases h : st.O b with _ | x
    · exact absurd h hO
    · exact (hg.opn b x h).1.1
/-- the contract of a function that is handed a box and hands it back -/
theorem conB_of_vc (hm : P.follows .mixedOrders = true) (hT : TabOK P Γ) {f : FuncId} {fn : Func} (hf : P.funcs[f]? = some fn) (hname : (fn.name == "runtime.NumGoroutine") = false) {args : List BA} {k : Nat} {t : TypeId} {cs : List BC} {extra : Nat} {H : Heap} {O : OMap} {ls : List Leaf} {sh : RSh} {post : PostL ls (PostR sh.parts (Heap → OMap → Prop))}
    (he : eltOK cs args) (h : vcFnB P Γ an fn args k t cs extra H O ls sh post) : ConB P f args t cs H O ls sh post := by
  unfold vcFnB at h
  split at h
  · exact h.elim
  · rename_i c hb
    refine ⟨⟨fn, hf, by rw [hb]; rfl, hname⟩, fun w ad ys hs hl hbw => calls_of_wp hf hb ?_⟩
    refine vcC_sound hm hT (stB_good (args := args) (n := fn.ntmps) (extra := extra) hs hl he hbw) (h ad) ?_
    intro e' a' w' st' ρ' σ' hk _ hg
    have fin : vcRetB Γ fn.results.toList k (fn.ntmps + extra) ad t ls sh post st' → a'.defers = [] ∧ ∃ v, (results fn a'.tmps).run P w' = .ok v w' ∧ ∃ v' H' O' ys' nr, Ending.returned v = .returned v' ∧
        (exL ls post nr fun vs nr1 q => vs = ys' ∧ exR sh.parts q nr1 fun us nr2 p => nr2 = [] ∧ (if sh.tup then v' = .tuple ⟨us⟩ else us = [v']) ∧ p H' O') ∧
        BelS w w' (Names (some ad) (bRows cs ys) O) ∧ Heap.le H H' ∧ (∀ b, b < w.heap.size → ¬ Names (some ad) (bRows cs ys) O b → ∀ o, H' b o = H b o) ∧ Snap H' w' ∧ BoxW P w' H' ad t ys' nr O' ∧
        (∀ b, Names (some ad) nr O' b → w.heap.size ≤ b ∨ Names (some ad) (bRows cs ys) O b) := by
      intro hh
      refine ⟨hg.defers, ?_⟩
      unfold vcRetB at hh
      split at hh
      · rename_i htup
        split at hh
        · exact hh.elim
        · obtain ⟨st2, q1, q2, q3, _⟩ := vcPubs_sound hg hh
          split at q1
          · exact q1.elim
          · rename_i xs hxs
            split at q1
            · rename_i i b hfr
              split at q1
              · rename_i t' cs' hbox
                split at q1
                · rename_i hit
                  obtain ⟨rfl, rfl⟩ := hit
                  obtain ⟨hba, q1⟩ := q1
                  have hba : b = ad := hba
                  subst hba
                  split at q1
                  · rename_i q st3 hcol
                    split at q1
                    · rename_i p st4 hcolR
                      obtain ⟨vs, hrun, hrel, hlen⟩ := retAll_sound hT q3 hxs
                      obtain ⟨p1, p2⟩ := q3.fr _ _ hfr
                      obtain ⟨fl, hL⟩ := getL_some hbox
                      obtain ⟨ys', o1, o2, o3, o4⟩ := q3.obj _ _ _ hL
                      obtain ⟨nrA, r1, r2⟩ := colL_out q3 hcol (resL_rel q3.obj o2)
                      have hd1 := colL_dies hcol
                      obtain ⟨hd2, nrB, r3, r4⟩ := colR_out (q3.dies hd1) hcolR hrel
                      have hout := r1.append q3 r3 hd1 hd2
                      have hbw' := boxW_out q3 hL (ys := ys'.toList) o1 o4 hout
                      rw [p2] at hbw'
                      refine ⟨_, res_run hrun, _, st2.H, st2.O, ys'.toList, nrA ++ nrB, rfl, ?_, q3.below, q3.le, fun b hb1 hb2 => q3.old b (fun hn => ?_), q3.snap, hbw', fun b hb1 => ?_⟩
                      · refine r2 nrB _ ⟨rfl, ?_⟩
                        have := r4 [] (fun us nr2 p => nr2 = [] ∧ (if sh.tup then (if h : vs.toArray.size = 1 then vs.toArray[0] else .tuple vs.toArray) = .tuple ⟨us⟩ else us = [if h : vs.toArray.size = 1 then vs.toArray[0] else .tuple vs.toArray]) ∧ p st2.H st2.O) ⟨rfl, ?_, q1⟩
                        · rw [List.append_nil] at this
                          exact this
                        · rw [htup, ← hlen]
                          by_cases h1 : vs.length = 1
                          · match vs, h1 with
                            | [v], _ => simp
                          · have : (vs.length != 1) = true := by simpa using h1
                            simp [this, h1]
                      · rcases hn with hn | hn
                        · exact absurd hb1 (Nat.not_lt.2 hn)
                        · exact hb2 hn
                      · rw [← p2] at hb1
                        exact names_nw q3 o3 hout hb1
                    · exact q1.elim
                  · exact q1.elim
                · exact q1.elim
              · exact q1.elim
            · exact q1.elim
      · exact hh.elim
    cases e' with
    | normal => exact fin hk
    | ret => exact fin hk
    | exit id => exact hk.elim
    | goto l => exact hk.elim
    | panic ch => exact hk.elim
    | outgrown => exact hk.elim
theorem st0O_good {args : List Value} {n extra : Nat} {H : Heap} {O : OMap} (hs : Snap H w) (hO : ∀ b x, O b = some x → (∃ ob, w.heap[b]? = some ob ∧ XOb P x ob) ∧ ∀ t, XFree P x t → H b t = none) :
    Good P ⟨w, Names none [] O⟩ H { st0 args n extra H with O := O } { tmps := args.toArray ++ Array.replicate (n - args.toArray.size) undef, defers := [] } w (fun _ => 0) (fun _ => .slice none 0 0) := by
  have hg := st0_good (P := P) (args := args) (n := n) (extra := extra) hs
  have hL : ∀ {i : Nat} {f : Bool} {o : LObj}, (st0 args n extra H).L[i]? = some (some (f, o)) → False := by
    intro i f o h
    simp [st0, List.getElem?_replicate] at h
  exact ⟨hg.defers, hg.size, hg.fr, ⟨rfl, rfl, rfl, Nat.le_refl _, fun _ _ _ => rfl, Nat.le_refl _⟩, hg.le, fun _ _ _ => rfl, hg.snap, fun i f o h => (hL h).elim, fun i j f f' o o' g _ h => (hL h).elim, fun d hd => ⟨(hg.nr d hd).fr, (hg.nr d hd).obj⟩, hg.sl, fun b x h => ⟨⟨.inr (.inr (.inr (by
    have h : O b = some x := h
    rw [h]; simp))), hO b x h⟩, fun i f o h => (hL h).elim⟩⟩
/-- the contract of a function that hands back a new box -/
theorem conN_of_vc (hm : P.follows .mixedOrders = true) (hT : TabOK P Γ) {f : FuncId} {fn : Func} (hf : P.funcs[f]? = some fn) (hname : (fn.name == "runtime.NumGoroutine") = false) {args : List Value} {t : TypeId} {extra : Nat} {H : Heap} {O : OMap} {ls : List Leaf} {post : PostL ls (Heap → OMap → Prop)}
    (h : vcFnN P Γ an fn args t extra H O ls post) : ConN P f args t H O ls post := by
  unfold vcFnN at h
  split at h
  · exact h.elim
  · rename_i c hb
    refine ⟨⟨fn, hf, by rw [hb]; rfl, hname⟩, fun w hs hO => calls_of_wp hf hb ?_⟩
    refine vcC_sound hm hT (st0O_good hs hO) h ?_
    intro e' a' w' st' ρ' σ' hk _ hg
    have fin : vcRetN Γ fn.results.toList t ls post st' → a'.defers = [] ∧ ∃ v, (results fn a'.tmps).run P w' = .ok v w' ∧ ∃ ad H' O' ys' nr, Ending.returned v = .returned (.pointer (some ⟨ad, 0, none⟩)) ∧
        (exL ls post nr fun vs nr1 q => vs = ys' ∧ nr1 = [] ∧ q H' O') ∧
        BelS w w' (Names none [] O) ∧ Heap.le H H' ∧ (∀ b, b < w.heap.size → ¬ Names none [] O b → ∀ o, H' b o = H b o) ∧ Snap H' w' ∧ BoxW P w' H' ad t ys' nr O' ∧
        (∀ b, Names (some ad) nr O' b → w.heap.size ≤ b ∨ Names none [] O b) := by
      intro hh
      refine ⟨hg.defers, ?_⟩
      unfold vcRetN at hh
      split at hh
      · rename_i r hrs
        split at hh
        · rename_i i hret
          split at hh
          · rename_i t' cs' hbox
            split at hh
            · rename_i ht
              subst ht
              split at hh
              · rename_i q st3 hcol
                have hall : retAll Γ st' fn.results.toList = some [.one (.loc i 0)] := by
                  rw [hrs]; simp [retAll, hret]
                obtain ⟨vs, hrun, hrel, hlen⟩ := retAll_sound hT hg hall
                rw [hrs] at hlen
                obtain ⟨fl, hL⟩ := getL_some hbox
                obtain ⟨ys', o1, o2, o3, o4⟩ := hg.obj _ _ _ hL
                obtain ⟨nr, r1, r2⟩ := colL_out hg hcol (resL_rel hg.obj o2)
                match vs, hlen, hrel with
                | [v], _, hrel =>
                  have hv : v = .pointer (some ⟨ρ' i, 0, none⟩) := hrel.1
                  subst hv
                  refine ⟨_, res_run hrun, ρ' i, st'.H, st'.O, ys'.toList, nr, by simp, ?_, hg.below, hg.le, fun b hb1 hb2 => hg.old b (fun hn => ?_), hg.snap, boxW_out hg hL (ys := ys'.toList) o1 o4 r1, fun b hb1 => names_nw hg o3 r1 hb1⟩
                  · have := r2 [] (fun vs nr1 q => vs = ys'.toList ∧ nr1 = [] ∧ q st'.H st'.O) ⟨rfl, rfl, hh⟩
                    rw [List.append_nil] at this
                    exact this
                  · rcases hn with hn | hn
                    · exact absurd hb1 (Nat.not_lt.2 hn)
                    · exact hb2 hn
              · exact hh.elim
            · exact hh.elim
          · exact hh.elim
        · exact hh.elim
      · exact hh.elim
    cases e' with
    | normal => exact fin hk
    | ret => exact fin hk
    | exit id => exact hk.elim
    | goto l => exact hk.elim
    | panic ch => exact hk.elim
    | outgrown => exact hk.elim
end
end Go.Vc
