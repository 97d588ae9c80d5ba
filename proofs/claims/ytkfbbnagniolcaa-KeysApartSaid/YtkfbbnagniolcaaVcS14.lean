/- One operation, and a row of operations. -/
import Derived.Test.YtkfbbnagniolcaaVcS13
set_option linter.unusedSectionVars false
set_option linter.unusedSimpArgs false
set_option linter.unusedVariables false
namespace Go.Vc
open Go Go.RowKit

section
variable {P : Program} {Γ : Tab} {w0 : W0} {w w' : World} {H0 H' : Heap} {st : St} {a : Act} {ρ : Nat → Nat} {σ : Nat → Value} {an : Ann}
theorem relA_append {xs ys : List SV} {us vs : List Value} : relA ρ σ xs us → relA ρ σ ys vs → relA ρ σ (xs ++ ys) (us ++ vs) := by
  induction xs generalizing us with
  | nil =>
    intro h k
    cases us with
    | nil => exact k
    | cons _ _ => exact h.elim
  | cons x xs ih =>
    intro h k
    cases us with
    | nil => exact h.elim
    | cons u us => exact ⟨h.1, ih h.2 k⟩
theorem relA_evs (hg : Good P w0 H0 st a w ρ σ) : ∀ {xs : List Operand} {rs : List SV}, evs st xs = some rs → relA ρ σ rs (xs.map a.eval)
  | [], rs, h => by simp [evs] at h; subst h; trivial
  | x :: xs, rs, h => by
    simp only [evs] at h
    split at h
    · rename_i r hr
      split at h
      · rename_i rs' hrs
        simp at h; subst h
        exact ⟨ev_rel hg hr, relA_evs hg hrs⟩
      · simp at h
    · simp at h
theorem relA_caps (hg : Good P w0 H0 st a w ρ σ) : ∀ {cap : List S1} {ys : List Value}, relL ρ σ cap ys → relA ρ σ (cap.map fun c => .one (res1 st c)) ys
  | [], [], _ => trivial
  | _ :: _, _ :: _, h => ⟨res1_rel hg.obj h.1, relA_caps hg h.2⟩
  | [], _ :: _, h => h.elim
  | _ :: _, [], h => h.elim
theorem relA_vs : ∀ (ys : List Value), relA ρ σ (ys.map fun c => SV.one (.v c)) ys
  | [] => trivial
  | _ :: ys => ⟨rfl, relA_vs ys⟩
def Next0 (P : Program) (w0 : W0) (H0 : Heap) (ws : List Nat) (st : St) (K : St → Prop) (next : Act → World → Prop) : Prop :=
  ∀ a' w' st' ρ' σ', K st' → Keeps ws st st' → Good P w0 H0 st' a' w' ρ' σ' → next a' w'
def NextO (P : Program) (w0 : W0) (H0 : Heap) (o : Oper) (st : St) (w : World) (ρ : Nat → Nat) (K : St → Prop) (next : Act → World → Prop) : Prop :=
  ∀ a' w' st' ρ' σ', K st' → Keeps o.dst.toList st st' → Good P w0 H0 st' a' w' ρ' σ' → Goes (fun i => stTgt st o.op = some i) st st' ρ ρ' w w' → next a' w'
theorem EfOK.wp {o : Oper} {K : St → Prop} (h : EfOK P w0 H0 st a w ρ o K) {next : Act → World → Prop} {Q : Exit → Act → World → Prop} (hn : NextO P w0 H0 o st w ρ K next) : o.wp P a w next Q := by
  obtain ⟨nx, v, w', st', ρ', σ', h1, h2, h3, h4, h5, h6⟩ := h
  rcases h2 with rfl | ⟨rfl, rfl⟩
  · simp only [Oper.wp, h1, Oper.upon]
    exact hn _ _ _ _ _ h3 h4 h5 h6
  · simp only [Oper.wp, h1, Oper.upon]
    exact hn _ _ _ _ _ h3 h4 h5 h6
theorem run_callFunc {f : FuncId} (h : FnOK P f) (args : Array Value) (w : World) : (callFunc f args).run P w = .ok (.enter f args) w := by
  obtain ⟨fn, h1, h2, h3⟩ := h
  have h2' : fn.body ≠ none := by
    intro hb; rw [hb] at h2; simp at h2
  have h3' : ¬ fn.name = "runtime.NumGoroutine" := by
    intro hh; rw [hh] at h3; simp at h3
  simp [callFunc, h1, h2', h3']
theorem call_wp {o : Oper} {K : St → Prop} {f : FuncId} {us : List Value} (hc : CallOK P w0 H0 st a w ρ o.dst f us K)
    (he : (execOp a.eval o).run P w = (callFunc f us.toArray).run P w) {next : Act → World → Prop} {Q : Exit → Act → World → Prop} (hn : NextO P w0 H0 o st w ρ K next) : o.wp P a w next Q := by
  simp only [Oper.wp, he, run_callFunc hc.1, Oper.upon]
  refine Calls.mono hc.2 ?_
  rintro e w' ⟨v, st', ρ', σ', rfl, h1, h2, h3, h4⟩
  exact hn _ _ _ _ _ h1 h2 h3 h4.any
theorem goes_setS (st : St) (d : Option Tmp) (x : SV) (ρ : Nat → Nat) (w : World) {X : Nat → Prop} : Goes X st (setS st d x) ρ ρ w w := by
  refine ⟨fun i f o h _ _ => ⟨f, ?_⟩, fun _ _ _ _ _ _ => rfl, fun _ _ _ _ _ _ => rfl⟩
  cases d <;> exact h
theorem vcExec_sound (hT : TabOK P Γ) (hg : Good P w0 H0 st a w ρ σ) {o : Oper} {K : St → Prop} (h : vcExec P Γ an st o K) {next : Act → World → Prop} {Q : Exit → Act → World → Prop}
    (hn : NextO P w0 H0 o st w ρ K next) : o.wp P a w next Q := by
  unfold vcExec at h
  generalize hrd : isRd o.op = rd at h
  cases rd
  case true =>
    obtain ⟨v, r, h1, h2, h3, h4⟩ := vcRd_sound hT hg h
    replace h1 := h1 w (SameFor.refl hg)
    simp only [Oper.wp, h1, Oper.upon]
    exact hn _ _ _ _ _ h4 (Keeps.setS st o.dst r) (Good.setS hg o.dst h2 fun d hd => h3 d (hg.nr d hd)) (goes_setS _ _ _ _ _)
  case false =>
    clear hrd
    obtain ⟨dst, op, ty, pos, after, gd⟩ := o
    simp only at h
    cases op <;> try (exact h.elim)
    case alloc t => exact (alloc_sound hT hg h).wp hn
    case box t x => exact (box_sound hT hg h).wp hn
    case buildSlice t n parts => exact (buildSlice_sound hT hg h).wp hn
    case makeSlice t l c => exact (makeSlice_sound hT hg h).wp hn
    case store t x y => exact (store_sound hT hg h).wp hn
    case call c =>
      obtain ⟨callee, args, argTypes⟩ := c
      cases callee with
      | invoke r m => exact h.elim
      | builtin b =>
        cases b <;> try (exact h.elim)
        case append =>
          simp only [vcEf] at h
          split at h
          · rename_i s x hargs
            split at h
            · rename_i t t' htys
              split at h
              · rename_i htt
                subst htt
                split at h
                · exact h.elim
                · rename_i sv hs
                  split at h
                  · exact h.elim
                  · rename_i xv hx
                    obtain ⟨v, w', st', ρ', σ', r1, r2, r3, r4, r5⟩ := append_sound hT hg (ty := ty) hs hx h
                    have e1 : args = #[s, x] := Array.ext' hargs
                    have e2 : argTypes = #[t, t] := Array.ext' htys
                    subst e1; subst e2
                    have he : (execOp a.eval ⟨dst, .call { callee := .builtin .append, args := #[s, x], argTypes := #[t, t] }, ty, pos, after, gd⟩).run P w = .ok (.value v) w' := by
                      simp [execOp, resolve, invoke, builtin, r1]
                    simp only [Oper.wp, he, Oper.upon]
                    exact hn _ _ _ _ _ r2 r3 r4 r5.any
              · exact h.elim
            · exact h.elim
          · exact h.elim
        case clear =>
          simp only [vcEf] at h
          split at h
          · rename_i x hargs
            split at h
            · rename_i t htys
              split at h
              · rename_i i hi
                split at h
                · rename_i e hty
                  split at h
                  · rename_i j hj
                    split at h
                    · rename_i xv hx
                      have e1 : args = #[x] := Array.ext' hargs
                      have e2 : argTypes = #[t] := Array.ext' htys
                      subst e1; subst e2
                      exact (clear_sound hT hg hi hty hj hx h).wp hn
                    · exact h.elim
                  · exact h.elim
                · exact h.elim
              · exact h.elim
            · exact h.elim
          · exact h.elim
      | value f =>
        simp only [vcEf] at h
        split at h
        · rename_i f' cap hf
          obtain ⟨ys, hy, hr⟩ := ev_rel hg hf
          refine call_wp (us := args.toList.map a.eval ++ ys.toList) (vcCall_sound hg ?_ h) ?_ hn
          · intro st' hg' as has
            split at has
            · rename_i as' has'
              simp at has; subst has
              exact relA_append (relA_evs hg' has') (relA_caps hg' hr)
            · simp at has
          · have : (args.map a.eval ++ ys) = (args.toList.map a.eval ++ ys.toList).toArray := by
              apply Array.ext'; simp
            simp only [execOp, resolve, invoke, hy, Deferred.ofValue]
            rw [← this]
            simp
        · rename_i f' first cap hf
          have hv : a.eval f = .func (.func f') first cap := ev_rel hg hf
          split at h
          · rename_i hfi
            have e1 : first = #[] := Array.ext' hfi
            subst e1
            refine call_wp (us := args.toList.map a.eval ++ cap.toList) (vcCall_sound hg ?_ h) ?_ hn
            · intro st' hg' as has
              split at has
              · rename_i as' has'
                simp at has; subst has
                exact relA_append (relA_evs hg' has') (relA_vs cap.toList)
              · simp at has
            · have : (args.map a.eval ++ cap) = (args.toList.map a.eval ++ cap.toList).toArray := by
                apply Array.ext'; simp
              simp only [execOp, resolve, invoke, hv, Deferred.ofValue]
              rw [← this]
              simp
          · exact h.elim
        · exact h.elim

/- the guards -/
theorem put_same {d : Nat} {v : Value} (h : a.tmps.getD d undef = v) (hd : d < a.tmps.size) : a.put (some d) v = a := by
  have : a.tmps.setIfInBounds d v = a.tmps := by
    apply Array.ext_getElem?
    intro i
    by_cases hi : d = i
    · subst hi
      subst h
      simp [hd]
    · rw [Array.getElem?_setIfInBounds_ne hi]
  simp [Act.put, this]
def boolO (v : Value) : Option Bool := match v with
  | .bool b => some b
  | _ => none
theorem yielded_of (hg : Good P w0 H0 st a w ρ σ) {l : List Oper} {j d : Nat} (hd : dstOf l j = some d) {x : SV} (hx : st.fr[d]? = some x) {v : Value} (hv : ∀ y, x.rel ρ σ y → y = v) :
    yielded l.toArray a.tmps j = boolO v := by
  have h1 := hv _ (hg.fr d x hx)
  have hlt : d < a.tmps.size := by rw [hg.size]; exact (List.getElem?_eq_some_iff.1 hx).1
  have h2 : a.tmps[d]? = some v := by
    rw [← h1]; simp [hlt]
  unfold dstOf at hd
  split at hd
  · rename_i o ho
    simp only [yielded, List.getElem?_toArray, ho, Option.bind_some, hd, h2]
    cases v <;> rfl
  · simp at hd
theorem vcFork_sound (hg : Good P w0 H0 st a w ρ σ) {l : List Oper} {j : Nat} {K : St → Prop} (h : vcFork l j st K) :
    ∃ st', K st' ∧ Keeps ((dstOf l j).toList) st st' ∧ Good P w0 H0 st' a w ρ σ ∧ Goes noX st st' ρ ρ w w := by
  unfold vcFork at h
  split at h
  · exact ⟨st, h, (Keeps.refl st).mono (by simp), hg, Goes.refl _ _ _⟩
  · rename_i d hd
    have key : ∀ x : SV, st.fr[d]? = some x → ∀ b : Bool, (∀ y, x.rel ρ σ y → y = .bool b) → (b = true → K (setS st (some d) (.one .tt))) ∧ (b = false → K (setS st (some d) (.one .ff))) →
        ∃ st', K st' ∧ Keeps ((some d).toList) st st' ∧ Good P w0 H0 st' a w ρ σ ∧ Goes noX st st' ρ ρ w w := by
      intro x hx b hb hk
      have h1 := hb _ (hg.fr d x hx)
      have hlt : d < a.tmps.size := by rw [hg.size]; exact (List.getElem?_eq_some_iff.1 hx).1
      cases b
      · refine ⟨_, hk.2 rfl, Keeps.setS st (some d) _, ?_, goes_setS _ _ _ _ _⟩
        have := Good.setS hg (some d) (r := .one .ff) (v := .bool false) rfl (fun _ _ hh => hh)
        rwa [put_same h1 hlt] at this
      · refine ⟨_, hk.1 rfl, Keeps.setS st (some d) _, ?_, goes_setS _ _ _ _ _⟩
        have := Good.setS hg (some d) (r := .one .tt) (v := .bool true) rfl (fun _ _ hh => hh)
        rwa [put_same h1 hlt] at this
    rw [hd]
    split at h
    · rename_i x hx
      exact key _ hx x (fun y hy => hy) h
    · rename_i x hx
      exact key _ hx x (fun y hy => hy) h
    · exact ⟨st, h, (Keeps.refl st).mono (by simp), hg, Goes.refl _ _ _⟩
theorem vcOne_sound (hT : TabOK P Γ) (hg : Good P w0 H0 st a w ρ σ) {l : List Oper} {i : Nat} {o : Oper} (hi : l[i]? = some o) {K : St → Prop} (h : vcOne P Γ an l st o K) {next : Act → World → Prop} {Q : Exit → Act → World → Prop}
    (hn : NextO P w0 H0 o st w ρ K next) : wpOp P l.toArray Q i next a w := by
  have hi' : l.toArray[i]? = some o := by simpa using hi
  have hskip : K (setS st o.dst (.one .un)) → next (a.put o.dst undef) w := fun hk =>
    hn _ _ _ _ _ hk (Keeps.setS st o.dst _) (Good.setS hg o.dst (r := .one .un) rfl (fun _ _ hh => hh)) (goes_setS _ _ _ _ _)
  unfold vcOne at h
  unfold wpOp
  simp only [hi']
  split at h
  · rename_i hgd
    simp only [Region.wanted, hgd, if_true]
    exact .inl (vcExec_sound hT hg h hn)
  · rename_i j want hgd
    split at h
    · exact h.elim
    · rename_i d hd
      split at h
      · rename_i hx
        have hy := yielded_of hg hd hx (v := .bool true) (fun y hy => hy)
        cases want
        · simp only [Region.wanted, hgd, hy, boolO, undef]
          exact hskip h
        · simp only [Region.wanted, hgd, hy, boolO, undef]
          exact .inl (vcExec_sound hT hg h hn)
      · rename_i hx
        have hy := yielded_of hg hd hx (v := .bool false) (fun y hy => hy)
        cases want
        · simp only [Region.wanted, hgd, hy, boolO, undef]
          exact .inl (vcExec_sound hT hg h hn)
        · simp only [Region.wanted, hgd, hy, boolO, undef]
          exact hskip h
      · rename_i hx
        have hy := yielded_of hg hd hx (v := undef) (fun y hy => hy)
        simp only [Region.wanted, hgd, hy, boolO, undef]
        exact hskip h
      · exact h.elim
theorem dst_mem {l : List Oper} : ∀ {i : Nat} {o : Oper}, l[i]? = some o → ∀ d, o.dst = some d → d ∈ writesO l := by
  induction l with
  | nil => intro i o h; simp at h
  | cons x l ih =>
    intro i o h d hd
    cases i with
    | zero =>
      simp at h; subst h
      simp [writesO, hd]
    | succ i =>
      simp at h
      have := ih h d hd
      simp only [writesO]
      split
      · exact List.mem_cons_of_mem _ this
      · exact this
theorem dst_sub {l : List Oper} {i : Nat} {o : Oper} (h : l[i]? = some o) : ∀ x ∈ o.dst.toList, x ∈ writesO l := by
  intro x hx
  cases hd : o.dst with
  | none => rw [hd] at hx; simp at hx
  | some d => rw [hd] at hx; simp at hx; subst hx; exact dst_mem h _ hd
theorem dstOf_sub {l : List Oper} {j : Nat} : ∀ x ∈ (dstOf l j).toList, x ∈ writesO l := by
  intro x hx
  unfold dstOf at hx
  split at hx
  · rename_i o ho; exact dst_sub ho x hx
  · simp at hx
theorem vcItems_sound (hT : TabOK P Γ) {l : List Oper} {Q : Exit → Act → World → Prop} {K : St → Prop} : ∀ {idx : List Nat} {st : St} {a : Act} {w : World} {ρ : Nat → Nat} {σ : Nat → Value},
    Good P w0 H0 st a w ρ σ → vcItems P Γ an l K (itemsOf l idx) st → Next0 P w0 H0 (writesO l) st K (Q .normal) → wpOps P l.toArray Q idx a w
  | [], st, a, w, ρ, σ, hg, h, hn => hn _ _ _ _ _ h ((Keeps.refl st).mono (by simp)) hg
  | i :: idx, st, a, w, ρ, σ, hg, h, hn => by
    rw [wpOps_cons]
    simp only [itemsOf] at h
    split at h
    · simp only [vcItems] at h
      split at h
      · rename_i o ho
        refine vcOne_sound hT hg ho h ?_
        intro a' w' st' ρ' σ' hk hkeep hg' _
        obtain ⟨st2, k1, k2, k3, _⟩ := vcFork_sound hg' hk
        have hk2 : Keeps (writesO l) st st2 := (hkeep.mono (dst_sub ho)).trans (k2.mono dstOf_sub)
        exact vcItems_sound hT k3 k1 fun a3 w3 st3 ρ3 σ3 q1 q2 q3 => hn _ _ _ _ _ q1 (hk2.trans q2) q3
      · exact h.elim
    · simp only [vcItems] at h
      split at h
      · rename_i o ho
        refine vcOne_sound hT hg ho h ?_
        intro a' w' st' ρ' σ' hk hkeep hg' _
        exact vcItems_sound hT hg' hk fun a3 w3 st3 ρ3 σ3 q1 q2 q3 => hn _ _ _ _ _ q1 ((hkeep.mono (dst_sub ho)).trans q2) q3
      · exact h.elim
theorem upto_range (n i : Nat) : upto n i = (List.range n).map (· + i) := by
  induction n generalizing i with
  | zero => rfl
  | succ n ih =>
    rw [upto, ih, List.range_succ_eq_map]
    simp only [List.map_cons, List.map_map, Nat.zero_add]
    congr 1
    apply List.map_congr_left
    intro x _
    simp; omega
theorem region_sound (hT : TabOK P Γ) (hg : Good P w0 H0 st a w ρ σ) {id : Nat} {ops : Array Oper} {Q : Exit → Act → World → Prop} {K : St → Prop}
    (h : vcItems P Γ an ops.toList K (itemsOf ops.toList (upto ops.toList.length 0)) st) (hn : Next0 P w0 H0 (writesO ops.toList) st K (Q .normal)) : (Code.region id ops false).wp P Q a w := by
  apply wp_region
  have := vcItems_sound hT (Q := Q) hg h hn
  rw [upto_range] at this
  simpa using this
end
end Go.Vc
