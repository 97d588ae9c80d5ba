/- The end of a body, and a contract out of the verification condition. -/
import Derived.Test.YtkfbbnagniolcaaVcS17
set_option linter.unusedSectionVars false
set_option linter.unusedSimpArgs false
set_option linter.unusedVariables false
namespace Go.Vc
open Go Go.RowKit

section
variable {P : Program} {Γ : Tab} {w0 : W0} {w w' : World} {H0 H' : Heap} {a : Act} {ρ : Nat → Nat} {σ : Nat → Value} {an : Ann}
/- rows given out: each a row of its own of st, dead in st' -/
structure RowsOut (P : Program) (w0 : W0) (w : World) (σ : Nat → Value) (st st' : St) (nr : List NRow) : Prop where
  each : ∀ r ∈ nr, RowIn P w0 w st.H r ∧ ∀ g, r.s.ownBlock = some g → ∃ (k : Nat) (e : TypeId) (n : Nat) (xs : List Value), st.L[k]? = some (some (true, .row e n xs)) ∧ isDead st' k ∧ (σ k).ownBlock = some g
  apart : apartRows nr
theorem RowsOut.nil (st st' : St) : RowsOut P w0 w σ st st' [] := ⟨by simp, List.Pairwise.nil⟩
theorem RowsOut.append {st st1 st2 : St} (hg : Good P w0 H0 st a w ρ σ) {nr nr' : List NRow} (h : RowsOut P w0 w σ st st1 nr) (h' : RowsOut P w0 w σ st1 st2 nr') (hd : Dies st st1) (hd' : Dies st1 st2) :
    RowsOut P w0 w σ st st2 (nr ++ nr') := by
  refine ⟨fun r hr => ?_, List.pairwise_append.2 ⟨h.apart, h'.apart, fun r hr r' hr' g hgr hgr' => ?_⟩⟩
  · rcases List.mem_append.1 hr with hr | hr
    · obtain ⟨h1, h2⟩ := h.each r hr
      refine ⟨h1, fun g hg => ?_⟩
      obtain ⟨k, e, n, xs, k1, k2, k3⟩ := h2 g hg
      exact ⟨k, e, n, xs, k1, hd'.keeps k2, k3⟩
    · obtain ⟨h1, h2⟩ := h'.each r hr
      refine ⟨by rw [← hd.H]; exact h1, fun g hg => ?_⟩
      obtain ⟨k, e, n, xs, k1, k2, k3⟩ := h2 g hg
      exact ⟨k, e, n, xs, hd.back k1 (by simp), k2, k3⟩
  · obtain ⟨k, e, n, xs, k1, k2, k3⟩ := (h.each r hr).2 g hgr
    obtain ⟨k', e', n', xs', j1, j2, j3⟩ := (h'.each r' hr').2 g hgr'
    have hne : k ≠ k' := by
      rintro rfl
      unfold isDead at k2
      rw [j1] at k2
      simp at k2
    exact hg.sep k k' true true (.row e n xs) (.row e' n' xs') g hne k1 (hd.back j1 (by simp)) k3 j3
theorem takeRow_out {st st' : St} (hg : Good P w0 H0 st a w ρ σ) {e : TypeId} {c : S1} {y : Value} {n : Nat} {xs : List Value} (h : takeRow st e c = some (n, xs, st')) (hr : c.rel ρ σ y) :
    RowsOut P w0 w σ st st' [⟨y, e, n, xs⟩] := by
  unfold takeRow at h
  split at h
  · rename_i k
    split at h
    · rename_i e' n' xs' hW
      split at h
      · rename_i he
        subst he
        simp at h
        obtain ⟨rfl, rfl, rfl⟩ := h
        have hyk : y = σ k := hr
        subst hyk
        have hL := getW_some hW
        obtain ⟨q1, q2, q3⟩ := hg.obj _ _ _ hL
        refine ⟨?_, List.pairwise_singleton _ _⟩
        intro r hr
        simp at hr; subst hr
        refine ⟨⟨q1, q2, q3⟩, fun g hgb => ⟨k, e', n', xs', hL, ?_, hgb⟩⟩
        simp only [isDead, setL]
        exact set_get (List.getElem?_eq_some_iff.1 hL).1
      · simp at h
    · simp at h
  · rename_i k l m sz
    split at h
    · split at h
      · rename_i e' n' xs' hW
        split at h
        · rename_i he
          subst he
          simp at h
          obtain ⟨rfl, rfl, rfl⟩ := h
          obtain ⟨A, n0, c0, hs, hle, hy⟩ : ∃ A n c, σ k = .slice A n c ∧ 0 + m ≤ n ∧ y = .slice (subA A c 0 sz) m (c - 0) := hr
          subst hy
          have hL := getW_some hW
          obtain ⟨q1, q2, q3⟩ := hg.obj _ _ _ hL
          have hn : n' = n0 := by
            rcases q1.row.2 with ⟨hv', h0⟩ | ⟨g, cap, cur, hv', _⟩
            · rw [hs] at hv'; simp at hv'; omega
            · rw [hs] at hv'; simp at hv'; exact hv'.2.1.symm
          subst hn
          rw [hs] at q1
          obtain ⟨c1, c2, c3⟩ := owns_cut (sz2 := sz) q1 (by omega : m ≤ n')
          have hb : ∀ g, (Value.slice (subA A c0 0 sz) m (c0 - 0)).ownBlock = some g → (σ k).ownBlock = some g := fun g hg => by rw [hs, ← c2]; exact hg
          refine ⟨?_, List.pairwise_singleton _ _⟩
          intro r hr
          simp at hr; subst hr
          refine ⟨⟨c1, fun x hx => q2 x (c3 x hx), fun g hgb o => q3 g (hb g hgb) o⟩, fun g hgb => ⟨k, e', n', xs', hL, ?_, hb g hgb⟩⟩
          simp only [isDead, setL]
          exact set_get (List.getElem?_eq_some_iff.1 hL).1
        · simp at h
      · simp at h
    · simp at h
  · simp at h
    obtain ⟨rfl, rfl, rfl⟩ := h
    have hy : y = .slice none 0 0 := hr
    subst hy
    refine ⟨?_, List.pairwise_singleton _ _⟩
    intro r hr
    simp at hr; subst hr
    exact ⟨⟨owns.nil w w0 e (P.cellsOf e), by simp, by simp [Value.ownBlock]⟩, by simp [Value.ownBlock]⟩
  · simp at h
theorem colL_out : ∀ {ls : List Leaf} {R : Type} {p : PostL ls R} {cs : List S1} {ys : List Value} {st st' : St} {q : R}, Good P w0 H0 st a w ρ σ → colL ls p cs st = some (q, st') → relL ρ σ cs ys →
    ∃ nr, RowsOut P w0 w σ st st' nr ∧ ∀ (nr2 : List NRow) (K : List Value → List NRow → R → Prop), K ys nr2 q → exL ls p (nr ++ nr2) K
  | [], R, p, cs, ys, st, st', q, hg, h, hr => by
    cases cs with
    | nil =>
      simp [colL] at h
      obtain ⟨rfl, rfl⟩ := h
      cases ys with
      | nil => exact ⟨[], RowsOut.nil _ _, fun nr2 K hk => hk⟩
      | cons _ _ => exact hr.elim
    | cons _ _ => simp [colL] at h
  | l :: ls, R, p, cs, ys, st, st', q, hg, h, hr => by
    cases cs with
    | nil => cases l <;> simp [colL] at h
    | cons c cs =>
      cases ys with
      | nil => exact hr.elim
      | cons y ys =>
        cases l with
        | cells => simp [colL] at h
        | row i e =>
          simp only [colL] at h
          split at h
          · rename_i n xs st1 ht
            have hd := takeRow_dies ht
            obtain ⟨nr, h1, h2⟩ := colL_out (hg.dies hd) h hr.2
            refine ⟨⟨y, e, n, xs⟩ :: nr, (takeRow_out hg ht hr.1).append hg h1 hd (colL_dies h), fun nr2 K hk => ?_⟩
            exact ⟨⟨y, e, n, xs⟩, nr ++ nr2, rfl, rfl, h2 nr2 _ hk⟩
          · simp at h
        | int k =>
          simp only [colL] at h
          split at h
          · rename_i n hn
            have := asInt_rel hn hr.1
            subst this
            obtain ⟨nr, h1, h2⟩ := colL_out hg h hr.2
            exact ⟨nr, h1, fun nr2 K hk => ⟨n, h2 nr2 _ hk⟩⟩
          · simp at h
        | bool =>
          simp only [colL] at h
          split at h
          · rename_i n hn
            have := S1.asB_rel hn hr.1
            subst this
            obtain ⟨nr, h1, h2⟩ := colL_out hg h hr.2
            exact ⟨nr, h1, fun nr2 K hk => ⟨n, h2 nr2 _ hk⟩⟩
          · simp at h
        | str =>
          simp only [colL] at h
          split at h
          · rename_i n hn
            have := asStr_rel hn hr.1
            subst this
            obtain ⟨nr, h1, h2⟩ := colL_out hg h hr.2
            exact ⟨nr, h1, fun nr2 K hk => ⟨n, h2 nr2 _ hk⟩⟩
          · simp at h
        | sl =>
          simp only [colL] at h
          split at h
          · rename_i A n m hn
            have := asSl_rel hn hr.1
            subst this
            obtain ⟨nr, h1, h2⟩ := colL_out hg h hr.2
            exact ⟨nr, h1, fun nr2 K hk => ⟨A, n, m, h2 nr2 _ hk⟩⟩
          · simp at h
        | val =>
          simp only [colL] at h
          split at h
          · rename_i v hn
            have := asVal_rel hn hr.1
            subst this
            obtain ⟨nr, h1, h2⟩ := colL_out hg h hr.2
            have hone : y.oneCell' = true := by
              unfold S1.asVal at hn
              split at hn
              · rename_i hk; exact S1.ok1_rel hg.sl hk hr.1
              · simp at hn
            exact ⟨nr, h1, fun nr2 K hk => ⟨y, hone, h2 nr2 _ hk⟩⟩
          · simp at h
theorem colR_out : ∀ {ps : List (Bool × List Leaf)} {R : Type} {p : PostR ps R} {xs : List SV} {vs : List Value} {st st' : St} {q : R}, Good P w0 H0 st a w ρ σ → colR ps p xs st = some (q, st') → relA ρ σ xs vs →
    Dies st st' ∧ ∃ nr, RowsOut P w0 w σ st st' nr ∧ ∀ (nr2 : List NRow) (K : List Value → List NRow → R → Prop), K vs nr2 q → exR ps p (nr ++ nr2) K
  | [], R, p, xs, vs, st, st', q, hg, h, hr => by
    cases xs with
    | nil =>
      simp [colR] at h
      obtain ⟨rfl, rfl⟩ := h
      cases vs with
      | nil => exact ⟨Dies.refl _, [], RowsOut.nil _ _, fun nr2 K hk => hk⟩
      | cons _ _ => exact hr.elim
    | cons _ _ => simp [colR] at h
  | (g, ls) :: ps, R, p, xs, vs, st, st', q, hg, h, hr => by
    cases xs with
    | nil => simp [colR] at h
    | cons x xs =>
      cases vs with
      | nil => exact hr.elim
      | cons v vs =>
        have hx := resV_rel hg.obj hr.1
        have key : ∀ {cs : List S1} {ys : List Value} {q1 : PostR ps R} {st1 : St}, colL ls p cs st = some (q1, st1) → colR ps q1 xs st1 = some (q, st') → relL ρ σ cs ys → mkV g ys = some v →
            Dies st st' ∧ ∃ nr, RowsOut P w0 w σ st st' nr ∧ ∀ (nr2 : List NRow) (K : List Value → List NRow → R → Prop), K (v :: vs) nr2 q → exR ((g, ls) :: ps) p (nr ++ nr2) K := by
          intro cs ys q1 st1 h1 h2 hrl hmk
          have hd := colL_dies h1
          obtain ⟨nr, k1, k2⟩ := colL_out hg h1 hrl
          obtain ⟨hd', nr', j1, j2⟩ := colR_out (hg.dies hd) h2 hr.2
          refine ⟨hd.trans hd', nr ++ nr', k1.append hg j1 hd hd', fun nr2 K hk => ?_⟩
          rw [List.append_assoc]
          exact k2 (nr' ++ nr2) _ ⟨v, hmk, j2 nr2 _ hk⟩
        simp only [colR] at h
        split at h
        · rename_i cs hres
          rw [hres] at hx
          obtain ⟨ys, rfl, hy⟩ := hx
          split at h
          · rename_i q1 st1 h1
            exact key h1 h hy (by simp [mkV])
          · simp at h
        · rename_i c hres
          rw [hres] at hx
          split at h
          · rename_i q1 st1 h1
            exact key (ys := [v]) h1 h ⟨hx, trivial⟩ rfl
          · simp at h
        · simp at h
theorem retOne_sound (hT : TabOK P Γ) {st : St} (hg : Good P w0 H0 st a w ρ σ) {r : ResultVar} {x : SV} (h : retOne Γ st r = some x) :
    ∃ v, (match r with | .tmp t => pure (a.tmps.getD t undef) | .cell b t => do loadVar t (← asAddr (a.tmps.getD b undef)) : Sem Value).run P w = .ok v w ∧ x.rel ρ σ v := by
  unfold retOne at h
  split at h
  · rename_i t
    split at h
    · rename_i y hy
      simp at h; subst h
      exact ⟨_, rfl, resV_rel hg.obj (hg.fr t y hy)⟩
    · simp at h
  · rename_i b t
    split at h
    · rename_i o ho
      split at h
      · rename_i t' cs hL
        split at h
        · rename_i i hi
          split at h
          · rename_i hl
            have hTy := hT _ _ hi
            obtain ⟨ys, hb, hr, _⟩ := box_of hg hL
            have hv : a.tmps.getD b undef = .pointer (some ⟨ρ o, 0, none⟩) := hg.fr b _ ho
            obtain ⟨h1, h2, _⟩ := mkSV_rel h (resL_rel hg.obj hr)
            refine ⟨_, ?_, h1⟩
            simp only [hv]
            have hlen := relL_length hr
            have := run_loadVar hTy w (ρ o) 0 ys.toList (fun k y hy => by rw [Nat.zero_add, cell_of_block hb]; simpa using hy) (by omega) (h2)
            simpa [asAddr] using this
          · simp at h
        · simp at h
      · simp at h
    · simp at h
theorem retAll_sound (hT : TabOK P Γ) {st : St} (hg : Good P w0 H0 st a w ρ σ) : ∀ {rs : List ResultVar} {xs : List SV}, retAll Γ st rs = some xs →
    ∃ vs, (rs.mapM fun r => (match r with | .tmp t => pure (a.tmps.getD t undef) | .cell b t => do loadVar t (← asAddr (a.tmps.getD b undef)) : Sem Value)).run P w = .ok vs w ∧ relA ρ σ xs vs ∧ vs.length = rs.length
  | [], xs, h => by
    simp [retAll] at h; subst h
    exact ⟨[], by simp, trivial, rfl⟩
  | r :: rs, xs, h => by
    simp only [retAll] at h
    split at h
    · rename_i x hx
      split at h
      · rename_i xs' hxs
        simp at h; subst h
        obtain ⟨v, h1, h2⟩ := retOne_sound hT hg hx
        obtain ⟨vs, k1, k2, k3⟩ := retAll_sound hT hg hxs
        refine ⟨v :: vs, ?_, ⟨h2, k2⟩, by simp [k3]⟩
        rw [List.mapM_cons]
        simp only [Sem.run_bind]
        rw [h1]
        simp only [Result.andThen_ok]
        rw [k1]
        simp
      · simp at h
    · simp at h
theorem ofArg_rel (v : Value) : (ofArg v).rel ρ σ v := by
  unfold ofArg
  split
  · exact ⟨_, rfl, relL_v _⟩
  · exact ⟨_, _, rfl, rfl⟩
  · exact rfl
theorem ofArg_refs {v : Value} {d : Nat} (h : (ofArg v).refs d) : False := by
  unfold ofArg at h
  split at h
  · exact refsL_v h
  · exact h
  · exact h
theorem st0_good {args : List Value} {n extra : Nat} {H : Heap} (hs : Snap H w) :
    Good P ⟨w, none⟩ H (st0 args n extra H) { tmps := args.toArray ++ Array.replicate (n - args.toArray.size) undef, defers := [] } w (fun _ => 0) (fun _ => .slice none 0 0) := by
  refine ⟨rfl, by simp [st0], fun i x hx => ?_, ⟨rfl, rfl, rfl, Nat.le_refl _, fun _ _ _ => rfl, Nat.le_refl _⟩, Heap.le_refl _, fun _ _ _ => rfl, hs, fun i f o h => ?_, fun i j f f' o o' g _ h => ?_, fun d _ => ⟨fun j x hx => ?_, fun j f o h => ?_⟩, fun _ => ⟨_, _, _, rfl⟩, fun b e n c h => by cases h⟩
  · simp only [st0] at hx
    by_cases hi : i < args.length
    · rw [List.getElem?_append_left (by simpa using hi)] at hx
      simp [hi] at hx
      subst hx
      have : (args.toArray ++ Array.replicate (n - args.toArray.size) undef).getD i undef = args[i] := by
        simp [Array.getElem?_append, hi]
      rw [this]
      exact ofArg_rel _
    · rw [List.getElem?_append_right (by simpa using hi)] at hx
      simp [List.getElem?_replicate] at hx
      obtain ⟨h1, rfl⟩ := hx
      have : (args.toArray ++ Array.replicate (n - args.toArray.size) undef).getD i undef = undef := by
        simp [Array.getElem?_append, hi, h1]
      rw [this]
      rfl
  · simp [st0, List.getElem?_replicate] at h
  · simp [st0, List.getElem?_replicate] at h
  · simp only [st0] at hx
    rcases List.mem_append.1 (List.mem_of_getElem? hx) with h | h
    · obtain ⟨v, _, rfl⟩ := List.mem_map.1 h
      exact fun hh => ofArg_refs hh
    · rw [(List.mem_replicate.1 h).2]
      exact fun hh => hh
  · simp [st0, List.getElem?_replicate] at h
theorem ret_sound (hT : TabOK P Γ) {fn : Func} {H : Heap} {st : St} (hg : Good P w0 H st a w ρ σ) {sh : RSh} {post : PostR sh.parts (Heap → Prop)} (h : vcRet Γ fn.results.toList sh post st) :
    a.defers = [] ∧ ∃ v, (results fn a.tmps).run P w = .ok v w ∧ ∃ H' nr, Fits sh post v H' nr ∧ (BelX w0.w w w0.g ∧ Heap.le H H' ∧ (∀ b, ¬ w0.nw b → ∀ o, H' b o = H b o) ∧ Snap H' w) ∧ (∀ r ∈ nr, RowIn P w0 w H' r) ∧ apartRows nr := by
  refine ⟨hg.defers, ?_⟩
  unfold vcRet at h
  split at h
  · rename_i htup
    split at h
    · exact h.elim
    · obtain ⟨st2, q1, q2, q3, _⟩ := vcPubs_sound hg h
      split at q1
      · exact q1.elim
      · rename_i xs hxs
        split at q1
        · rename_i q st3 hcol
          obtain ⟨vs, hrun, hrel, hlen⟩ := retAll_sound hT q3 hxs
          obtain ⟨hd, nr, h1, h2⟩ := colR_out q3 hcol hrel
          have hres : (results fn a.tmps).run P w = .ok (if h : vs.toArray.size = 1 then vs.toArray[0] else .tuple vs.toArray) w := by
            unfold results
            rw [Array.mapM_eq_mapM_toList]
            simp only [Sem.run_bind, Sem.run_map]
            refine (congrArg (fun r : Result (List Value) => ((r.andThen _).andThen _)) (show _ = Result.ok vs w from hrun)).trans ?_
            simp
          refine ⟨_, hres, st2.H, nr, ?_, ⟨q3.below, q3.le, q3.old, q3.snap⟩, fun r hr => (h1.each r hr).1, h1.apart⟩
          · have := h2 [] (fun us nr' q => nr' = [] ∧ (if sh.tup then (if h : vs.toArray.size = 1 then vs.toArray[0] else .tuple vs.toArray) = .tuple ⟨us⟩ else us = [if h : vs.toArray.size = 1 then vs.toArray[0] else .tuple vs.toArray]) ∧ q st2.H) ⟨rfl, ?_, q1⟩
            · rw [List.append_nil] at this
              exact this
            · rw [htup, ← hlen]
              by_cases h1 : vs.length = 1
              · match vs, h1 with
                | [v], _ => simp
              · have : (vs.length != 1) = true := by simpa using h1
                simp [this, h1]
        · exact q1.elim
  · exact h.elim
/-- a contract out of the verification condition -/
theorem con_of_vc (hm : P.follows .mixedOrders = true) (hT : TabOK P Γ) {f : FuncId} {fn : Func} (hf : P.funcs[f]? = some fn) (hname : (fn.name == "runtime.NumGoroutine") = false) {args : List Value} {extra : Nat} {H : Heap} {sh : RSh} {post : PostR sh.parts (Heap → Prop)}
    (h : vcFn P Γ an fn args extra H sh post) : ConT P f args H sh post := by
  unfold vcFn at h
  split at h
  · exact h.elim
  · rename_i c hb
    refine ⟨⟨fn, hf, by rw [hb]; rfl, hname⟩, fun w hs => calls_of_wp hf hb ?_⟩
    refine vcC_sound hm hT (st0_good hs) h ?_
    intro e a' w' st' ρ' σ' hk _ hg
    have fin : ∀ {v : Value} {H' : Heap} {nr : List NRow}, (results fn a'.tmps).run P w' = .ok v w' → Fits sh post v H' nr ∧ (BelX w w' none ∧ Heap.le H H' ∧ (∀ b, ¬ (W0.mk w none).nw b → ∀ o, H' b o = H b o) ∧ Snap H' w') ∧ (∀ r ∈ nr, RowIn P ⟨w, none⟩ w' H' r) ∧ apartRows nr →
        ∃ v' H' nr, Ending.returned v = .returned v' ∧ Fits sh post v' H' nr ∧ Grows w w' H H' ∧ (∀ r ∈ nr, NewRow P w w' H' r) ∧ apartRows nr := by
      rintro v H' nr _ ⟨h1, ⟨hb, hle, hold, hsn⟩, hr, hap⟩
      refine ⟨v, H', nr, rfl, h1, ⟨⟨hb.os, hb.tape, hb.output, hb.size, fun k hk => hb.block k hk (by simp)⟩, hle, fun b hb => hold b (fun h => by rcases h with h | h; exact absurd hb (Nat.not_lt.2 h); simp at h), hsn, hb.drawn⟩, fun r hr' => ?_, hap⟩
      obtain ⟨q1, q2, q3⟩ := hr r hr'
      refine ⟨⟨q1.row.1, ?_⟩, q2, q3⟩
      rcases q1.row.2 with h | ⟨g, cap, cur, hv, _, h⟩
      · exact .inl h
      · refine .inr ⟨g, cap, cur, hv, ?_, h⟩
        rcases q1.nw g (by rw [hv]; rfl) with h' | h'
        · exact h'
        · simp at h'
    cases e with
    | normal =>
      obtain ⟨h1, v, h2, H', nr, h3⟩ := ret_sound hT hg hk
      exact ⟨h1, v, h2, fin h2 h3⟩
    | ret =>
      obtain ⟨h1, v, h2, H', nr, h3⟩ := ret_sound hT hg hk
      exact ⟨h1, v, h2, fin h2 h3⟩
    | exit id => exact hk.elim
    | goto l => exact hk.elim
    | panic ch => exact hk.elim
    | outgrown => exact hk.elim
theorem st0M_good {args : List Value} {k n extra : Nat} {e : TypeId} {m : Nat} {xs : List Value} {s : Value} {H : Heap} (hs : Snap H w) (hk : k < args.length) (hr : w.ownsRow 0 e (P.cellsOf e) s m xs) (h1 : ∀ x ∈ xs, x.oneCell' = true)
    (hf : ∀ g, s.ownBlock = some g → ∀ o, H g o = none) :
    Good P ⟨w, s.ownBlock⟩ H (st0M args k n extra e m xs H) { tmps := (args.set k s).toArray ++ Array.replicate (n - (args.set k s).toArray.size) undef, defers := [] } w (fun _ => 0) (fun i => if i = n + extra then s else .slice none 0 0) := by
  have hL : ∀ {i f o}, (st0M args k n extra e m xs H).L[i]? = some (some (f, o)) → i = n + extra ∧ f = true ∧ o = .row e m xs := by
    intro i f o h
    simp only [st0M] at h
    rcases Nat.lt_trichotomy i (n + extra) with hi | hi | hi
    · rw [List.getElem?_append_left (by simpa using hi)] at h
      simp [List.getElem?_replicate] at h
    · subst hi
      rw [List.getElem?_append_right (by simp)] at h
      simp at h
      exact ⟨rfl, h.1, h.2.symm⟩
    · rw [List.getElem?_eq_none (by simp; omega)] at h
      cases h
  have hN : ∀ {d : Nat}, (st0M args k n extra e m xs H).L[d]? = some none → d ≠ n + extra := by
    rintro d h rfl
    simp only [st0M] at h
    rw [List.getElem?_append_right (by simp)] at h
    simp at h
  have hsl : ∃ A n c, s = .slice A n c := by
    rcases hr.2 with ⟨hv, _⟩ | ⟨g, cap, cur, hv, _⟩
    · exact ⟨_, _, _, hv⟩
    · exact ⟨_, _, _, hv⟩
  refine ⟨rfl, by simp [st0M], fun i x hx => ?_, ⟨rfl, rfl, rfl, Nat.le_refl _, fun _ _ _ => rfl, Nat.le_refl _⟩, Heap.le_refl _, fun _ _ _ => rfl, hs, fun i f o h => ?_, fun i j f f' o o' g hij h h' => ?_, fun d hd => ⟨fun j x hx => ?_, fun j f o h => ?_⟩, fun i => ?_, fun b e n c h => by cases h⟩
  · simp only [st0M] at hx
    by_cases hi : i < args.length
    · rw [List.getElem?_append_left (by simpa using hi)] at hx
      have hget : ((args.set k s).toArray ++ Array.replicate (n - (args.set k s).toArray.size) undef).getD i undef = (args.set k s)[i]'(by simpa using hi) := by
        simp [Array.getElem?_append, hi]
      rw [hget]
      by_cases hik : k = i
      · subst hik
        rw [List.getElem?_set_self (by simpa using hk)] at hx
        simp at hx
        subst hx
        simp only [List.getElem_set_self]
        show s = _
        simp
      · rw [List.getElem?_set_ne hik] at hx
        simp [hi] at hx
        subst hx
        rw [List.getElem_set_ne hik]
        exact ofArg_rel _
    · rw [List.getElem?_append_right (by simpa using hi)] at hx
      simp [List.getElem?_replicate] at hx
      obtain ⟨h1, rfl⟩ := hx
      have : ((args.set k s).toArray ++ Array.replicate (n - (args.set k s).toArray.size) undef).getD i undef = undef := by
        simp [Array.getElem?_append, hi, h1]
      rw [this]
      rfl
  · obtain ⟨rfl, rfl, rfl⟩ := hL h
    simp only [ObjOK, if_true]
    exact ⟨⟨hr, fun g hg => .inr hg⟩, h1, hf⟩
  · exact absurd ((hL h).1.trans (hL h').1.symm) hij
  · simp only [st0M] at hx
    rcases List.mem_append.1 (List.mem_of_getElem? hx) with h | h
    · rcases List.mem_or_eq_of_mem_set h with h | rfl
      · obtain ⟨v, _, rfl⟩ := List.mem_map.1 h
        exact fun hh => ofArg_refs hh
      · intro hh
        exact hN hd (Eq.symm hh)
    · rw [(List.mem_replicate.1 h).2]
      exact fun hh => hh
  · obtain ⟨_, _, rfl⟩ := hL h
    exact fun hh => hh
  · split
    · exact hsl
    · exact ⟨_, _, _, rfl⟩
/-- the contract of a function that is handed a row and gives it up -/
theorem conM_of_vc (hm : P.follows .mixedOrders = true) (hT : TabOK P Γ) {f : FuncId} {fn : Func} (hf : P.funcs[f]? = some fn) (hname : (fn.name == "runtime.NumGoroutine") = false) {args : List Value} {k : Nat} {e : TypeId} {m : Nat} {xs : List Value} {extra : Nat} {H : Heap} {sh : RSh} {post : PostR sh.parts (Heap → Prop)}
    (hk : k < args.length) (h : vcFnM P Γ an fn args k e m xs extra H sh post) : ConM P f args k e m xs false H sh (fun _ => post) := by
  unfold vcFnM at h
  split at h
  · exact h.elim
  · rename_i c hb
    refine ⟨⟨fn, hf, by rw [hb]; rfl, hname⟩, fun w B s hs hB hrx => calls_of_wp hf hb ?_⟩
    obtain ⟨hr, h1, hfr⟩ := hrx
    have hrow0 : w.ownsRow 0 e (P.cellsOf e) s m xs := ownsRow_base0 hr
    refine vcC_sound hm hT (st0M_good (n := fn.ntmps) (extra := extra) hs hk hrow0 h1 hfr) h ?_
    intro e' a' w' st' ρ' σ' hkk _ hg
    have fin : ∀ {v : Value} {H' : Heap} {nr : List NRow}, Fits sh post v H' nr ∧ (BelX w w' s.ownBlock ∧ Heap.le H H' ∧ (∀ b, ¬ (W0.mk w s.ownBlock).nw b → ∀ o, H' b o = H b o) ∧ Snap H' w') ∧ (∀ r ∈ nr, RowIn P ⟨w, s.ownBlock⟩ w' H' r) ∧ apartRows nr →
        ∃ v' H' nr ys, Ending.returned v = .returned v' ∧ Fits sh post v' H' nr ∧ GrowsX w w' H H' s.ownBlock ∧ (false = true → RowX P w' B H' ⟨s, e, m, ys⟩) ∧
          (∀ r ∈ nr, RowX P w' B H' r ∧ ∀ g, r.s.ownBlock = some g → w.heap.size ≤ g ∨ (false = false ∧ s.ownBlock = some g)) ∧ apartRows nr := by
      rintro v H' nr ⟨q1, ⟨hb, hle, hold, hsn⟩, hr', hap⟩
      refine ⟨v, H', nr, [], rfl, q1, ⟨hb, hle, fun b hb1 hb2 => hold b (fun h => by rcases h with h | h; exact absurd hb1 (Nat.not_lt.2 h); exact hb2 h), hsn⟩, by simp, fun r hrn => ?_, hap⟩
      obtain ⟨q1, q2, q3⟩ := hr' r hrn
      refine ⟨⟨⟨q1.row.1, ?_⟩, q2, q3⟩, fun g hg => ?_⟩
      · rcases q1.row.2 with h | ⟨g, cap, cur, hv, _, h⟩
        · exact .inl h
        · refine .inr ⟨g, cap, cur, hv, ?_, h⟩
          rcases q1.nw g (by rw [hv]; rfl) with h' | h'
          · exact Nat.le_trans hB h'
          · exact (hr.lt g h').1
      · rcases q1.nw g hg with h' | h'
        · exact .inl h'
        · exact .inr ⟨rfl, h'⟩
    cases e' with
    | normal =>
      obtain ⟨h1, v, h2, H', nr, h3⟩ := ret_sound hT hg hkk
      exact ⟨h1, v, h2, fin h3⟩
    | ret =>
      obtain ⟨h1, v, h2, H', nr, h3⟩ := ret_sound hT hg hkk
      exact ⟨h1, v, h2, fin h3⟩
    | exit id => exact hkk.elim
    | goto l => exact hkk.elim
    | panic ch => exact hkk.elim
    | outgrown => exact hkk.elim
theorem st0K_good {args : List Value} {k n extra : Nat} {e : TypeId} {m : Nat} {xs : List Value} {s : Value} {H : Heap} (hs : Snap H w) (hk : k < args.length) (hr : w.ownsRow 0 e (P.cellsOf e) s m xs) (h1 : ∀ x ∈ xs, x.oneCell' = true)
    (hf : ∀ g, s.ownBlock = some g → ∀ o, H g o = none) :
    Good P ⟨w, s.ownBlock⟩ H (st0K args k n extra s e m xs H) { tmps := (args.set k s).toArray ++ Array.replicate (n - (args.set k s).toArray.size) undef, defers := [] } w (fun _ => 0) (fun i => if i = n + extra then s else .slice none 0 0) := by
  have hL : ∀ {i f o}, (st0K args k n extra s e m xs H).L[i]? = some (some (f, o)) → i = n + extra ∧ f = true ∧ o = .row e m xs := by
    intro i f o h
    simp only [st0K] at h
    rcases Nat.lt_trichotomy i (n + extra) with hi | hi | hi
    · rw [List.getElem?_append_left (by simpa using hi)] at h
      simp [List.getElem?_replicate] at h
    · subst hi
      rw [List.getElem?_append_right (by simp)] at h
      simp at h
      exact ⟨rfl, h.1, h.2.symm⟩
    · rw [List.getElem?_eq_none (by simp; omega)] at h
      cases h
  have hN : ∀ {d : Nat}, (st0K args k n extra s e m xs H).L[d]? = some none → d ≠ n + extra := by
    rintro d h rfl
    simp only [st0K] at h
    rw [List.getElem?_append_right (by simp)] at h
    simp at h
  have hsl : ∃ A n c, s = .slice A n c := by
    rcases hr.2 with ⟨hv, _⟩ | ⟨g, cap, cur, hv, _⟩
    · exact ⟨_, _, _, hv⟩
    · exact ⟨_, _, _, hv⟩
  refine ⟨rfl, by simp [st0K], fun i x hx => ?_, ⟨rfl, rfl, rfl, Nat.le_refl _, fun _ _ _ => rfl, Nat.le_refl _⟩, Heap.le_refl _, fun _ _ _ => rfl, hs, fun i f o h => ?_, fun i j f f' o o' g hij h h' => ?_, fun d hd => ⟨fun j x hx => ?_, fun j f o h => ?_⟩, fun i => ?_, fun b e n c h => by cases h⟩
  · simp only [st0K] at hx
    by_cases hi : i < args.length
    · rw [List.getElem?_append_left (by simpa using hi)] at hx
      have hget : ((args.set k s).toArray ++ Array.replicate (n - (args.set k s).toArray.size) undef).getD i undef = (args.set k s)[i]'(by simpa using hi) := by
        simp [Array.getElem?_append, hi]
      rw [hget]
      by_cases hik : k = i
      · subst hik
        rw [List.getElem?_set_self (by simpa using hk)] at hx
        simp at hx
        subst hx
        simp only [List.getElem_set_self]
        exact ⟨by simp, rfl⟩
      · rw [List.getElem?_set_ne hik] at hx
        simp [hi] at hx
        subst hx
        rw [List.getElem_set_ne hik]
        exact ofArg_rel _
    · rw [List.getElem?_append_right (by simpa using hi)] at hx
      simp [List.getElem?_replicate] at hx
      obtain ⟨h1, rfl⟩ := hx
      have : ((args.set k s).toArray ++ Array.replicate (n - (args.set k s).toArray.size) undef).getD i undef = undef := by
        simp [Array.getElem?_append, hi, h1]
      rw [this]
      rfl
  · obtain ⟨rfl, rfl, rfl⟩ := hL h
    simp only [ObjOK, if_true]
    exact ⟨⟨hr, fun g hg => .inr hg⟩, h1, hf⟩
  · exact absurd ((hL h).1.trans (hL h').1.symm) hij
  · simp only [st0K] at hx
    rcases List.mem_append.1 (List.mem_of_getElem? hx) with h | h
    · rcases List.mem_or_eq_of_mem_set h with h | rfl
      · obtain ⟨v, _, rfl⟩ := List.mem_map.1 h
        exact fun hh => ofArg_refs hh
      · intro hh
        exact hN hd (Eq.symm hh)
    · rw [(List.mem_replicate.1 h).2]
      exact fun hh => hh
  · obtain ⟨_, _, rfl⟩ := hL h
    exact fun hh => hh
  · split
    · exact hsl
    · exact ⟨_, _, _, rfl⟩
/-- the contract of a function that is handed a row and hands it back -/
theorem conK_of_vc (hm : P.follows .mixedOrders = true) (hT : TabOK P Γ) {f : FuncId} {fn : Func} (hf : P.funcs[f]? = some fn) (hname : (fn.name == "runtime.NumGoroutine") = false) {args : List Value} {k : Nat} {e : TypeId} {m : Nat} {xs : List Value} {extra : Nat} {H : Heap} {post : List Value → Heap → Prop}
    (hk : k < args.length) (h : vcFnK P Γ an fn args k e m xs extra H post) : ConM P f args k e m xs true H ⟨true, []⟩ post := by
  unfold vcFnK at h
  split at h
  · exact h.elim
  · rename_i c hb
    refine ⟨⟨fn, hf, by rw [hb]; rfl, hname⟩, fun w B s hs hB hrx => calls_of_wp hf hb ?_⟩
    obtain ⟨hr, h1, hfr⟩ := hrx
    have hrow0 : w.ownsRow 0 e (P.cellsOf e) s m xs := ownsRow_base0 hr
    refine vcC_sound hm hT (st0K_good (n := fn.ntmps) (extra := extra) hs hk hrow0 h1 hfr) (h s) ?_
    intro e' a' w' st' ρ' σ' hkk _ hg
    have fin : retKK fn.results.toList k (fn.ntmps + extra) s e m post st' → fn.results = #[] ∧ ∃ H' ys, post ys H' ∧ GrowsX w w' H H' s.ownBlock ∧ RowX P w' B H' ⟨s, e, m, ys⟩ := by
      intro hh
      unfold retKK at hh
      split at hh
      · exact hh.elim
      · rename_i hrs
        refine ⟨Array.ext' hrs, ?_⟩
        split at hh
        · rename_i i' s' hfr'
          split at hh
          · rename_i hi
            subst hi
            split at hh
            · rename_i e2 n2 ys hL
              split at hh
              · rename_i he
                subst he
                obtain ⟨h1', h2', hp⟩ := hh
                have h1' : s' = s := h1'
                have h2' : n2 = m := h2'
                subst h1' h2'
                obtain ⟨p1, p2⟩ := hg.fr _ _ hfr'
                obtain ⟨fl, hfl⟩ := getL_some hL
                obtain ⟨q1, q2, q3⟩ := hg.obj _ _ _ hfl
                rw [← p1, p2] at q1
                refine ⟨st'.H, ys, hp, ⟨hg.below, hg.le, fun b hb1 hb2 => hg.old b (fun h => by rcases h with h | h; exact absurd hb1 (Nat.not_lt.2 h); exact hb2 h), hg.snap⟩, ⟨q1.row.1, ?_⟩, q2, fun g hgb o => q3 g (by rw [← p1, p2]; exact hgb) o⟩
                rcases q1.row.2 with h | ⟨g, cap, cur, hv, _, h⟩
                · exact .inl h
                · refine .inr ⟨g, cap, cur, hv, ?_, h⟩
                  exact (hr.lt g (by rw [hv]; rfl)).1
              · exact hh.elim
            · exact hh.elim
          · exact hh.elim
        · exact hh.elim
    have fin2 : retKK fn.results.toList k (fn.ntmps + extra) s e m post st' → a'.defers = [] ∧ ∃ v, (results fn a'.tmps).run P w' = .ok v w' ∧ ∃ v' H' nr ys, Ending.returned v = .returned v' ∧ Fits ⟨true, []⟩ (post ys) v' H' nr ∧ GrowsX w w' H H' s.ownBlock ∧ (true = true → RowX P w' B H' ⟨s, e, m, ys⟩) ∧
        (∀ r ∈ nr, RowX P w' B H' r ∧ ∀ g, r.s.ownBlock = some g → w.heap.size ≤ g ∨ (true = false ∧ s.ownBlock = some g)) ∧ apartRows nr := by
      intro hh
      obtain ⟨hres, H', ys, hp, hgr, hrow⟩ := fin hh
      refine ⟨hg.defers, .tuple #[], by simp [results, hres], .tuple #[], H', [], ys, rfl, ⟨rfl, rfl, hp⟩, hgr, fun _ => hrow, by simp, List.Pairwise.nil⟩
    cases e' with
    | normal => exact fin2 hkk
    | ret => exact fin2 hkk
    | exit id => exact hkk.elim
    | goto l => exact hkk.elim
    | panic ch => exact hkk.elim
    | outgrown => exact hkk.elim
end
end Go.Vc
