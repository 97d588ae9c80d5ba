/- The reading operations: the theorem. -/
import Derived.Test.YtkfbbnagniolcaaVcS6
set_option linter.unusedSectionVars false
set_option linter.unusedSimpArgs false
set_option linter.unusedVariables false
namespace Go.Vc
open Go Go.RowKit

section
variable {P : Program} {Γ : Tab} {w0 : W0} {w : World} {H0 : Heap} {st : St} {a : Act} {ρ : Nat → Nat} {σ : Nat → Value}
variable (hT : TabOK P Γ) (hg : Good P w0 H0 st a w ρ σ)
def RdOp (P : Program) (st : St) (a : Act) (ρ : Nat → Nat) (σ : Nat → Value) (w : World) (o : Oper) (K : SV → Prop) : Prop :=
  ∃ v r, (∀ w', SameFor st ρ σ w w' → (execOp a.eval o).run P w' = .ok (.value v) w') ∧ SV.rel ρ σ r v ∧ (∀ d, st.noRef d → ¬ r.refs d) ∧ K r
theorem RdOp.of {o : Oper} {m : Sem Value} {K : SV → Prop} (he : execOp a.eval o = (do pure (.value (← m)))) (h : RdOK P st ρ σ w m K) : RdOp P st a ρ σ w o K := by
  obtain ⟨v, r, h1, h2⟩ := h
  exact ⟨v, r, fun w' hw' => by rw [he]; simp [h1 w' hw'], h2⟩
theorem evs_refs {xs : List Operand} {rs : List SV} (h : evs st xs = some rs) {d : Nat} (hn : st.noRef d) : ∀ r ∈ rs, ¬ r.refs d := by
  induction xs generalizing rs with
  | nil => simp [evs] at h; subst h; simp
  | cons x xs ih =>
    simp only [evs] at h
    split at h
    · rename_i r hr
      split at h
      · rename_i rs' hrs
        simp at h; subst h
        intro r' hr'
        rcases List.mem_cons.1 hr' with rfl | hr'
        · exact ev_refs hr hn
        · exact ih hrs _ hr'
      · simp at h
    · simp at h
theorem ones_rel {f : Operand → Value} : ∀ {rs : List SV} {cs : List S1} {xs : List Operand}, ones rs = some cs → rs.length = xs.length →
    (∀ (k : Nat) (r : SV) (x : Operand), rs[k]? = some r → xs[k]? = some x → r.rel ρ σ (f x)) → relL ρ σ cs (xs.map f)
  | [], cs, [], h, _, _ => by simp [ones] at h; subst h; trivial
  | r :: rs, cs, x :: xs, h, hl, hk => by
    cases r <;> simp only [ones] at h <;> try (simp at h; done)
    rename_i c
    split at h
    · rename_i cs' hcs
      simp at h; subst h
      exact ⟨hk 0 _ _ rfl rfl, ones_rel hcs (by simpa using hl) fun k r x h1 h2 => hk (k + 1) r x (by simpa using h1) (by simpa using h2)⟩
    · simp at h
  | [], _, _ :: _, _, hl, _ => by simp at hl
  | _ :: _, _, [], _, hl, _ => by simp at hl
theorem ones_refs {rs : List SV} {cs : List S1} {d : Nat} (h : ones rs = some cs) (hr : refsL d cs) : ∃ r ∈ rs, r.refs d := by
  induction rs generalizing cs with
  | nil => simp [ones] at h; subst h; obtain ⟨c, hc, _⟩ := hr; simp at hc
  | cons r rs ih =>
    cases r <;> simp only [ones] at h <;> try (simp at h; done)
    rename_i c
    split at h
    · rename_i cs' hcs
      simp at h; subst h
      obtain ⟨c', hc, hcr⟩ := hr
      rcases List.mem_cons.1 hc with rfl | hc
      · exact ⟨.one c', by simp, hcr⟩
      · obtain ⟨r, hr, hrr⟩ := ih hcs ⟨c', hc, hcr⟩
        exact ⟨r, by simp [hr], hrr⟩
    · simp at h
theorem mem_lt {F : Array Field} {f : Nat} {fl : Field} (h : F[f]? = some fl) : F[f]? = some fl := h
include hT hg
theorem vcRd_sound {o : Oper} {K : SV → Prop} (h : vcRd Γ st o.op K) : RdOp P st a ρ σ w o K := by
  obtain ⟨dst, op, ty, pos, after, guard⟩ := o
  simp only at h
  unfold vcRd at h
  split at h
  -- move
  · rename_i x
    split at h
    · rename_i r hr
      exact ⟨_, r, fun _ _ => rfl, ev_rel hg hr, fun d hd => ev_refs hr hd, h⟩
    · exact h.elim
  -- assign
  · rename_i x
    split at h
    · rename_i r hr
      exact ⟨_, r, fun _ _ => rfl, ev_rel hg hr, fun d hd => ev_refs hr hd, h⟩
    · exact h.elim
  -- pick
  · rename_i c x y
    split at h
    · rename_i hc
      have e : a.eval c = .bool true := ev_rel hg hc
      split at h
      · rename_i r hr
        exact ⟨_, r, fun _ _ => by simp [execOp, e, asBool], ev_rel hg hr, fun d hd => ev_refs hr hd, h⟩
      · exact h.elim
    · rename_i hc
      have e : a.eval c = .bool false := ev_rel hg hc
      split at h
      · rename_i r hr
        exact ⟨_, r, fun _ _ => by simp [execOp, e, asBool], ev_rel hg hr, fun d hd => ev_refs hr hd, h⟩
      · exact h.elim
    · exact h.elim
  -- load
  · rename_i t x
    split at h
    · rename_i r hr
      exact RdOp.of rfl (vcLoad_sound hT hg (ev_rel hg hr) h)
    · exact h.elim
  -- fieldAddr
  · rename_i t x f
    split at h
    · rename_i c hc
      split at h
      · rename_i off j hf
        obtain ⟨F, fl, hF, hfl, rfl, hj⟩ := vcField_some hT hf
        have hsz := (hT _ _ hj).run_size (P := P)
        split at h
        · exact h.elim
        · rename_i m hm
          have hne : j.size ≠ 0 := by omega
          have key : ∀ b q, a.eval x = .pointer (some ⟨b, q, none⟩) → ∀ w', SameFor st ρ σ w w' → (Instr.fieldAt t (a.eval x) f).run P w' = .ok (.pointer (some ⟨b, q + fl.offset, none⟩)) w' := by
            intro b q e w' _
            simp [Instr.fieldAt, Instr.sureAddr, fieldPlace, run_und hF, hfl, e, hsz, hne, add_plain]
          have hrel := ev_rel hg hc
          have hrf := fun d (hd : st.noRef d) => ev_refs hc hd
          split at h
          · rename_i i p
            exact RdOp.of rfl ⟨_, .one (.loc _ _), key _ _ hrel, rfl, fun d hd hh => hrf d hd hh, h⟩
          · rename_i A p
            obtain ⟨b, q, rfl, e⟩ := hrel
            refine RdOp.of rfl ⟨_, .one (.elt _ _), key _ _ e, ⟨b, q, rfl, ?_⟩, fun _ _ hh => hh, h⟩
            simp only [nadd, Nat.add_assoc]
          · rename_i i p
            obtain ⟨g, n, c, hs, e⟩ := hrel
            exact RdOp.of rfl ⟨_, .one (.oelt _ _), key _ _ e, ⟨g, n, c, hs, rfl⟩, fun d hd hh => hrf d hd hh, h⟩
          · rename_i i p
            exact RdOp.of rfl ⟨_, .one (.aelt _ _), key _ _ hrel, rfl, fun d hd hh => hrf d hd hh, h⟩
          · exact h.elim
      · exact h.elim
    · exact h.elim
  -- field
  · rename_i t x f
    split at h
    · rename_i cs hc
      split at h
      · rename_i off j hf
        obtain ⟨F, fl, hF, hfl, rfl, hj⟩ := vcField_some hT hf
        have hTj := hT _ _ hj
        split at h
        · rename_i hle
          obtain ⟨ys, e, hr⟩ := ev_rel hg hc
          have hr' := relL_take j.size (relL_drop fl.offset hr)
          have hl : ((ys.toList.drop fl.offset).take j.size).length = j.size := by
            have := relL_length hr
            simp only [List.length_take, List.length_drop]; omega
          obtain ⟨r, q1, q2, q3, q4⟩ := vcMk_sound h hr'
          have hrun : ∀ w, (part fl.type ys fl.offset).run P w = .ok (valMk j.agg ((ys.toList.drop fl.offset).take j.size)) w := by
            intro w
            unfold part valMk
            simp only [Sem.run_bind, hTj.agg w, Result.andThen_ok]
            cases hgg : j.agg
            · simp only [Bool.false_eq_true, if_false]
              rcases q2 with q2 | q2
              · rw [hgg] at q2; simp at q2
              · have hlt : fl.offset < ys.size := by
                  have := relL_length hr
                  simp only [Array.length_toList] at this
                  rw [hl] at q2
                  omega
                rw [Array.getElem?_eq_getElem hlt]
                simp only [Sem.run_pure]
                congr 1
                rw [List.drop_eq_getElem_cons (by simpa using hlt)]
                rw [hl] at q2
                rw [q2]
                simp
            · simp only [if_true, Sem.run_bind, hTj.run_size w, Result.andThen_ok, Sem.run_pure]
              congr 2
              apply Array.ext'
              simp only [Array.toList_extract]
              rw [List.extract_eq_take_drop]
              congr 1
              omega
          refine RdOp.of rfl ⟨_, r, ?_, q1, fun d hd hh => ?_, q4⟩
          · intro w' _
            simp [Instr.field, run_und hF, hfl, e, asAgg, hrun]
          · obtain ⟨c, hc', hcr⟩ := q3 d hh
            exact ev_refs hc hd ⟨c, List.mem_of_mem_drop (List.mem_of_mem_take hc'), hcr⟩
        · exact h.elim
      · exact h.elim
    · exact h.elim
  -- indexAddr
  · rename_i t x ix
    split at h
    · rename_i r hr
      split at h
      · rename_i k n hn
        have e : a.eval ix = .int k n := ev_rel hg hn
        refine RdOp.of (m := Instr.indexAt t (a.eval x) (a.eval ix)) rfl ?_
        rw [e]
        exact vcIndexAddr_sound hT hg (ev_rel hg hr) (fun d hd => ev_refs hr hd) h
      · exact h.elim
    · exact h.elim
  -- index
  · rename_i t x ix
    split at h
    · rename_i r hr
      split at h
      · rename_i k n hn
        have e : a.eval ix = .int k n := ev_rel hg hn
        refine RdOp.of (m := Instr.index t (a.eval x) (a.eval ix)) rfl ?_
        rw [e]
        split at h
        · exact vcIndex_sound hT (ev_rel hg hr) (fun d hd => ev_refs hr hd) h
        · exact vcIndex_sound hT (ev_rel hg hr) (fun d hd => ev_refs hr hd) (vcIndexS_index h)
      · exact h.elim
    · exact h.elim
  -- binOp
  · rename_i op t x y yt
    split at h
    · rename_i r hr
      split at h
      · rename_i r' hr'
        exact RdOp.of rfl (vcBin_sound hT (ev_rel hg hr) (ev_rel hg hr') h)
      · exact h.elim
    · exact h.elim
  -- not
  · rename_i t x
    split at h
    · rename_i hx
      have e : a.eval x = .bool true := ev_rel hg hx
      exact RdOp.of rfl ⟨.bool false, .one .ff, fun _ _ => by simp [Op.unary, e], rfl, fun _ _ hh => hh, h⟩
    · rename_i hx
      have e : a.eval x = .bool false := ev_rel hg hx
      exact RdOp.of rfl ⟨.bool true, .one .tt, fun _ _ => by simp [Op.unary, e], rfl, fun _ _ hh => hh, h⟩
    · rename_i c hc _ hx
      split at h
      · rename_i b hb
        have e : a.eval x = .bool b := S1.asB_rel hb (ev_rel hg hx)
        exact RdOp.of rfl ⟨.bool (!b), .one (.b (bnt b)), fun _ _ => by simp [Op.unary, e], rfl, fun _ _ hh => hh, h⟩
      · exact h.elim
    · exact h.elim
  -- neg
  · rename_i t x
    split at h
    · rename_i k n hx
      have e : a.eval x = .int k n := ev_rel hg hx
      refine RdOp.of rfl ⟨.int k (ineg n), .one (.v _), ?_, rfl, fun _ _ hh => hh, h.2⟩
      intro w' _
      have hw := wrap_in h.1
      simp only [ineg] at hw
      simp [Op.unary, e, Op.intArith, ineg, hw]
    · exact h.elim
  -- convert
  · rename_i t dt x
    split at h
    · rename_i i0 hi0
      split at h
      · rename_i k0 hty0
        have hu0 := (hT _ _ hi0).und
        rw [hty0] at hu0
        split at h
        · rename_i i hi
          split at h
          · rename_i k n hx
            have e : a.eval x = .int k n := ev_rel hg hx
            split at h
            · rename_i k' hty
              have hu := (hT _ _ hi).und
              rw [hty] at hu
              obtain ⟨m, hm, hK⟩ := h
              refine RdOp.of rfl ⟨.int k' m, .one (.v _), ?_, rfl, fun _ _ hh => hh, hK⟩
              intro w' _
              simp [convert, run_und hu0, run_und hu, e, Conv.intToInt, hm]
            · exact h.elim
          · exact h.elim
        · exact h.elim
      · exact h.elim
    · exact h.elim
  -- extract
  · rename_i x i
    split at h
    · rename_i cs hc
      split at h
      · rename_i g c hgc
        obtain ⟨ys, e, hr⟩ := ev_rel hg hc
        obtain ⟨y, hy, hrc⟩ : ∃ y, ys.toList[i]? = some y ∧ ∃ zs, relL ρ σ c zs ∧ (g = true → y = .agg ⟨zs⟩) ∧ (g = false → zs = [y]) := by
          have : ∀ (cs : List (Bool × List S1)) (ys : List Value) (i : Nat), relT ρ σ cs ys → cs[i]? = some (g, c) → ∃ y, ys[i]? = some y ∧ ∃ zs, relL ρ σ c zs ∧ (g = true → y = .agg ⟨zs⟩) ∧ (g = false → zs = [y]) := by
            intro cs
            induction cs with
            | nil => intro ys i _ h; simp at h
            | cons q cs ih =>
              intro ys i hr h
              obtain ⟨gq, cq⟩ := q
              cases ys with
              | nil => cases gq <;> exact hr.elim
              | cons y ys =>
                cases i with
                | zero =>
                  simp at h
                  obtain ⟨rfl, rfl⟩ := h
                  refine ⟨y, rfl, ?_⟩
                  cases gq
                  · exact ⟨[y], hr.1, by simp, fun _ => rfl⟩
                  · obtain ⟨⟨zs, rfl, hz⟩, _⟩ := hr
                    exact ⟨zs.toList, hz, fun _ => rfl, by simp⟩
                | succ i =>
                  have hr2 : relT ρ σ cs ys := by cases gq <;> exact hr.2
                  obtain ⟨z, hz, hrest⟩ := ih ys i hr2 (by simpa using h)
                  exact ⟨z, by simpa using hz, hrest⟩
          exact this cs ys.toList i hr hgc
        obtain ⟨zs, hz, h1, h2⟩ := hrc
        obtain ⟨r, q1, q2, q3, q4⟩ := vcMk_sound h hz
        have hval : valMk g zs = y := by
          cases g
          · rw [h2 rfl]; rfl
          · rw [h1 rfl]; rfl
        have hy' : ys[i]? = some y := by simpa using hy
        refine RdOp.of rfl ⟨y, r, fun _ _ => by simp [Instr.extract, e, hy'], by rw [← hval]; exact q1, fun d hd hh => ?_, q4⟩
        exact ev_refs hc hd ⟨(g, c), List.mem_of_getElem? hgc, q3 d hh⟩
      · exact h.elim
    · exact h.elim
  -- makeFunc
  · rename_i f first cap
    split at h
    · rename_i hfirst
      split at h
      · rename_i rs hrs
        split at h
        · rename_i cs hcs
          obtain ⟨hl, hk⟩ := evs_rel hg hrs
          have hf : first = #[] := by
            apply Array.ext'
            simpa using hfirst
          subst hf
          refine RdOp.of rfl ⟨.func (.func f) #[] (cap.map a.eval), .clo f cs, fun _ _ => by simp [Instr.makeFunc], ⟨_, rfl, ?_⟩, fun d hd hh => ?_, h⟩
          · rw [Array.toList_map]
            exact ones_rel hcs hl hk
          · obtain ⟨r, hr, hrr⟩ := ones_refs hcs hh
            exact evs_refs hrs hd r hr hrr
        · exact h.elim
      · exact h.elim
    · exact h.elim
  -- nilCheck
  · rename_i x
    have hrf := fun (r : SV) (hc : ev st x = some r) d (hd : st.noRef d) => ev_refs hc hd
    split at h
    · rename_i o p hc
      have e : a.eval x = .pointer (some ⟨ρ o, p, none⟩) := ev_rel hg hc
      exact ⟨_, .one (.loc o p), fun _ _ => by simp [execOp, e], rfl, fun d hd hh => hrf _ hc d hd hh, h⟩
    · rename_i A p hc
      obtain ⟨b, q, rfl, e⟩ := ev_rel hg hc
      exact ⟨_, .one (.elt _ p), fun _ _ => by simp [execOp, e], ⟨b, q, rfl, rfl⟩, fun d hd hh => hrf _ hc d hd hh, h⟩
    · rename_i o p hc
      obtain ⟨g, n, c, hs, e⟩ := ev_rel hg hc
      exact ⟨_, .one (.oelt o p), fun _ _ => by simp [execOp, e], ⟨g, n, c, hs, rfl⟩, fun d hd hh => hrf _ hc d hd hh, h⟩
    · rename_i o p hc
      have e : a.eval x = .pointer (some ⟨ρ o, p, none⟩) := ev_rel hg hc
      exact ⟨_, .one (.aelt o p), fun _ _ => by simp [execOp, e], rfl, fun d hd hh => hrf _ hc d hd hh, h⟩
    · exact h.elim
  -- slice
  · rename_i t x lo hi
    split at h
    · rename_i r hr
      exact RdOp.of rfl (vcSlice_sound hT hg (ev_rel hg hr) (fun d hd => ev_refs hr hd) h)
    · exact h.elim
  -- build
  · rename_i t parts
    split at h
    · exact h.elim
    · rename_i i hi
      have hTy := hT _ _ hi
      split at h
      · rename_i cs hcs
        split at h
        · rename_i hbo
          have hagg : i.agg = true := by
            unfold buildOK at hbo
            split at hbo
            · exact hbo
            · split at hbo
              · exact hbo
              · simp at hbo
            · simp at hbo
          obtain ⟨inf0, z, i1, i2, i3, i4, hzc⟩ := hTy.info
          have hz : ∀ w, (zeroValue t).run P w = .ok z w := fun w => by simp [zeroValue, typeInfo, i1, i4]
          rcases hTy.zagg.1 hagg with ⟨fs, hty⟩ | ⟨n, e, hty⟩
          · have hu := hTy.und
            rw [hty] at hu
            obtain ⟨F, hF, hmap, hinf⟩ := hu
            have hmapM : ∀ (l : List Field) (w : World), (∀ f ∈ l, ∃ inf, P.info? f.type = some inf) → (l.mapM (fun f => do pure (f.offset, ← sizeOf f.type) : Field → Sem (Nat × Nat))).run P w = .ok (l.map fun f => (f.offset, P.cellsOf f.type)) w := by
              intro l w
              induction l with
              | nil => intro _; simp
              | cons f l ih =>
                intro hl
                obtain ⟨inf, hinf⟩ := hl f (by simp)
                simp only [List.mapM_cons, Sem.run_bind, sizeOf, typeInfo, run_program, Result.andThen_ok, hinf, Sem.run_pure]
                have := ih (fun f hf => hl f (List.mem_cons_of_mem _ hf))
                simp only [sizeOf, typeInfo] at this
                rw [this]
                simp [Program.cellsOf, hinf]
            have hrunM : ∀ w, (F.mapM (fun f => do pure (f.offset, ← sizeOf f.type) : Field → Sem (Nat × Nat))).run P w = .ok (F.map fun f => (f.offset, P.cellsOf f.type)) w := by
              intro w
              rw [Array.mapM_eq_mapM_toList, Sem.run_map, hmapM F.toList w hinf]
              simp only [Result.andThen_ok]
              congr 1
              apply Array.ext'
              simp
            have hpl : ∀ f p, places Γ i f = some p → (fun j => (F.map fun f => (f.offset, P.cellsOf f.type))[j]?) f = some p := by
              intro f p hp
              unfold places at hp
              rw [hty] at hp
              simp only at hp
              split at hp
              · rename_i off ft hf
                split at hp
                · rename_i j hj
                  simp at hp; subst hp
                  rw [← hmap, List.getElem?_map] at hf
                  cases hfl : F.toList[f]? with
                  | none => rw [hfl] at hf; simp at hf
                  | some fl =>
                    rw [hfl] at hf
                    simp at hf
                    obtain ⟨rfl, rfl⟩ := hf
                    have hfl' : F[f]? = some fl := by simpa using hfl
                    obtain ⟨inf, _, q1, q2, _⟩ := (hT _ _ hj).info
                    simp [hfl', Program.cellsOf, q1, q2]
                · simp at hp
              · simp at hp
            obtain ⟨zs, h1, h2, h3, h4⟩ := lay_sound hT hg hpl parts.toList (i.zero.map S1.v) ⟨i.zero⟩ cs hcs (relL_v _) (fun d _ hh => refsL_v hh)
            refine RdOp.of rfl ⟨.agg zs, .agg cs, ?_, ⟨zs, rfl, h2⟩, fun d hd hh => h3 d hd hh, h⟩
            intro w' _
            have h1' : Instr.fill (fun x => (F.map fun f => (f.offset, P.cellsOf f.type))[x]?) z.cells (Array.map (fun x => (x.1, a.eval x.2)) parts).toList = some zs := by
              rw [hzc, Array.toList_map]; exact h1
            simp only [Instr.build, Sem.run_bind, hz, Result.andThen_ok, run_und hF, hrunM]
            rw [h1']
            rfl
          · have hu := hTy.und
            rw [hty] at hu
            have hj : ∃ j, Γ e = some j := by
              unfold buildOK at hbo
              rw [hty] at hbo
              simp only at hbo
              split at hbo
              · rename_i j hj; exact ⟨j, hj⟩
              · simp at hbo
            obtain ⟨j, hj⟩ := hj
            have hsz := (hT _ _ hj).run_size (P := P)
            have hpl : ∀ f p, places Γ i f = some p → (fun k => some (k * j.size, j.size)) f = some p := by
              intro f p hp
              unfold places at hp
              rw [hty] at hp
              simp only [hj] at hp
              exact hp
            obtain ⟨zs, h1, h2, h3, h4⟩ := lay_sound hT hg hpl parts.toList (i.zero.map S1.v) ⟨i.zero⟩ cs hcs (relL_v _) (fun d _ hh => refsL_v hh)
            refine RdOp.of rfl ⟨.agg zs, .agg cs, ?_, ⟨zs, rfl, h2⟩, fun d hd hh => h3 d hd hh, h⟩
            intro w' _
            have h1' : Instr.fill (fun k => some (k * j.size, j.size)) z.cells (Array.map (fun x => (x.1, a.eval x.2)) parts).toList = some zs := by
              rw [hzc, Array.toList_map]; exact h1
            simp only [Instr.build, Sem.run_bind, hz, Result.andThen_ok, run_und hu, hsz]
            rw [h1']
            rfl
        · exact h.elim
      · exact h.elim
  -- len
  · rename_i args argTypes
    split at h
    · rename_i x hx
      split at h
      · rename_i t ht
        have hargs : args = #[x] := by apply Array.ext'; simpa using hx
        have htys : argTypes = #[t] := by apply Array.ext'; simpa using ht
        subst hargs htys
        split at h
        · rename_i i hi
          have hu := (hT _ _ hi).und
          split at h
          · rename_i e hty
            rw [hty] at hu
            split at h
            · rename_i A n c hc
              have e : a.eval x = .slice A n c := ev_rel hg hc
              refine ⟨.int .i64 (ofN n), .one (.v _), ?_, rfl, fun _ _ hh => hh, h⟩
              intro w' _
              simp [execOp, resolve, invoke, builtin, Builtin.len_, run_und hu, e, goInt, ofN]
            · rename_i o hc
              split at h
              · rename_i e' n xs hL
                have hrow := row_of hg hL
                have e : a.eval x = σ o := ev_rel hg hc
                have hv : ∃ A c, σ o = .slice A n c := by
                  rcases hrow.row.2 with ⟨hv, h0⟩ | ⟨g, c, cur, hv, _⟩
                  · subst h0; exact ⟨_, _, hv⟩
                  · exact ⟨_, _, hv⟩
                obtain ⟨A, c, hv⟩ := hv
                rw [hv] at e
                refine ⟨.int .i64 (ofN n), .one (.v _), ?_, rfl, fun _ _ hh => hh, h⟩
                intro w' _
                simp [execOp, resolve, invoke, builtin, Builtin.len_, run_und hu, e, goInt, ofN]
              · exact h.elim
            · rename_i o l n sz hc
              obtain ⟨A, n0, c, hv, _, e⟩ : ∃ A n0 c, σ o = .slice A n0 c ∧ l + n ≤ n0 ∧ a.eval x = .slice (subA A c l sz) n (c - l) := ev_rel hg hc
              refine ⟨.int .i64 (ofN n), .one (.v _), ?_, rfl, fun _ _ hh => hh, h⟩
              intro w' _
              simp [execOp, resolve, invoke, builtin, Builtin.len_, run_und hu, e, goInt, ofN]
            · exact h.elim
          · rename_i hty
            rw [hty] at hu
            split at h
            · rename_i s hc
              have e : a.eval x = .string s := ev_rel hg hc
              refine ⟨.int .i64 (ofN s.size), .one (.v _), ?_, rfl, fun _ _ hh => hh, h⟩
              intro w' _
              simp [execOp, resolve, invoke, builtin, Builtin.len_, run_und hu, e, goInt, ofN]
            · exact h.elim
          · exact h.elim
        · exact h.elim
      · exact h.elim
    · exact h.elim
  -- max
  · rename_i args argTypes
    split at h
    · rename_i x y hxy
      have hargs : args = #[x, y] := by apply Array.ext'; simpa using hxy
      subst hargs
      split at h
      · rename_i k n hn
        split at h
        · rename_i k' m hm
          have e1 : a.eval x = .int k n := ev_rel hg hn
          have e2 : a.eval y = .int k' m := ev_rel hg hm
          refine ⟨.int k (max n m), .one (.v _), ?_, rfl, fun _ _ hh => hh, h⟩
          intro w' _
          have : (if m > n then m else n) = max n m := by omega
          simp [execOp, resolve, invoke, builtin, Builtin.max_, Builtin.max2, e1, e2, this]
        · exact h.elim
      · exact h.elim
    · exact h.elim
  -- min
  · rename_i args argTypes
    split at h
    · rename_i x y hxy
      have hargs : args = #[x, y] := by apply Array.ext'; simpa using hxy
      subst hargs
      split at h
      · rename_i k n hn
        split at h
        · rename_i k' m hm
          have e1 : a.eval x = .int k n := ev_rel hg hn
          have e2 : a.eval y = .int k' m := ev_rel hg hm
          refine ⟨.int k (min n m), .one (.v _), ?_, rfl, fun _ _ hh => hh, h⟩
          intro w' _
          have : (if m < n then m else n) = min n m := by omega
          simp [execOp, resolve, invoke, builtin, Builtin.min_, Builtin.min2, e1, e2, this]
        · exact h.elim
      · exact h.elim
    · exact h.elim
  · exact h.elim
end
end Go.Vc
