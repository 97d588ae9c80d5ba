/- What makes and writes memory: the theorem. -/
import Derived.Test.YticbeaepmnobnaaVcS10
import Derived.Maps.AppendAt
set_option linter.unusedSectionVars false
set_option linter.unusedSimpArgs false
set_option linter.unusedVariables false
namespace Go.Vc
open Go Go.RowKit

section
variable {P : Program} {Γ : Tab} {w0 w : World} {H0 : Heap} {st : St} {a : Act} {ρ : Nat → Nat} {σ : Nat → Value}
variable (hT : TabOK P Γ) (hg : Good P w0 H0 st a w ρ σ)
include hT hg
theorem alloc_sound {dst : Option Tmp} {t ty : TypeId} {pos : String} {after : Array Edge} {gd : Option (Nat × Bool)} {an : Ann} {K : St → Prop} (h : vcEf P Γ an st dst ty (.alloc t) K) :
    EfOK P w0 H0 st a w ρ ⟨dst, .alloc t, ty, pos, after, gd⟩ K := by
  simp only [vcEf] at h
  split at h
  · exact h.elim
  · rename_i d
    split at h
    · exact h.elim
    · rename_i i hi
      have hTy := hT _ _ hi
      split at h
      · rename_i hf
        obtain ⟨z, hz, hzc⟩ := hTy.run_zero w
        obtain ⟨st', q1, q2, q3, q4⟩ := vcNew_sound hg h hf (ys := ⟨i.zero⟩) (relL_v _) (fun d' _ hh => refsL_v hh) hTy.zone
        refine ⟨_, _, _, st', _, _, ?_, .inl rfl, q1, q2, q3, q4.any⟩
        have hz2 := run_newVar (P := P) (w := w) t z
        rw [hzc] at hz2
        simp [execOp, Instr.alloc, hz, hz2]
      · exact h.elim
theorem box_sound {dst : Option Tmp} {t ty : TypeId} {x : Operand} {pos : String} {after : Array Edge} {gd : Option (Nat × Bool)} {an : Ann} {K : St → Prop} (h : vcEf P Γ an st dst ty (.box t x) K) :
    EfOK P w0 H0 st a w ρ ⟨dst, .box t x, ty, pos, after, gd⟩ K := by
  simp only [vcEf] at h
  split at h
  · exact h.elim
  · rename_i d
    split at h
    · exact h.elim
    · rename_i i hi
      split at h
      · exact h.elim
      · rename_i sv hsv
        split at h
        · exact h.elim
        · rename_i cs hcs
          split at h
          · rename_i hc
            obtain ⟨hf, hl, hok⟩ := hc
            have hr := cells_rel hg.sl hcs (ev_rel hg hsv)
            obtain ⟨st', q1, q2, q3, q4⟩ := vcNew_sound hg h hf (ys := (a.eval x).cells) hr (fun d' hd hh => ev_refs hsv hd (cells_refs hcs hh)) (ok1s_rel hg.sl hok hr)
            refine ⟨_, _, _, st', _, _, ?_, .inl rfl, q1, q2, q3, q4.any⟩
            have hz2 := run_newVar (P := P) (w := w) t (a.eval x)
            simp [execOp, Instr.box, hz2]
          · exact h.elim
/- putting a new row under the number d -/
omit hT in
theorem rowK {d : Nat} {e : TypeId} {n : Nat} {xs : List Value} {K : St → Prop} (hf : fresh? st d = true)
    (hK : K (Vc.setS (Vc.setL st d (.row e n xs)) (some d) (.one (.own d)))) {v : Value} {w' : World} (hw : GrB w w' none)
    (hrow : w'.ownsRow w.heap.size e (P.cellsOf e) v n xs) (h1 : ∀ x ∈ xs, x.oneCell' = true) :
    ∃ st' ρ' σ', K st' ∧ Keeps [d] st st' ∧ Good P w0 H0 st' (a.put (some d) v) w' ρ' σ' ∧ Goes noX st st' ρ ρ' w w' := by
  refine ⟨_, ρ, upd σ d v, hK, ((Keeps.setL_fresh hf).mono (by simp)).trans (Keeps.setS _ (some d) _), ?_, Goes.of (ch := none) hg (fun i => ?_) (fun _ _ => rfl) hw (by simp)⟩
  rotate_left
  · by_cases hi : i = d
    · subst hi; exact .inr (.inl (fresh?_some hf))
    · left
      simp only [Vc.setS, Vc.setL]
      rw [List.getElem?_set_ne (Ne.symm hi)]
  refine Good.setS (hg.newRow hf e n xs v hw hrow h1) (some d) ?_ ?_
  · simp only [SV.rel, S1.rel, upd_same]
  · intro d' hd' hh
    exact (set_none hd' (fresh_lt hf)).1 hh.symm
omit hT hg in
theorem ownsRow_full {w : World} {e : TypeId} {n sz : Nat} {cs : Array Value} (hl : cs.size = n * sz) (hm : n ≤ maxLen) :
    (w.alloc (.cells cs e)).ownsRow w.heap.size e sz (.slice (some ⟨w.heap.size, 0, none⟩) n n) n cs.toList := by
  refine ⟨by simpa using hl, .inr ⟨w.heap.size, n, cs, rfl, Nat.le_refl _, heap_alloc_new w _, Nat.le_refl _, hm, hl, ?_⟩⟩
  rw [← hl]
  exact List.take_of_length_le (by simp)
theorem buildSlice_sound {dst : Option Tmp} {t ty : TypeId} {n : Nat} {parts : Array (Nat × Operand)} {pos : String} {after : Array Edge} {gd : Option (Nat × Bool)} {an : Ann} {K : St → Prop}
    (h : vcEf P Γ an st dst ty (.buildSlice t n parts) K) : EfOK P w0 H0 st a w ρ ⟨dst, .buildSlice t n parts, ty, pos, after, gd⟩ K := by
  simp only [vcEf] at h
  split at h
  · exact h.elim
  · rename_i d
    split at h
    · exact h.elim
    · rename_i i hi
      have hu := (hT _ _ hi).und
      split at h
      · rename_i e hty
        rw [hty] at hu
        split at h
        · exact h.elim
        · rename_i j hj
          have hTj := hT _ _ hj
          split at h
          · exact h.elim
          · obtain ⟨st1, h, hk1, hg1, hgo1⟩ := vcPubs_sound hg h
            split at h
            · exact h.elim
            · rename_i cs hcs
              split at h
              · exact h.elim
              · rename_i vs hvs
                split at h
                · rename_i hc
                  obtain ⟨hf, hok, hbig, hsz, hby⟩ := hc
                  have hlen : (repl j.zero n).length = n * j.size := by rw [repl_length, hTj.zlen]
                  have hpl : ∀ f p, (if f < n then some (f * j.size, j.size) else none) = some p → (fun f => some (f * j.size, j.size)) f = some p := by
                    intro f p hp
                    split at hp
                    · exact hp
                    · simp at hp
                  obtain ⟨zs, z1, z2, z3, z4⟩ := lay_sound hT hg1 hpl parts.toList _ ⟨repl j.zero n⟩ cs hcs (relL_v _) (fun d _ hh => refsL_v hh)
                  have hzs := toVs_rel hvs z2
                  have hsize : zs.size = n * j.size := by rw [z4]; simpa using hlen
                  have hrow := ownsRow_full (w := w) (e := e) (n := n) (sz := P.cellsOf e) (cs := zs) (by rw [hTj.cellsOf]; exact hsize) (by
                    have : n ≤ n * j.size := Nat.le_mul_of_pos_right _ hsz
                    simp only [maxLen]; omega)
                  rw [hzs] at hrow
                  obtain ⟨st', ρ', σ', q1, q2, q3, q4⟩ := rowK hg1 hf h (GrB.alloc w _ none) hrow (by
                    intro x hx
                    rw [← hzs] at hx
                    exact ok1s_rel hg1.sl hok z2 x hx)
                  refine ⟨_, _, _, st', ρ', σ', ?_, .inl rfl, q1, (hk1.mono (by simp)).trans q2, q3, (hgo1.trans q4).any⟩
                  have hle : ¬ n * j.size > 2 ^ 24 := by omega
                  obtain ⟨z, hz, hzc⟩ := hTj.run_zero w
                  have hfill : Instr.fill (fun i => some (i * j.size, j.size)) ((Array.range (n * j.size)).map fun k => (if n * j.size = 0 then (#[] : Array Value) else ⟨j.zero⟩)[k % (if n * j.size = 0 then (#[] : Array Value) else ⟨j.zero⟩).size]!) (parts.map fun x => (x.1, a.eval x.2)).toList = some zs := by
                    have hr2 := range_repl j.zero n j.size hTj.zlen
                    have : ((Array.range (n * j.size)).map fun k => (if n * j.size = 0 then (#[] : Array Value) else ⟨j.zero⟩)[k % (if n * j.size = 0 then (#[] : Array Value) else ⟨j.zero⟩).size]!) = ⟨repl j.zero n⟩ := by
                      apply Array.ext'
                      rw [← hr2]
                      by_cases h0 : n * j.size = 0
                      · simp [h0]
                      · simp only [h0, if_false]
                    rw [this, Array.toList_map]
                    exact z1
                  by_cases h0 : n * j.size = 0
                  · simp [h0] at hfill
                    simp [execOp, Instr.buildSlice, run_und hu, hTj.run_size w, h0, hfill, newRow]
                  · simp only [h0, if_false] at hfill
                    simp only [execOp, Instr.buildSlice, Sem.run_bind, run_und hu, hTj.run_size w, Result.andThen_ok, hle, if_false, h0, hz, hzc, Sem.run_pure, hfill, newRow, run_newObj]
                    rfl
                · exact h.elim
      · exact h.elim
theorem makeSlice_sound {dst : Option Tmp} {t ty : TypeId} {l c : Operand} {pos : String} {after : Array Edge} {gd : Option (Nat × Bool)} {an : Ann} {K : St → Prop}
    (h : vcEf P Γ an st dst ty (.makeSlice t l c) K) : EfOK P w0 H0 st a w ρ ⟨dst, .makeSlice t l c, ty, pos, after, gd⟩ K := by
  simp only [vcEf] at h
  split at h
  · exact h.elim
  · rename_i d
    split at h
    · exact h.elim
    · rename_i i hi
      have hu := (hT _ _ hi).und
      split at h
      · rename_i e hty
        rw [hty] at hu
        split at h
        · exact h.elim
        · rename_i j hj
          have hTj := hT _ _ hj
          split at h
          · rename_i kl nl hl
            split at h
            · rename_i kc nc hc
              split at h
              · rename_i hcc
                obtain ⟨hf, hsz, hby⟩ := hcc
                obtain ⟨h1, h2, h3, h4⟩ := h
                have e1 : a.eval l = .int kl nl := ev_rel hg hl
                have e2 : a.eval c = .int kc nc := ev_rel hg hc
                have h1' : nc = nl := h1
                subst h1'
                have h2' : (0 : Int) ≤ nc := h2
                have h3' : nc * (j.bytes : Int) ≤ 140737488355328 := h3
                have h4' : nc ≤ nc * (j.bytes : Int) := by
                  have hb : (1 : Int) ≤ (j.bytes : Int) := by omega
                  calc nc = nc * 1 := by rw [Int.mul_one]
                    _ ≤ nc * (j.bytes : Int) := Int.mul_le_mul_of_nonneg_left hb h2'
                obtain ⟨inf, z, i1, i2, i3, i4, i5⟩ := hTj.info
                have hr := run_make (P := P) w t e inf z hu i1 i4 kl kc nc nc h2' (Int.le_refl _) (by rw [i3, Int.mul_comm]; omega) (by omega)
                have hmk : (madeCells z.cells (nc.toNat * inf.size)).toList = repl j.zero nc.toNat := by
                  unfold madeCells
                  rw [i5, i2]
                  exact range_repl j.zero nc.toNat j.size hTj.zlen
                have hrow := ownsRow_full (w := w) (e := e) (n := nc.toNat) (sz := P.cellsOf e) (cs := madeCells z.cells (nc.toNat * inf.size)) (by rw [hTj.cellsOf, size_madeCells, i2]) (by simp only [maxLen]; omega)
                rw [hmk] at hrow
                obtain ⟨st', ρ', σ', q1, q2, q3, q4⟩ := rowK hg hf (h4 _ rfl) (GrB.alloc w _ none) hrow (fun x hx => hTj.zone x (repl_mem hx))
                refine ⟨_, _, _, st', ρ', σ', ?_, .inl rfl, q1, q2, q3, q4.any⟩
                simp only [execOp, e1, e2, Sem.run_bind, hr, Result.andThen_ok, Sem.run_pure]
              · exact h.elim
            · exact h.elim
          · exact h.elim
      · exact h.elim
omit hT hg in
theorem setL_keeps_other {st : St} {d i : Nat} {o : LObj} (h : i ≠ d) : (Vc.setL st d o).L[i]? = st.L[i]? := by
  simp only [Vc.setL]
  exact List.getElem?_set_ne (Ne.symm h)
/- an object's block is written -/
omit hT in
theorem storeK {K : St → Prop} {o : Nat} {ob ob' : LObj} {g : Nat} {w' : World} (hW : getW st o = some ob) (hb : blk ρ σ o ob = some g) (hb' : blk ρ σ o ob' = some g)
    (hK : K (Vc.setL st o ob')) (hw : GrB w w' (some g)) (hobj : ObjOK P w0 w' st.H ρ σ o ob') (href : ∀ d', d' ≠ o → st.noRef d' → ¬ ob'.refs d') :
    ∃ st', K st' ∧ Keeps [] st st' ∧ Good P w0 H0 st' a w' ρ σ ∧ Goes (fun i => i = o ∧ isBA ob = true) st st' ρ ρ w w' := by
  have hL := getW_some hW
  have hlt : o < st.L.length := (List.getElem?_eq_some_iff.1 hL).1
  refine ⟨_, hK, Keeps.setL_w hW, ?_, ?_⟩
  rotate_left
  · have hne : ∀ (i : Nat) (f : Bool) (o2 : LObj), st.L[i]? = some (some (f, o2)) → isBA o2 = true → ¬ (i = o ∧ isBA ob = true) → i ≠ o := by
      rintro i f o2 h1 h2 h3 rfl
      rw [hL] at h1; simp at h1
      exact h3 ⟨rfl, by rw [h1.2]; exact h2⟩
    refine ⟨fun i f o2 h1 h2 h3 => ⟨f, ?_⟩, fun _ _ _ _ _ _ => rfl, fun i f o2 h1 h2 h3 => ?_⟩
    · simp only [Vc.setL]
      rw [List.getElem?_set_ne (Ne.symm (hne i f o2 h1 h2 h3))]
      exact h1
    · have hb2 := blk_BA (ρ := ρ) (σ := σ) (i := i) h2
      refine hw.block _ (hg.blk_lt h1 hb2).1 (fun e => ?_)
      simp at e
      exact hg.sep i o f true o2 ob g (hne i f o2 h1 h2 h3) h1 hL (by rw [hb2, e]) hb
  refine Good.step hg _ o ob' (some g) (set_get hlt) (fun i hi => .inl (List.getElem?_set_ne (Ne.symm hi))) (.inl ⟨rfl, rfl⟩) hw (fun g' hg' => ?_) (fun i f o' g' hi h hb2 e => ?_) hobj (fun g' h' => .inr (by rw [← hb']; exact h')) (fun d' h1 _ h2 => href d' h1 h2) hg.sl
  · simp at hg'; subst hg'
    exact (hg.blk_lt hL hb).2
  · simp at e; subst e
    rw [List.getElem?_set_ne (Ne.symm hi)] at h
    exact hg.sep i o f true o' ob g hi h hL hb2 hb
theorem store_sound {dst : Option Tmp} {t ty : TypeId} {x y : Operand} {pos : String} {after : Array Edge} {gd : Option (Nat × Bool)} {an : Ann} {K : St → Prop}
    (h : vcEf P Γ an st dst ty (.store t x y) K) : EfOK P w0 H0 st a w ρ ⟨dst, .store t x y, ty, pos, after, gd⟩ K := by
  simp only [vcEf] at h
  split at h
  · exact h.elim
  · split at h
    · exact h.elim
    · rename_i sa hsa
      split at h
      · exact h.elim
      · rename_i sv hsv
        have ha := ev_rel hg hsa
        have hv := ev_rel hg hsv
        unfold vcStore at h
        split at h
        · exact h.elim
        · rename_i i hi
          have hTy := hT _ _ hi
          split at h
          · exact h.elim
          · rename_i ys hys
            have hr := cells_rel hg.sl hys hv
            have hyr : ∀ d, st.noRef d → ¬ refsL d ys := fun d hd hh => ev_refs hsv hd (cells_refs hys hh)
            split at h
            · rename_i hc
              obtain ⟨hlen, hok⟩ := hc
              have h1 := ok1s_rel hg.sl hok hr
              have hl := relL_length hr
              have hsz : (a.eval y).cells.toList.length = i.size := by rw [← hl, hlen]
              -- the run, once the block is known
              have run : ∀ g off (cur : Array Value) tt, a.eval x = .pointer (some ⟨g, off, none⟩) → w.heap[g]? = some (.cells cur tt (0, 0)) → off + i.size ≤ cur.size →
                  ∃ w', (execOp a.eval ⟨none, .store t x y, ty, pos, after, gd⟩).run P w = .ok .skip w' ∧
                    w'.heap[g]? = some (.cells ⟨cur.toList.take off ++ (a.eval y).cells.toList ++ cur.toList.drop (off + i.size)⟩ tt (0, 0)) ∧ GrB w w' (some g) := by
                intro g off cur tt hp hb hle
                obtain ⟨w', q1, q2, q3, _⟩ := run_storeCells (P := P) (g := g) (off := off) (a.eval y).cells.toList 0 w cur hb (by rw [hsz]; omega) h1
                refine ⟨w', ?_, ?_, q3⟩
                · have hne : (a.eval y).cells.size = i.size := by simpa using hsz
                  simp only [execOp, Instr.storeAt, Instr.sureAddr, hp, Sem.run_bind, Sem.run_pure, Result.andThen_ok, storeVar, hTy.run_size w, ne_eq, hne, not_true_eq_false, if_false, q1]
                · rw [q2, hsz]
                  rfl
              split at h
              · rename_i o off
                have hp : a.eval x = .pointer (some ⟨ρ o, off, none⟩) := ha
                split at h
                · rename_i t0 cs hW
                  split at h
                  · rename_i hfit
                    have hL := getW_some hW
                    obtain ⟨cur, hb, hrc, hge, hfree⟩ := hg.obj _ _ _ hL
                    have hlc := relL_length hrc
                    obtain ⟨w', r1, r2, r3⟩ := run (ρ o) off cur t0 hp hb (by rw [hlen, hlc] at hfit; simpa using hfit)
                    obtain ⟨st', q1, q2, q3, q4⟩ := storeK (w' := w') (g := ρ o) hg hW rfl (by rfl) h r3 (by
                      refine ⟨_, r2, ?_, hge, hfree⟩
                      rw [hlen]
                      exact relL_append (relL_append (relL_take _ hrc) hr) (relL_drop _ hrc)) (by
                      intro d' _ hn hh
                      obtain ⟨c, hc, hcr⟩ := hh
                      rcases List.mem_append.1 hc with hc | hc
                      · rcases List.mem_append.1 hc with hc | hc
                        · exact hn.obj _ _ _ hL ⟨c, List.mem_of_mem_take hc, hcr⟩
                        · exact hyr d' hn ⟨c, hc, hcr⟩
                      · exact hn.obj _ _ _ hL ⟨c, List.mem_of_mem_drop hc, hcr⟩)
                    exact ⟨_, _, w', st', ρ, σ, r1, .inr ⟨rfl, rfl⟩, q1, q2, q3, q4.mono fun i hi => by simp_all [stTgt, isBA]⟩
                  · exact h.elim
                · rename_i t0 xs hW
                  split at h
                  · split at h
                    · rename_i vs hvs
                      obtain ⟨hfit, h⟩ := h
                      have hfit' : xs.length = i.size := hfit
                      have hL := getW_some hW
                      obtain ⟨hb, hx1, hge, hfree⟩ := hg.obj _ _ _ hL
                      have hvv := toVs_rel hvs hr
                      obtain ⟨w', r1, r2, r3⟩ := run (ρ o) 0 ⟨xs⟩ t0 hp hb (by simp [hfit'])
                      have hvl : vs.length = i.size := by rw [← hvv, hsz]
                      obtain ⟨st', q1, q2, q3, q4⟩ := storeK (w' := w') (g := ρ o) hg hW rfl (by rfl) h r3 (by
                        refine ⟨?_, ?_, hge, hfree⟩
                        · rw [r2, hvv]; simp [hfit']
                        · intro z hz
                          rw [← hvv] at hz; exact h1 z hz) (fun _ _ _ hh => hh)
                      exact ⟨_, _, w', st', ρ, σ, r1, .inr ⟨rfl, rfl⟩, q1, q2, q3, q4.mono fun i hi => by simp_all [stTgt, isBA]⟩
                    · exact h.elim
                  · exact h.elim
                · exact h.elim
              · rename_i o j
                have hp : a.eval x = .pointer (some ⟨ρ o, j, none⟩) := ha
                split at h
                · rename_i t0 xs hW
                  split at h
                  · rename_i vs hvs
                    obtain ⟨hfit, h⟩ := h
                    have hfit' : j + i.size ≤ xs.length := hfit
                    have hL := getW_some hW
                    obtain ⟨hb, hx1, hge, hfree⟩ := hg.obj _ _ _ hL
                    have hvv := toVs_rel hvs hr
                    obtain ⟨w', r1, r2, r3⟩ := run (ρ o) j ⟨xs⟩ t0 hp hb (by simpa using hfit')
                    have hvl : vs.length = i.size := by rw [← hvv, hsz]
                    obtain ⟨st', q1, q2, q3, q4⟩ := storeK (w' := w') (g := ρ o) hg hW rfl (by rfl) h r3 (by
                      refine ⟨?_, ?_, hge, hfree⟩
                      · rw [r2, hvv]; simp only [splice, hvl]
                      · intro z hz
                        simp only [splice] at hz
                        rcases List.mem_append.1 hz with hz | hz
                        · rcases List.mem_append.1 hz with hz | hz
                          · exact hx1 z (List.mem_of_mem_take hz)
                          · rw [← hvv] at hz; exact h1 z hz
                        · exact hx1 z (List.mem_of_mem_drop hz)) (fun _ _ _ hh => hh)
                    exact ⟨_, _, w', st', ρ, σ, r1, .inr ⟨rfl, rfl⟩, q1, q2, q3, q4.mono fun i hi => by simp_all [stTgt, isBA]⟩
                  · exact h.elim
                · exact h.elim
              · rename_i o j
                obtain ⟨g, m, c, hs, hp⟩ := ha
                split at h
                · rename_i e n xs hW
                  split at h
                  · rename_i vs hvs
                    obtain ⟨hfit, h⟩ := h
                    have hfit' : j + i.size ≤ xs.length := hfit
                    have hL := getW_some hW
                    obtain ⟨hrow, hx1, hfree⟩ := hg.obj _ _ _ hL
                    have hvv := toVs_rel hvs hr
                    have hvl : vs.length = i.size := by rw [← hvv, hsz]
                    have hob : (σ o).ownBlock = some g := by rw [hs]; rfl
                    obtain ⟨hxl, hcase⟩ := hrow
                    rcases hcase with ⟨h0, _⟩ | ⟨g', cap, cur, hv', hge, hb, hnc, hcm, hcs, htake⟩
                    · rw [hs] at h0; simp at h0
                    · rw [hs] at hv'
                      simp at hv'
                      obtain ⟨rfl, rfl, rfl⟩ := hv'
                      have hle : m * P.cellsOf e ≤ cur.size := by rw [hcs]; exact Nat.mul_le_mul_right _ hnc
                      obtain ⟨w', r1, r2, r3⟩ := run g j cur e hp hb (by omega)
                      obtain ⟨st', q1, q2, q3, q4⟩ := storeK (w' := w') (g := g) hg hW hob (by exact hob) h r3 (by
                        have hsl : (splice xs j vs).length = xs.length := by simp only [splice, List.length_append, List.length_take, List.length_drop]; omega
                        refine ⟨⟨by rw [hsl, hxl], .inr ⟨g, c, _, hs, hge, r2, hnc, hcm, ?_, ?_⟩⟩, ?_, hfree⟩
                        · rw [hvv]
                          simp only [List.size_toArray, List.length_append, List.length_take, List.length_drop, Array.length_toList, hvl]
                          rw [← hcs]; omega
                        · rw [hvv]
                          simp only [splice, hvl]
                          have hk : j + i.size ≤ m * P.cellsOf e := by rw [← hxl]; exact hfit'
                          have hcl : cur.toList.length = cur.size := by simp
                          rw [← htake, List.take_append, List.take_append]
                          simp only [List.length_append, List.length_take, hcl, hvl]
                          rw [List.take_take, List.take_take, List.drop_take]
                          have e1 : min (m * P.cellsOf e) j = j := by omega
                          have e2 : min j (m * P.cellsOf e) = j := by omega
                          have e3 : min j cur.size = j := by omega
                          rw [e1, e2, e3, List.take_of_length_le (by omega : vs.length ≤ m * P.cellsOf e - j)]
                        · intro z hz
                          simp only [splice] at hz
                          rcases List.mem_append.1 hz with hz | hz
                          · rcases List.mem_append.1 hz with hz | hz
                            · exact hx1 z (List.mem_of_mem_take hz)
                            · rw [← hvv] at hz; exact h1 z hz
                          · exact hx1 z (List.mem_of_mem_drop hz)) (fun _ _ _ hh => hh)
                      exact ⟨_, _, w', st', ρ, σ, r1, .inr ⟨rfl, rfl⟩, q1, q2, q3, q4.mono fun i hi => by simp_all [stTgt, isBA]⟩
                  · exact h.elim
                · exact h.elim
              · exact h.elim
            · exact h.elim
omit hT hg in
theorem run_append_nil_src {base : Nat} {t ty e : TypeId} {i : TypeInfo} {size : Nat} (ht : P.underlying t = some (.slice e)) (hi : P.info? e = some i)
    {v : Value} {n : Nat} {xs : List Value} (hown : w.ownsRow base e size v n xs) (c : Nat) : (Builtin.append_ #[t, t] ty #[v, .slice none 0 c]).run P w = .ok v w := by
  rcases hown.2 with ⟨rfl, rfl⟩ | ⟨g, cap, cur, rfl, _, _, hnc, _⟩
  · simp [Builtin.append_, run_und ht, sizeOf, typeInfo, hi, Builtin.lenOf, Builtin.firstCells]
  · simp [Builtin.append_, run_und ht, sizeOf, typeInfo, hi, Builtin.lenOf, Builtin.firstCells, hnc, storeCells]
/- the append itself, whatever its source -/
omit hg in
theorem run_append_src {base : Nat} {t ty e : TypeId} {j : TyI} (ht : P.underlying t = some (.slice e)) (hj : Γ e = some j) (hsz : 0 < j.size) (hby : 0 < j.bytes)
    {v : Value} {n : Nat} {xs : List Value} (hown : w.ownsRow base e (P.cellsOf e) v n xs) {A : Option Addr} {m c : Nat} {news : List Value}
    (hl : news.length = m * j.size) (hnews : ∀ k u, news[k]? = some u → ∃ b o, A = some ⟨b, o, none⟩ ∧ w.cell? ⟨b, o + k, none⟩ = some u) (hA : A = none → m = 0) (hAs : ∀ x, A = some x → x.spot = none) (h1 : ∀ u ∈ news, u.oneCell' = true)
    (hbytes : (n + m) * j.bytes ≤ 140737488355328) (hbase : base ≤ w.heap.size) :
    ∃ v' w', (Builtin.append_ #[t, t] ty #[v, .slice A m c]).run P w = .ok v' w' ∧ w'.ownsRow base e (P.cellsOf e) v' (n + m) (xs ++ news) ∧ GrB w w' v.ownBlock ∧ (v'.ownBlock = v.ownBlock ∨ v'.ownBlock = some w.heap.size) := by
  have hTj := hT _ _ hj
  obtain ⟨inf, z, i1, i2, i3, i4, i5⟩ := hTj.info
  have hmax : n + m ≤ maxLen := by
    have : n + m ≤ (n + m) * j.bytes := Nat.le_mul_of_pos_right _ hby
    simp only [maxLen]; omega
  cases A with
  | none =>
    have hm := hA rfl
    subst hm
    have hn : news = [] := List.eq_nil_of_length_eq_zero (by simpa using hl)
    subst hn
    exact ⟨v, w, run_append_nil_src ht i1 hown c, by simpa using hown, GrB.refl w _, .inl rfl⟩
  | some ad =>
    obtain ⟨b, o, sp⟩ := ad
    have := hAs _ rfl
    simp at this; subst this
    have hzs : z.cells.size = P.cellsOf e := by rw [i5, hTj.cellsOf]; simpa using hTj.zlen
    obtain ⟨v', w', r1, r2, r3, _, r5⟩ := run_append_own_at (P := P) w base t ty e inf z (P.cellsOf e) j.bytes ht i1 i4 (by rw [hTj.cellsOf, i2]) i3 hzs (by rw [hTj.cellsOf]; exact hsz) v n xs hown ⟨b, o, none⟩ m c news (by rw [hTj.cellsOf]; exact hl)
      (fun k u hu => by
        obtain ⟨b', o', e1, hc⟩ := hnews k u hu
        simp at e1; obtain ⟨rfl, rfl⟩ := e1
        rw [add_plain]; exact hc) h1 hmax hbytes hbase
    exact ⟨v', w', r1, r2, ⟨r3, run_drawn r1⟩, r5⟩
/- what the second argument of an append stands for -/
theorem vcApp2_sound {e : TypeId} {j : TyI} (hj : Γ e = some j) (hsz : 0 < j.size) {x : SV} {u : Value} (hx : x.rel ρ σ u) {K : Nat → List Value → Prop} (h : vcApp2 st e j.size x K) :
    ∃ A m c news, u = .slice A m c ∧ news.length = m * j.size ∧ (∀ k u, news[k]? = some u → ∃ b o, A = some ⟨b, o, none⟩ ∧ w.cell? ⟨b, o + k, none⟩ = some u) ∧ (A = none → m = 0) ∧ (∀ x, A = some x → m ≠ 0 → x.spot = none) ∧ (∀ u ∈ news, u.oneCell' = true) ∧ K m news := by
  have hTj := hT _ _ hj
  unfold vcApp2 at h
  split at h
  · rename_i k
    split at h
    · rename_i e' m ys hL
      split at h
      · rename_i he
        subst he
        obtain ⟨f, hf⟩ := getL_some hL
        obtain ⟨hrow, hy1, _⟩ := hg.obj _ _ _ hf
        have e1 : u = σ k := hx
        rcases hrow.2 with ⟨hs, h0⟩ | ⟨g, cap, cur, hs, hge, hb, hnc, hcm, hcs, htake⟩
        · subst h0
          have hys : ys = [] := List.eq_nil_of_length_eq_zero (by simpa using hrow.1)
          subst hys
          exact ⟨none, 0, 0, [], by rw [e1, hs], by simp, by simp, fun _ => rfl, by simp, by simp, h⟩
        · refine ⟨some ⟨g, 0, none⟩, m, cap, ys, by rw [e1, hs], by rw [hrow.1, hTj.cellsOf], fun k u hu => ⟨g, 0, rfl, by rw [Nat.zero_add]; exact row_cells hrow hs k u hu⟩, by simp, by simp, hy1, h⟩
      · exact h.elim
    · exact h.elim
  · rename_i A m c
    obtain ⟨ys, hc, hl, h⟩ := h
    have hl' : ys.length = m * j.size := hl
    have e1 := SV.rel_one_v hx
    rcases hc with rfl | ⟨b, o, rfl, hc⟩
    · have hm : m = 0 := by
        have hz : m * j.size = 0 := by simpa using hl'.symm
        rcases Nat.mul_eq_zero.1 hz with h0 | h0
        · exact h0
        · omega
      subst hm
      exact ⟨A, 0, c, [], e1, by simp, by simp, fun _ => rfl, by simp, by simp, h⟩
    · exact ⟨_, m, c, ys, e1, hl', fun k u hu => ⟨b, o, rfl, hg.snap _ _ _ (by have := (hc k u hu).1; simpa using this)⟩, by simp, by simp, fun u hu => by
        obtain ⟨k, hk⟩ := List.getElem?_of_mem hu
        exact (hc k u hk).2, h⟩
  · exact h.elim
theorem append_sound {dst : Option Tmp} {t ty : TypeId} {s x : Operand} {sv xv : SV} (hs : ev st s = some sv) (hx : ev st x = some xv) {K : St → Prop}
    (h : vcAppend Γ st dst t sv xv K) : ∃ v w' st' ρ' σ', (Builtin.append_ #[t, t] ty #[a.eval s, a.eval x]).run P w = .ok v w' ∧ K st' ∧ Keeps dst.toList st st' ∧ Good P w0 H0 st' (a.put dst v) w' ρ' σ' ∧ Goes noX st st' ρ ρ' w w' := by
  unfold vcAppend at h
  split at h
  · exact h.elim
  · rename_i d
    split at h
    · exact h.elim
    · rename_i i hi
      have hu := (hT _ _ hi).und
      split at h
      · rename_i e hty
        rw [hty] at hu
        split at h
        · exact h.elim
        · rename_i j hj
          have hTj := hT _ _ hj
          split at h
          · rename_i hc
            obtain ⟨hf, hsz, hby⟩ := hc
            have hn := fresh?_some hf
            have hlt := fresh_lt hf
            split at h
            · -- onto nil
              have es : a.eval s = .slice none 0 0 := ev_rel hg hs
              obtain ⟨A, m, c, news, eu, hl, hnews, hA, hAs, h1, hb, hK⟩ := vcApp2_sound hT hg hj hsz (ev_rel hg hx) h
              have hb' : m * j.bytes ≤ 140737488355328 := hb
              by_cases hm : m = 0
              · subst hm
                have hnil : news = [] := List.eq_nil_of_length_eq_zero (by simpa using hl)
                subst hnil
                obtain ⟨inf, z, i1, _⟩ := hTj.info
                have hown := World.ownsRow_nil w w.heap.size e (P.cellsOf e)
                obtain ⟨st', ρ', σ', q1, q2, q3, q4⟩ := rowK hg hf hK (GrB.refl w none) hown (by simp)
                refine ⟨_, w, st', ρ', σ', ?_, q1, q2, q3, q4⟩
                rw [es, eu]
                simp [Builtin.append_, run_und hu, sizeOf, typeInfo, i1, Builtin.lenOf, Builtin.firstCells]
                cases A <;> simp [Builtin.firstCells, loadCells, loadCellsFrom]
              · obtain ⟨v', w', r1, r2, r3, r4⟩ := run_append_src (P := P) (w := w) (ty := ty) hT hu hj hsz hby (World.ownsRow_nil w w.heap.size e (P.cellsOf e)) (c := c) hl hnews hA (fun x hx => hAs x hx hm) h1 (by simpa using hb') (Nat.le_refl _)
                obtain ⟨st', ρ', σ', q1, q2, q3, q4⟩ := rowK hg hf hK (by simpa [Value.ownBlock] using r3) (by simpa using r2) h1
                exact ⟨v', w', st', ρ', σ', by rw [es, eu]; exact r1, q1, q2, q3, q4⟩
            · -- onto a row of its own
              rename_i k
              split at h
              · rename_i e' n xs hW
                split at h
                · rename_i he
                  subst he
                  have es : a.eval s = σ k := ev_rel hg hs
                  obtain ⟨A, m, c, news, eu, hl, hnews, hA, hAs, h1, hb, hK⟩ := vcApp2_sound hT hg hj hsz (ev_rel hg hx) h
                  have hb' : (n + m) * j.bytes ≤ 140737488355328 := hb
                  have hL := getW_some hW
                  obtain ⟨hrow, hx1, hfree⟩ := hg.obj _ _ _ hL
                  have hkd : k ≠ d := fun e => by subst e; rw [hL] at hn; simp at hn
                  have hlk : k < st.L.length := (List.getElem?_eq_some_iff.1 hL).1
                  have hres : ∃ v' w', (Builtin.append_ #[t, t] ty #[σ k, .slice A m c]).run P w = .ok v' w' ∧ w'.ownsRow w0.heap.size e' (P.cellsOf e') v' (n + m) (xs ++ news) ∧ GrB w w' (σ k).ownBlock ∧ (v'.ownBlock = (σ k).ownBlock ∨ v'.ownBlock = some w.heap.size) := by
                    by_cases hm : m = 0
                    · subst hm
                      have hnil : news = [] := List.eq_nil_of_length_eq_zero (by simpa using hl)
                      subst hnil
                      obtain ⟨inf, z, i1, _⟩ := hTj.info
                      refine ⟨σ k, w, ?_, by simpa using hrow, GrB.refl w _, .inl rfl⟩
                      cases A with
                      | none => exact run_append_nil_src hu i1 hrow c
                      | some ad =>
                        rcases hrow.2 with ⟨hs', h0⟩ | ⟨g, cap, cur, hs', _, _, hnc, _⟩
                        · rw [hs']
                          simp [Builtin.append_, run_und hu, sizeOf, typeInfo, i1, Builtin.lenOf, Builtin.firstCells, loadCells, loadCellsFrom]
                        · rw [hs']
                          simp [Builtin.append_, run_und hu, sizeOf, typeInfo, i1, Builtin.lenOf, Builtin.firstCells, loadCells, loadCellsFrom, hnc, storeCells]
                    · exact run_append_src (P := P) (w := w) (ty := ty) hT hu hj hsz hby hrow (c := c) hl hnews hA (fun x hx => hAs x hx hm) h1 hb' hg.below.size
                  obtain ⟨v', w', r1, r2, r3, r4⟩ := hres
                  have hform : ∃ A m c, v' = .slice A m c := by
                    rcases r2.2 with ⟨hv, _⟩ | ⟨g, cap, cur, hv, _⟩
                    · exact ⟨_, _, _, hv⟩
                    · exact ⟨_, _, _, hv⟩
                  have hnr := hg.nr d hn
                  have hget : ∀ i, i ≠ d → i ≠ k → ((st.L.set k (some (true, .dead))).set d (some (true, .row e' (nadd n m) (cat xs news))))[i]? = st.L[i]? := by
                    intro i h1 h2
                    rw [List.getElem?_set_ne (Ne.symm h1), List.getElem?_set_ne (Ne.symm h2)]
                  have hgetk : ((st.L.set k (some (true, LObj.dead))).set d (some (true, .row e' (nadd n m) (cat xs news))))[k]? = some (some (true, .dead)) := by
                    rw [List.getElem?_set_ne (Ne.symm hkd), set_get hlk]
                  have hgood : Good P w0 H0 { st with L := (st.L.set k (some (true, .dead))).set d (some (true, .row e' (nadd n m) (cat xs news))) } a w' ρ (upd σ d v') := by
                    refine Good.step hg _ d (.row e' (nadd n m) (cat xs news)) (σ k).ownBlock (set_get (by simpa using hlt)) (fun i hi => ?_) (.inr ⟨hnr, fun _ _ => rfl, fun i hi => upd_ne _ _ hi⟩) r3 (fun g hgk => (hg.blk_lt hL hgk).2) (fun i f o g hi h hb2 hgk => ?_) ?_ ?_ (fun _ _ _ _ hh => hh) ?_
                    · by_cases hik : i = k
                      · subst hik; exact .inr hgetk
                      · exact .inl (hget i hi hik)
                    · by_cases hik : i = k
                      · subst hik
                        rw [hgetk] at h
                        simp at h
                        obtain ⟨_, rfl⟩ := h
                        simp [blk] at hb2
                      · rw [hget i hi hik] at h
                        exact hg.sep i k f true o _ g hik h hL hb2 hgk
                    · simp only [ObjOK, upd_same]
                      refine ⟨r2, fun x hx => ?_, fun g hgv o => ?_⟩
                      · rcases List.mem_append.1 hx with hx | hx
                        · exact hx1 x hx
                        · exact h1 x hx
                      · rcases r4 with r4 | r4
                        · rw [r4] at hgv; exact hfree g hgv o
                        · rw [r4] at hgv
                          simp at hgv; subst hgv
                          cases hh : st.H w.heap.size o with
                          | none => rfl
                          | some z => exact absurd (hg.H_lt hh) (Nat.lt_irrefl _)
                    · intro g hgv
                      simp only [blk, upd_same] at hgv
                      rcases r4 with r4 | r4
                      · right; rw [← r4]; exact hgv
                      · left; rw [r4] at hgv; simp at hgv; omega
                    · intro i
                      by_cases hid : i = d
                      · subst hid; rw [upd_same]; exact hform
                      · rw [upd_ne _ _ hid]; exact hg.sl i
                  refine ⟨v', w', _, ρ, upd σ d v', by rw [es, eu]; exact r1, hK, ?_, ?_, Goes.of (ch := (σ k).ownBlock) hg (fun i => ?_) (fun _ _ => rfl) r3 (fun g hgk => ⟨k, _, _, _, _, hL, hgk⟩)⟩
                  rotate_right
                  · by_cases hid : i = d
                    · subst hid; exact .inr (.inl hn)
                    · by_cases hik : i = k
                      · subst hik; exact .inr (.inr ⟨_, _, _, _, hL⟩)
                      · exact .inl (hget i hid hik)
                  · have k1 : Keeps [d] st (Vc.setL st k .dead) := (Keeps.setL_w hW).mono (by simp)
                    have k2 : Keeps [d] (Vc.setL st k .dead) (Vc.setL (Vc.setL st k .dead) d (.row e' (nadd n m) (cat xs news))) := by
                      refine (Keeps.setL fun o' hh => ?_).mono (by simp)
                      rw [setL_keeps_other (Ne.symm hkd), hn] at hh
                      simp at hh
                    exact (k1.trans k2).trans (Keeps.setS _ (some d) _)
                  · refine Good.setS hgood (some d) ?_ ?_
                    · simp only [SV.rel, S1.rel, upd_same]
                    · intro d' hd' hh
                      have hh' : d = d' := hh
                      subst hh'
                      simp only at hd'
                      rw [set_get (by simpa using hlt)] at hd'
                      simp at hd'
                · exact h.elim
              · exact h.elim
            · exact h.elim
          · exact h.elim
      · exact h.elim
end
end Go.Vc
