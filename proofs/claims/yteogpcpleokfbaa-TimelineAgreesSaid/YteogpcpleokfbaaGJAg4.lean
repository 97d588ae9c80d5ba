/- What makes and writes memory: the theorem. -/
import Derived.Test.YteogpcpleokfbaaGJAg3
import Derived.Maps.AppendAt
set_option linter.unusedSectionVars false
set_option linter.unusedSimpArgs false
set_option linter.unusedVariables false
namespace Go.Vc
open Go Go.RowKit

section
variable {P : Program} {Γ : Tab} {w0 : W0} {w : World} {H0 : Heap} {st : St} {a : Act} {ρ : Nat → Nat} {σ : Nat → Value}
variable (hT : TabOK P Γ) (hg : Good P w0 H0 st a w ρ σ)
include hT hg
theorem alloc_sound {dst : Option Tmp} {t ty : TypeId} {pos : String} {after : Array Edge} {gd : Option (Nat × Bool)} {an : Ann} {K : St → Prop} (h : vcEf P Γ an st dst ty (.alloc t) K) :
    EfOK P w0 H0 st a w ρ ⟨dst, .alloc t, ty, pos, after, gd⟩ K := by
  simp only [vcEf] at h
  split at h
  · exact h.elim
  · rename_i d
    split at h
    · exact h.elim
    · rename_i i hi
      have hTy := hT _ _ hi
      split at h
      · rename_i hf
        obtain ⟨z, hz, hzc⟩ := hTy.run_zero w
        obtain ⟨st', q1, q2, q3, q4⟩ := vcNew_sound hg h hf (ys := ⟨i.zero⟩) (relL_v _) (fun d' _ hh => refsL_v hh) hTy.zone
        refine ⟨_, _, _, st', _, _, ?_, .inl rfl, q1, q2, q3, q4.any⟩
        have hz2 := run_newVar (P := P) (w := w) t z
        rw [hzc] at hz2
        simp [execOp, Instr.alloc, hz, hz2]
      · exact h.elim
theorem box_sound {dst : Option Tmp} {t ty : TypeId} {x : Operand} {pos : String} {after : Array Edge} {gd : Option (Nat × Bool)} {an : Ann} {K : St → Prop} (h : vcEf P Γ an st dst ty (.box t x) K) :
    EfOK P w0 H0 st a w ρ ⟨dst, .box t x, ty, pos, after, gd⟩ K := by
  simp only [vcEf] at h
  split at h
  · exact h.elim
  · rename_i d
    split at h
    · exact h.elim
    · rename_i i hi
      split at h
      · exact h.elim
      · rename_i sv hsv
        split at h
        · exact h.elim
        · rename_i cs hcs
          split at h
          · rename_i hc
            obtain ⟨hf, hl, hok⟩ := hc
            have hr := cells_rel hg.sl hcs (ev_rel hg hsv)
            obtain ⟨st', q1, q2, q3, q4⟩ := vcNew_sound hg h hf (ys := (a.eval x).cells) hr (fun d' hd hh => ev_refs hsv hd (cells_refs hcs hh)) (ok1s_rel hg.sl hok hr)
            refine ⟨_, _, _, st', _, _, ?_, .inl rfl, q1, q2, q3, q4.any⟩
            have hz2 := run_newVar (P := P) (w := w) t (a.eval x)
            simp [execOp, Instr.box, hz2]
          · exact h.elim
/- putting a new row under the number d -/
omit hT in
theorem rowK {d : Nat} {e : TypeId} {n : Nat} {xs : List Value} {K : St → Prop} (hf : fresh? st d = true)
    (hK : K (Vc.setS (Vc.setL st d (.row e n xs)) (some d) (.one (.own d)))) {v : Value} {w' : World} (hw : GrB w w' none)
    (hrow : w'.ownsRow w.heap.size e (P.cellsOf e) v n xs) (h1 : ∀ x ∈ xs, x.oneCell' = true) :
    ∃ st' ρ' σ', K st' ∧ Keeps [d] st st' ∧ Good P w0 H0 st' (a.put (some d) v) w' ρ' σ' ∧ Goes noX st st' ρ ρ' w w' := by
  refine ⟨_, ρ, upd σ d v, hK, ((Keeps.setL_fresh hf).mono (by simp)).trans (Keeps.setS _ (some d) _), ?_, Goes.of (ch := none) hg (fun i => ?_) (fun _ _ => rfl) hw (by simp)⟩
  rotate_left
  · by_cases hi : i = d
    · subst hi; exact .inr (.inl (fresh?_some hf))
    · left
      simp only [Vc.setS, Vc.setL]
      rw [List.getElem?_set_ne (Ne.symm hi)]
  refine Good.setS (hg.newRow hf e n xs v hw hrow h1) (some d) ?_ ?_
  · simp only [SV.rel, S1.rel, upd_same]
  · intro d' hd' hh
    exact (set_none hd' (fresh_lt hf)).1 hh.symm
omit hT hg in
theorem ownsRow_full {w : World} {e : TypeId} {n sz : Nat} {cs : Array Value} (hl : cs.size = n * sz) (hm : n ≤ maxLen) :
    (w.alloc (.cells cs e)).ownsRow w.heap.size e sz (.slice (some ⟨w.heap.size, 0, none⟩) n n) n cs.toList := by
  refine ⟨by simpa using hl, .inr ⟨w.heap.size, n, cs, rfl, Nat.le_refl _, heap_alloc_new w _, Nat.le_refl _, hm, hl, ?_⟩⟩
  rw [← hl]
  exact List.take_of_length_le (by simp)
theorem buildSlice_sound {dst : Option Tmp} {t ty : TypeId} {n : Nat} {parts : Array (Nat × Operand)} {pos : String} {after : Array Edge} {gd : Option (Nat × Bool)} {an : Ann} {K : St → Prop}
    (h : vcEf P Γ an st dst ty (.buildSlice t n parts) K) : EfOK P w0 H0 st a w ρ ⟨dst, .buildSlice t n parts, ty, pos, after, gd⟩ K := by
  simp only [vcEf] at h
  split at h
  · exact h.elim
  · rename_i d
    split at h
    · exact h.elim
    · rename_i i hi
      have hu := (hT _ _ hi).und
      split at h
      · rename_i e hty
        rw [hty] at hu
        split at h
        · exact h.elim
        · rename_i j hj
          have hTj := hT _ _ hj
          split at h
          · exact h.elim
          · obtain ⟨st1, h, hk1, hg1, hgo1⟩ := vcPubs_sound hg h
            split at h
            · exact h.elim
            · rename_i cs hcs
              split at h
              · exact h.elim
              · rename_i vs hvs
                split at h
                · rename_i hc
                  obtain ⟨hf, hok, hbig, hsz, hby⟩ := hc
                  have hlen : (repl j.zero n).length = n * j.size := by rw [repl_length, hTj.zlen]
                  have hpl : ∀ f p, (if f < n then some (f * j.size, j.size) else none) = some p → (fun f => some (f * j.size, j.size)) f = some p := by
                    intro f p hp
                    split at hp
                    · exact hp
                    · simp at hp
                  obtain ⟨zs, z1, z2, z3, z4⟩ := lay_sound hT hg1 hpl parts.toList _ ⟨repl j.zero n⟩ cs hcs (relL_v _) (fun d _ hh => refsL_v hh)
                  have hzs := toVs_rel hvs z2
                  have hsize : zs.size = n * j.size := by rw [z4]; simpa using hlen
                  have hrow := ownsRow_full (w := w) (e := e) (n := n) (sz := P.cellsOf e) (cs := zs) (by rw [hTj.cellsOf]; exact hsize) (by
                    have : n ≤ n * j.size := Nat.le_mul_of_pos_right _ hsz
                    simp only [maxLen]; omega)
                  rw [hzs] at hrow
                  obtain ⟨st', ρ', σ', q1, q2, q3, q4⟩ := rowK hg1 hf h (GrB.alloc w _ none) hrow (by
                    intro x hx
                    rw [← hzs] at hx
                    exact ok1s_rel hg1.sl hok z2 x hx)
                  refine ⟨_, _, _, st', ρ', σ', ?_, .inl rfl, q1, (hk1.mono (by simp)).trans q2, q3, (hgo1.trans q4).any⟩
                  have hle : ¬ n * j.size > 2 ^ 24 := by omega
                  obtain ⟨z, hz, hzc⟩ := hTj.run_zero w
                  have hfill : Instr.fill (fun i => some (i * j.size, j.size)) ((Array.range (n * j.size)).map fun k => (if n * j.size = 0 then (#[] : Array Value) else ⟨j.zero⟩)[k % (if n * j.size = 0 then (#[] : Array Value) else ⟨j.zero⟩).size]!) (parts.map fun x => (x.1, a.eval x.2)).toList = some zs := by
                    have hr2 := range_repl j.zero n j.size hTj.zlen
                    have : ((Array.range (n * j.size)).map fun k => (if n * j.size = 0 then (#[] : Array Value) else ⟨j.zero⟩)[k % (if n * j.size = 0 then (#[] : Array Value) else ⟨j.zero⟩).size]!) = ⟨repl j.zero n⟩ := by
                      apply Array.ext'
                      rw [← hr2]
                      by_cases h0 : n * j.size = 0
                      · simp [h0]
                      · simp only [h0, if_false]
                    rw [this, Array.toList_map]
                    exact z1
                  by_cases h0 : n * j.size = 0
                  · simp [h0] at hfill
                    simp [execOp, Instr.buildSlice, run_und hu, hTj.run_size w, h0, hfill, newRow]
                  · simp only [h0, if_false] at hfill
                    simp only [execOp, Instr.buildSlice, Sem.run_bind, run_und hu, hTj.run_size w, Result.andThen_ok, hle, if_false, h0, hz, hzc, Sem.run_pure, hfill, newRow, run_newObj]
                    rfl
                · exact h.elim
      · exact h.elim
theorem makeSlice_sound {dst : Option Tmp} {t ty : TypeId} {l c : Operand} {pos : String} {after : Array Edge} {gd : Option (Nat × Bool)} {an : Ann} {K : St → Prop}
    (h : vcEf P Γ an st dst ty (.makeSlice t l c) K) : EfOK P w0 H0 st a w ρ ⟨dst, .makeSlice t l c, ty, pos, after, gd⟩ K := by
  simp only [vcEf] at h
  split at h
  · exact h.elim
  · rename_i d
    split at h
    · exact h.elim
    · rename_i i hi
      have hu := (hT _ _ hi).und
      split at h
      · rename_i e hty
        rw [hty] at hu
        split at h
        · exact h.elim
        · rename_i j hj
          have hTj := hT _ _ hj
          split at h
          · rename_i kl nl hl
            split at h
            · rename_i kc nc hc
              split at h
              · rename_i hcc
                obtain ⟨hf, hsz, hby⟩ := hcc
                obtain ⟨h1, h2, h3, h4⟩ := h
                have e1 : a.eval l = .int kl nl := ev_rel hg hl
                have e2 : a.eval c = .int kc nc := ev_rel hg hc
                have h1' : nc = nl := h1
                subst h1'
                have h2' : (0 : Int) ≤ nc := h2
                have h3' : nc * (j.bytes : Int) ≤ 140737488355328 := h3
                have h4' : nc ≤ nc * (j.bytes : Int) := by
                  have hb : (1 : Int) ≤ (j.bytes : Int) := by omega
                  calc nc = nc * 1 := by rw [Int.mul_one]
                    _ ≤ nc * (j.bytes : Int) := Int.mul_le_mul_of_nonneg_left hb h2'
                obtain ⟨inf, z, i1, i2, i3, i4, i5⟩ := hTj.info
                have hr := run_make (P := P) w t e inf z hu i1 i4 kl kc nc nc h2' (Int.le_refl _) (by rw [i3, Int.mul_comm]; omega) (by omega)
                have hmk : (madeCells z.cells (nc.toNat * inf.size)).toList = repl j.zero nc.toNat := by
                  unfold madeCells
                  rw [i5, i2]
                  exact range_repl j.zero nc.toNat j.size hTj.zlen
                have hrow := ownsRow_full (w := w) (e := e) (n := nc.toNat) (sz := P.cellsOf e) (cs := madeCells z.cells (nc.toNat * inf.size)) (by rw [hTj.cellsOf, size_madeCells, i2]) (by simp only [maxLen]; omega)
                rw [hmk] at hrow
                obtain ⟨st', ρ', σ', q1, q2, q3, q4⟩ := rowK hg hf (h4 _ rfl) (GrB.alloc w _ none) hrow (fun x hx => hTj.zone x (repl_mem hx))
                refine ⟨_, _, _, st', ρ', σ', ?_, .inl rfl, q1, q2, q3, q4.any⟩
                simp only [execOp, e1, e2, Sem.run_bind, hr, Result.andThen_ok, Sem.run_pure]
              · exact h.elim
            · exact h.elim
          · exact h.elim
      · exact h.elim
omit hT hg in
theorem setL_keeps_other {st : St} {d i : Nat} {o : LObj} (h : i ≠ d) : (Vc.setL st d o).L[i]? = st.L[i]? := by
  simp only [Vc.setL]
  exact List.getElem?_set_ne (Ne.symm h)
/- an object's block is written -/
omit hT in
theorem storeK {K : St → Prop} {o : Nat} {ob ob' : LObj} {g : Nat} {w' : World} (hW : getW st o = some ob) (hb : blk ρ σ o ob = some g) (hb' : blk ρ σ o ob' = some g)
    (hK : K (Vc.setL st o ob')) (hw : GrB w w' (some g)) (hobj : ObjOK P w0 w' st.H ρ σ o ob') (href : ∀ d', d' ≠ o → st.noRef d' → ¬ ob'.refs d') :
    ∃ st', K st' ∧ Keeps [] st st' ∧ Good P w0 H0 st' a w' ρ σ ∧ Goes (fun i => i = o ∧ isBA ob = true) st st' ρ ρ w w' := by
  have hL := getW_some hW
  have hlt : o < st.L.length := (List.getElem?_eq_some_iff.1 hL).1
  refine ⟨_, hK, Keeps.setL_w hW, ?_, ?_⟩
  rotate_left
  · have hne : ∀ (i : Nat) (f : Bool) (o2 : LObj), st.L[i]? = some (some (f, o2)) → isBA o2 = true → ¬ (i = o ∧ isBA ob = true) → i ≠ o := by
      rintro i f o2 h1 h2 h3 rfl
      rw [hL] at h1; simp at h1
      exact h3 ⟨rfl, by rw [h1.2]; exact h2⟩
    refine ⟨fun i f o2 h1 h2 h3 => ⟨f, ?_⟩, fun _ _ _ _ _ _ => rfl, fun i f o2 h1 h2 h3 => ?_⟩
    · simp only [Vc.setL]
      rw [List.getElem?_set_ne (Ne.symm (hne i f o2 h1 h2 h3))]
      exact h1
    · have hb2 := blk_BA (ρ := ρ) (σ := σ) (i := i) h2
      refine hw.block _ (hg.blk_lt h1 hb2).1 (fun e => ?_)
      simp at e
      exact hg.sep i o f true o2 ob g (hne i f o2 h1 h2 h3) h1 hL (by rw [hb2, e]) hb
  refine Good.step hg _ o ob' (some g) (set_get hlt) (fun i hi => .inl (List.getElem?_set_ne (Ne.symm hi))) (.inl ⟨rfl, rfl⟩) hw (fun g' hg' => ?_) (fun g' hg' => by simp at hg'; subst hg'; exact hg.noOpen hL hb) (fun i f o' g' hi h hb2 e => ?_) hobj (fun g' h' => .inr (by rw [← hb']; exact h')) (fun d' h1 _ h2 => href d' h1 h2) hg.sl
  · simp at hg'; subst hg'
    exact (hg.blk_lt hL hb).2
  · simp at e; subst e
    rw [List.getElem?_set_ne (Ne.symm hi)] at h
    exact hg.sep i o f true o' ob g hi h hL hb2 hb
theorem store_sound {dst : Option Tmp} {t ty : TypeId} {x y : Operand} {pos : String} {after : Array Edge} {gd : Option (Nat × Bool)} {an : Ann} {K : St → Prop}
    (h : vcEf P Γ an st dst ty (.store t x y) K) : EfOK P w0 H0 st a w ρ ⟨dst, .store t x y, ty, pos, after, gd⟩ K := by
  simp only [vcEf] at h
  split at h
  · exact h.elim
  · split at h
    · exact h.elim
    · rename_i sa hsa
      split at h
      · exact h.elim
      · rename_i sv hsv
        have ha := ev_rel hg hsa
        have hv := ev_rel hg hsv
        unfold vcStore at h
        split at h
        · exact h.elim
        · rename_i i hi
          have hTy := hT _ _ hi
          split at h
          · exact h.elim
          · rename_i ys hys
            have hr := cells_rel hg.sl hys hv
            have hyr : ∀ d, st.noRef d → ¬ refsL d ys := fun d hd hh => ev_refs hsv hd (cells_refs hys hh)
            split at h
            · rename_i hc
              obtain ⟨hlen, hok⟩ := hc
              have h1 := ok1s_rel hg.sl hok hr
              have hl := relL_length hr
              have hsz : (a.eval y).cells.toList.length = i.size := by rw [← hl, hlen]
              -- the run, once the block is known
              have run : ∀ g off (cur : Array Value) tt, a.eval x = .pointer (some ⟨g, off, none⟩) → w.heap[g]? = some (.cells cur tt (0, 0)) → off + i.size ≤ cur.size →
                  ∃ w', (execOp a.eval ⟨none, .store t x y, ty, pos, after, gd⟩).run P w = .ok .skip w' ∧
                    w'.heap[g]? = some (.cells ⟨cur.toList.take off ++ (a.eval y).cells.toList ++ cur.toList.drop (off + i.size)⟩ tt (0, 0)) ∧ GrB w w' (some g) := by
                intro g off cur tt hp hb hle
                obtain ⟨w', q1, q2, q3, _⟩ := run_storeCells (P := P) (g := g) (off := off) (a.eval y).cells.toList 0 w cur hb (by rw [hsz]; omega) h1
                refine ⟨w', ?_, ?_, q3⟩
                · have hne : (a.eval y).cells.size = i.size := by simpa using hsz
                  simp only [execOp, Instr.storeAt, Instr.sureAddr, hp, Sem.run_bind, Sem.run_pure, Result.andThen_ok, storeVar, hTy.run_size w, ne_eq, hne, not_true_eq_false, if_false, q1]
                · rw [q2, hsz]
                  rfl
              split at h
              · rename_i o off
                have hp : a.eval x = .pointer (some ⟨ρ o, off, none⟩) := ha
                split at h
                · rename_i t0 cs hW
                  split at h
                  · rename_i hfit
                    have hL := getW_some hW
                    obtain ⟨cur, hb, hrc, hge, hfree⟩ := hg.obj _ _ _ hL
                    have hlc := relL_length hrc
                    obtain ⟨w', r1, r2, r3⟩ := run (ρ o) off cur t0 hp hb (by rw [hlen, hlc] at hfit; simpa using hfit)
                    obtain ⟨st', q1, q2, q3, q4⟩ := storeK (w' := w') (g := ρ o) hg hW rfl (by rfl) h r3 (by
                      refine ⟨_, r2, ?_, hge, hfree⟩
                      rw [hlen]
                      exact relL_append (relL_append (relL_take _ hrc) hr) (relL_drop _ hrc)) (by
                      intro d' _ hn hh
                      obtain ⟨c, hc, hcr⟩ := hh
                      rcases List.mem_append.1 hc with hc | hc
                      · rcases List.mem_append.1 hc with hc | hc
                        · exact hn.obj _ _ _ hL ⟨c, List.mem_of_mem_take hc, hcr⟩
                        · exact hyr d' hn ⟨c, hc, hcr⟩
                      · exact hn.obj _ _ _ hL ⟨c, List.mem_of_mem_drop hc, hcr⟩)
                    exact ⟨_, _, w', st', ρ, σ, r1, .inr ⟨rfl, rfl⟩, q1, q2, q3, q4.mono fun i hi => by simp_all [stTgt, isBA]⟩
                  · exact h.elim
                · rename_i t0 xs hW
                  split at h
                  · split at h
                    · rename_i vs hvs
                      obtain ⟨hfit, h⟩ := h
                      have hfit' : xs.length = i.size := hfit
                      have hL := getW_some hW
                      obtain ⟨hb, hx1, hge, hfree⟩ := hg.obj _ _ _ hL
                      have hvv := toVs_rel hvs hr
                      obtain ⟨w', r1, r2, r3⟩ := run (ρ o) 0 ⟨xs⟩ t0 hp hb (by simp [hfit'])
                      have hvl : vs.length = i.size := by rw [← hvv, hsz]
                      obtain ⟨st', q1, q2, q3, q4⟩ := storeK (w' := w') (g := ρ o) hg hW rfl (by rfl) h r3 (by
                        refine ⟨?_, ?_, hge, hfree⟩
                        · rw [r2, hvv]; simp [hfit']
                        · intro z hz
                          rw [← hvv] at hz; exact h1 z hz) (fun _ _ _ hh => hh)
                      exact ⟨_, _, w', st', ρ, σ, r1, .inr ⟨rfl, rfl⟩, q1, q2, q3, q4.mono fun i hi => by simp_all [stTgt, isBA]⟩
                    · exact h.elim
                  · exact h.elim
                · exact h.elim
              · rename_i o j
                have hp : a.eval x = .pointer (some ⟨ρ o, j, none⟩) := ha
                split at h
                · rename_i t0 xs hW
                  split at h
                  · rename_i vs hvs
                    obtain ⟨hfit, h⟩ := h
                    have hfit' : j + i.size ≤ xs.length := hfit
                    have hL := getW_some hW
                    obtain ⟨hb, hx1, hge, hfree⟩ := hg.obj _ _ _ hL
                    have hvv := toVs_rel hvs hr
                    obtain ⟨w', r1, r2, r3⟩ := run (ρ o) j ⟨xs⟩ t0 hp hb (by simpa using hfit')
                    have hvl : vs.length = i.size := by rw [← hvv, hsz]
                    obtain ⟨st', q1, q2, q3, q4⟩ := storeK (w' := w') (g := ρ o) hg hW rfl (by rfl) h r3 (by
                      refine ⟨?_, ?_, hge, hfree⟩
                      · rw [r2, hvv]; simp only [splice, hvl]
                      · intro z hz
                        simp only [splice] at hz
                        rcases List.mem_append.1 hz with hz | hz
                        · rcases List.mem_append.1 hz with hz | hz
                          · exact hx1 z (List.mem_of_mem_take hz)
                          · rw [← hvv] at hz; exact h1 z hz
                        · exact hx1 z (List.mem_of_mem_drop hz)) (fun _ _ _ hh => hh)
                    exact ⟨_, _, w', st', ρ, σ, r1, .inr ⟨rfl, rfl⟩, q1, q2, q3, q4.mono fun i hi => by simp_all [stTgt, isBA]⟩
                  · exact h.elim
                · exact h.elim
              · rename_i o j
                obtain ⟨g, m, c, hs, hp⟩ := ha
                split at h
                · rename_i e n xs hW
                  split at h
                  · rename_i vs hvs
                    obtain ⟨hfit, h⟩ := h
                    have hfit' : j + i.size ≤ xs.length := hfit
                    have hL := getW_some hW
                    obtain ⟨hrow, hx1, hfree⟩ := hg.obj _ _ _ hL
                    have hvv := toVs_rel hvs hr
                    have hvl : vs.length = i.size := by rw [← hvv, hsz]
                    have hob : (σ o).ownBlock = some g := by rw [hs]; rfl
                    obtain ⟨⟨hxl, hcase⟩, hnw⟩ := hrow
                    rcases hcase with ⟨h0, _⟩ | ⟨g', cap, cur, hv', hge, hb, hnc, hcm, hcs, htake⟩
                    · rw [hs] at h0; simp at h0
                    · rw [hs] at hv'
                      simp at hv'
                      obtain ⟨rfl, rfl, rfl⟩ := hv'
                      have hle : m * P.cellsOf e ≤ cur.size := by rw [hcs]; exact Nat.mul_le_mul_right _ hnc
                      obtain ⟨w', r1, r2, r3⟩ := run g j cur e hp hb (by omega)
                      obtain ⟨st', q1, q2, q3, q4⟩ := storeK (w' := w') (g := g) hg hW hob (by exact hob) h r3 (by
                        have hsl : (splice xs j vs).length = xs.length := by simp only [splice, List.length_append, List.length_take, List.length_drop]; omega
                        refine ⟨⟨⟨by rw [hsl, hxl], .inr ⟨g, c, _, hs, hge, r2, hnc, hcm, ?_, ?_⟩⟩, hnw⟩, ?_, hfree⟩
                        · rw [hvv]
                          simp only [List.size_toArray, List.length_append, List.length_take, List.length_drop, Array.length_toList, hvl]
                          rw [← hcs]; omega
                        · rw [hvv]
                          simp only [splice, hvl]
                          have hk : j + i.size ≤ m * P.cellsOf e := by rw [← hxl]; exact hfit'
                          have hcl : cur.toList.length = cur.size := by simp
                          rw [← htake, List.take_append, List.take_append]
                          simp only [List.length_append, List.length_take, hcl, hvl]
                          rw [List.take_take, List.take_take, List.drop_take]
                          have e1 : min (m * P.cellsOf e) j = j := by omega
                          have e2 : min j (m * P.cellsOf e) = j := by omega
                          have e3 : min j cur.size = j := by omega
                          rw [e1, e2, e3, List.take_of_length_le (by omega : vs.length ≤ m * P.cellsOf e - j)]
                        · intro z hz
                          simp only [splice] at hz
                          rcases List.mem_append.1 hz with hz | hz
                          · rcases List.mem_append.1 hz with hz | hz
                            · exact hx1 z (List.mem_of_mem_take hz)
                            · rw [← hvv] at hz; exact h1 z hz
                          · exact hx1 z (List.mem_of_mem_drop hz)) (fun _ _ _ hh => hh)
                      exact ⟨_, _, w', st', ρ, σ, r1, .inr ⟨rfl, rfl⟩, q1, q2, q3, q4.mono fun i hi => by simp_all [stTgt, isBA]⟩
                  · exact h.elim
                · exact h.elim
              · exact h.elim
            · exact h.elim
omit hT hg in
theorem run_append_nil_src {base : Nat} {t ty e : TypeId} {i : TypeInfo} {size : Nat} (ht : P.underlying t = some (.slice e)) (hi : P.info? e = some i)
    {v : Value} {n : Nat} {xs : List Value} (hown : w.ownsRow base e size v n xs) (c : Nat) : (Builtin.append_ #[t, t] ty #[v, .slice none 0 c]).run P w = .ok v w := by
  rcases hown.2 with ⟨rfl, rfl⟩ | ⟨g, cap, cur, rfl, _, _, hnc, _⟩
  · simp [Builtin.append_, run_und ht, sizeOf, typeInfo, hi, Builtin.lenOf, Builtin.firstCells]
  · simp [Builtin.append_, run_und ht, sizeOf, typeInfo, hi, Builtin.lenOf, Builtin.firstCells, hnc, storeCells]
/- the append itself, whatever its source -/
omit hg in
theorem run_append_src {base : Nat} {t ty e : TypeId} {j : TyI} (ht : P.underlying t = some (.slice e)) (hj : Γ e = some j) (hsz : 0 < j.size) (hby : 0 < j.bytes)
    {v : Value} {n : Nat} {xs : List Value} (hown : w.ownsRow base e (P.cellsOf e) v n xs) {A : Option Addr} {m c : Nat} {news : List Value}
    (hl : news.length = m * j.size) (hnews : ∀ k u, news[k]? = some u → ∃ b o, A = some ⟨b, o, none⟩ ∧ w.cell? ⟨b, o + k, none⟩ = some u) (hA : A = none → m = 0) (hAs : ∀ x, A = some x → x.spot = none) (h1 : ∀ u ∈ news, u.oneCell' = true)
    (hbytes : (n + m) * j.bytes ≤ 140737488355328) (hbase : base ≤ w.heap.size) :
    ∃ v' w', (Builtin.append_ #[t, t] ty #[v, .slice A m c]).run P w = .ok v' w' ∧ w'.ownsRow base e (P.cellsOf e) v' (n + m) (xs ++ news) ∧ GrB w w' v.ownBlock ∧ (v'.ownBlock = v.ownBlock ∨ v'.ownBlock = some w.heap.size) := by
  have hTj := hT _ _ hj
  obtain ⟨inf, z, i1, i2, i3, i4, i5⟩ := hTj.info
  have hmax : n + m ≤ maxLen := by
    have : n + m ≤ (n + m) * j.bytes := Nat.le_mul_of_pos_right _ hby
    simp only [maxLen]; omega
  cases A with
  | none =>
    have hm := hA rfl
    subst hm
    have hn : news = [] := List.eq_nil_of_length_eq_zero (by simpa using hl)
    subst hn
    exact ⟨v, w, run_append_nil_src ht i1 hown c, by simpa using hown, GrB.refl w _, .inl rfl⟩
  | some ad =>
    obtain ⟨b, o, sp⟩ := ad
    have := hAs _ rfl
    simp at this; subst this
    have hzs : z.cells.size = P.cellsOf e := by rw [i5, hTj.cellsOf]; simpa using hTj.zlen
    obtain ⟨v', w', r1, r2, r3, _, r5⟩ := run_append_own_at (P := P) w base t ty e inf z (P.cellsOf e) j.bytes ht i1 i4 (by rw [hTj.cellsOf, i2]) i3 hzs (by rw [hTj.cellsOf]; exact hsz) v n xs hown ⟨b, o, none⟩ m c news (by rw [hTj.cellsOf]; exact hl)
      (fun k u hu => by
        obtain ⟨b', o', e1, hc⟩ := hnews k u hu
        simp at e1; obtain ⟨rfl, rfl⟩ := e1
        rw [add_plain]; exact hc) h1 hmax hbytes hbase
    exact ⟨v', w', r1, r2, ⟨r3, run_drawn r1⟩, r5⟩
/- appending onto a row whose filled part others may read: what is filled stays -/
omit hg in
theorem run_append_open {base : Nat} {t ty e : TypeId} {j : TyI} (ht : P.underlying t = some (.slice e)) (hj : Γ e = some j) (hsz : 0 < j.size) (hby : 0 < j.bytes)
    {v : Value} {n : Nat} {xs : List Value} (hown : w.ownsRow base e (P.cellsOf e) v n xs) {A : Option Addr} {m c : Nat} {news : List Value}
    (hl : news.length = m * j.size) (hnews : ∀ k u, news[k]? = some u → ∃ b o, A = some ⟨b, o, none⟩ ∧ w.cell? ⟨b, o + k, none⟩ = some u) (hA : A = none → m = 0) (hAs : ∀ x, A = some x → m ≠ 0 → x.spot = none) (h1 : ∀ u ∈ news, u.oneCell' = true)
    (hbytes : (n + m) * j.bytes ≤ 140737488355328) (hbase : base ≤ w.heap.size) :
    ∃ v' w', (Builtin.append_ #[t, t] ty #[v, .slice A m c]).run P w = .ok v' w' ∧ w'.ownsRow base e (P.cellsOf e) v' (n + m) (xs ++ news) ∧ GrB w w' v.ownBlock ∧
      (v'.ownBlock = v.ownBlock ∨ (v'.ownBlock = some w.heap.size ∧ GrB w w' none)) := by
  have hTj := hT _ _ hj
  obtain ⟨inf, z, i1, i2, i3, i4, i5⟩ := hTj.info
  have hmax : n + m ≤ maxLen := by
    have : n + m ≤ (n + m) * j.bytes := Nat.le_mul_of_pos_right _ hby
    simp only [maxLen]; omega
  have hsmall : n + m ≤ 9223372036854775807 := by simp only [maxLen] at hmax; omega
  have hcell : P.cellsOf e = inf.size := by rw [hTj.cellsOf, i2]
  have hzs : z.cells.size = inf.size := by rw [i5, i2]; simpa using hTj.zlen
  by_cases hm : m = 0
  · subst hm
    have hnil : news = [] := List.eq_nil_of_length_eq_zero (by simpa using hl)
    subst hnil
    refine ⟨v, w, ?_, by simpa using hown, GrB.refl w _, .inl rfl⟩
    cases A with
    | none => exact run_append_nil_src ht i1 hown c
    | some ad =>
      rcases hown.2 with ⟨hs', h0⟩ | ⟨g, cap, cur, hs', _, _, hnc, _⟩
      · rw [hs']
        subst h0
        simp [Builtin.append_, run_und ht, sizeOf, typeInfo, i1, Builtin.lenOf, Builtin.firstCells, loadCells, loadCellsFrom]
      · rw [hs']
        simp [Builtin.append_, run_und ht, sizeOf, typeInfo, i1, Builtin.lenOf, Builtin.firstCells, loadCells, loadCellsFrom, hnc, storeCells]
  cases A with
  | none => exact absurd (hA rfl) hm
  | some ad =>
    obtain ⟨b, o, sp⟩ := ad
    have := hAs _ rfl hm
    simp at this; subst this
    have hl' : news.length = m * inf.size := by rw [hl, i2]
    have hn2 : ∀ k u, news[k]? = some u → w.cell? ((⟨b, o, none⟩ : Addr).add k) = some u := fun k u hu => by
      obtain ⟨b', o', e1, hc⟩ := hnews k u hu
      simp at e1; obtain ⟨rfl, rfl⟩ := e1
      rw [add_plain]; exact hc
    have hbytes' : (n + m) * inf.bytes ≤ 140737488355328 := by rw [i3]; exact hbytes
    rw [hcell] at hown ⊢
    have hlen : (xs ++ news).length = (n + m) * inf.size := by rw [List.length_append, hown.1, hl', Nat.add_mul]
    have grown : ∀ (old : Nat), old < n + m →
        (w.drew.alloc (.cells (xs.toArray ++ news.toArray ++ Builtin.zeroCells z.cells (grownCap w (n + m) old e - (n + m))) e)).ownsRow base e inf.size
          (.slice (some ⟨w.heap.size, 0, none⟩) (n + m) (grownCap w (n + m) old e)) (n + m) (xs ++ news) := by
      intro old ho
      have hge := grownCap_ge w (n + m) old e
      have hcm : grownCap w (n + m) old e ≤ maxLen := grownCap_le_maxLen w (n + m) old e hmax
      refine ⟨hlen, .inr ⟨w.heap.size, _, _, rfl, hbase, heap_alloc_new w.drew _, hge, hcm, ?_, ?_⟩⟩
      · simp only [Array.size_append, List.size_toArray, size_zeroCells, hzs, hown.1, hl', ← Nat.add_mul]
        congr 1
        omega
      · simp only [Array.toList_append, List.append_assoc]
        rw [← List.append_assoc, ← hlen]
        exact List.take_left
    have hgr : ∀ (x : Obj) (row : Option Nat), GrB w (w.drew.alloc x) row := fun x row => ⟨⟨rfl, rfl, rfl, by simp, fun k hk _ => Below.heap_alloc w.drew x k hk⟩, Nat.le_succ _⟩
    rcases hown.2 with ⟨rfl, rfl⟩ | ⟨g, cap, cur, rfl, hbg, hg, hnc, hcm, hcs, htake⟩
    · have hx : xs = [] := List.eq_nil_of_length_eq_zero (by simpa using hown.1)
      subst hx
      have hr := run_append_nil (P := P) w t ty e inf z ht i1 i4 ⟨b, o, none⟩ m c news hl' hn2 (by omega) (by omega) (by have hb := hbytes'; simp only [Nat.zero_add] at hb; omega)
      have hgw := grown 0 (by omega)
      simp only [Nat.zero_add, List.nil_append, Array.empty_append] at hgw ⊢
      exact ⟨_, _, hr, hgw, hgr _ _, .inr ⟨rfl, hgr _ _⟩⟩
    · by_cases hroom : n + m ≤ cap
      · have hfit : n * inf.size + news.length ≤ cur.size := by rw [hl', hcs, ← Nat.add_mul]; exact Nat.mul_le_mul_right _ hroom
        have hr := run_append_room (P := P) w t ty e inf ht i1 g n cap cur hg ⟨b, o, none⟩ m c news hl' hn2 h1 hroom hfit
        refine ⟨_, _, hr, ⟨hlen, .inr ⟨g, cap, _, rfl, hbg, setRow_heap w g cur _ e _ hg, hroom, hcm, ?_, ?_⟩⟩, ⟨⟨rfl, rfl, rfl, by simp, fun k _ hk => setRow_other w g k _ (fun e => hk (by simp [Value.ownBlock, e]))⟩, run_drawn hr⟩, .inl rfl⟩
        · simp only [List.size_toArray, List.length_append, List.length_take, List.length_drop, Array.length_toList]
          omega
        · rw [htake, ← hlen]
          exact List.take_left
      · have holds : ∀ j u, xs[j]? = some u → w.cell? ((⟨g, 0, none⟩ : Addr).add j) = some u := hown.cells (g := g) rfl
        have hr := run_append_grow (P := P) w t ty e inf z ht i1 i4 ⟨g, 0, none⟩ n cap xs hown.1 holds ⟨b, o, none⟩ m c news hl' hn2 (by omega) (by omega) (growslice_fits (by omega) hbytes')
        exact ⟨_, _, hr, grown cap (by omega), hgr _ _, .inr ⟨rfl, hgr _ _⟩⟩
/- what the second argument of an append stands for -/
theorem vcApp2_sound {e : TypeId} {j : TyI} (hj : Γ e = some j) (hsz : 0 < j.size) {x : SV} {u : Value} (hx : x.rel ρ σ u) {K : Nat → List Value → Prop} (h : vcApp2 st e j.size x K) :
    ∃ A m c news, u = .slice A m c ∧ news.length = m * j.size ∧ (∀ k u, news[k]? = some u → ∃ b o, A = some ⟨b, o, none⟩ ∧ w.cell? ⟨b, o + k, none⟩ = some u) ∧ (A = none → m = 0) ∧ (∀ x, A = some x → m ≠ 0 → x.spot = none) ∧ (∀ u ∈ news, u.oneCell' = true) ∧ K m news := by
  have hTj := hT _ _ hj
  unfold vcApp2 at h
  split at h
  · rename_i k
    split at h
    · rename_i e' m ys hL
      split at h
      · rename_i he
        subst he
        obtain ⟨f, hf⟩ := getL_some hL
        obtain ⟨hrow, hy1, _⟩ := hg.obj _ _ _ hf
        have e1 : u = σ k := hx
        rcases hrow.row.2 with ⟨hs, h0⟩ | ⟨g, cap, cur, hs, hge, hb, hnc, hcm, hcs, htake⟩
        · subst h0
          have hys : ys = [] := List.eq_nil_of_length_eq_zero (by simpa using hrow.row.1)
          subst hys
          exact ⟨none, 0, 0, [], by rw [e1, hs], by simp, by simp, fun _ => rfl, by simp, by simp, h⟩
        · refine ⟨some ⟨g, 0, none⟩, m, cap, ys, by rw [e1, hs], by rw [hrow.row.1, hTj.cellsOf], fun k u hu => ⟨g, 0, rfl, by rw [Nat.zero_add]; exact row_cells hrow hs k u hu⟩, by simp, by simp, hy1, h⟩
      · exact h.elim
    · exact h.elim
  · rename_i A m c
    obtain ⟨ys, hc, hl, h⟩ := h
    have hl' : ys.length = m * j.size := hl
    have e1 := SV.rel_one_v hx
    rcases hc with rfl | ⟨b, o, rfl, hc⟩
    · have hm : m = 0 := by
        have hz : m * j.size = 0 := by simpa using hl'.symm
        rcases Nat.mul_eq_zero.1 hz with h0 | h0
        · exact h0
        · omega
      subst hm
      exact ⟨A, 0, c, [], e1, by simp, by simp, fun _ => rfl, by simp, by simp, h⟩
    · exact ⟨_, m, c, ys, e1, hl', fun k u hu => ⟨b, o, rfl, (hg.snap _ _ _ (by have := (hc k u hu).1; simpa using this)).cell (hc k u hu).2⟩, by simp, by simp, fun u hu => by
        obtain ⟨k, hk⟩ := List.getElem?_of_mem hu
        exact (hc k u hk).2, h⟩
  · exact h.elim
omit hT in
/- public memory and the open rows move on, off the objects of the call's own -/
theorem Good.opened {w' : World} {ch : Option Nat} {H' : Heap} {O' : OMap} (hw : GrB w w' ch) (hch : ∀ g, ch = some g → st.O g ≠ none) (hle : Heap.le st.H H') (hold : ∀ b, ¬ w0.nw b → ∀ o, H' b o = st.H b o)
    (hsnap : Snap H' w') (hoff : ∀ i f o g, st.L[i]? = some (some (f, o)) → blk ρ σ i o = some g → ∀ t, H' g t = st.H g t)
    (hopn : ∀ b x, O' b = some x → OpenOK P w0 w' H' b x ∧ ∀ i f o, st.L[i]? = some (some (f, o)) → blk ρ σ i o ≠ some b) : Good P w0 H0 { st with H := H', O := O' } a w' ρ σ := by
  have hne : ∀ {i f o g}, st.L[i]? = some (some (f, o)) → blk ρ σ i o = some g → w'.heap[g]? = w.heap[g]? := fun {i f o g} h hb => by
    refine hw.block g (hg.blk_lt h hb).1 (fun e => ?_)
    exact hch g e.symm (hg.noOpen h hb)
  refine ⟨hg.defers, hg.size, hg.fr, ?_, Heap.le_trans hg.le hle, fun b hb o => (hold b hb o).trans (hg.old b hb o), hsnap, fun i f o h => ?_, hg.sep, fun d hd => ⟨(hg.nr d hd).fr, (hg.nr d hd).obj⟩, hg.sl, hopn⟩
  · refine hg.below.grown hw.togrownBy hw.drawn (fun k hk => ?_)
    cases hO : st.O k with
    | none => exact absurd hO (hch k hk)
    | some x =>
      exact (hg.opn k x hO).1.1
  · have ho := hg.obj i f o h
    have h1 := fun g => hne (g := g) h
    have h2 := fun g => hoff i f o g h
    cases o <;> simp only [ObjOK] at ho ⊢
    case box t cs =>
      obtain ⟨ys, k1, k2, k3, k4⟩ := ho
      exact ⟨ys, (h1 _ rfl).trans k1, k2, k3, fun o => (h2 _ rfl o).trans (k4 o)⟩
    case arr t xs =>
      obtain ⟨k1, k2, k3, k4⟩ := ho
      exact ⟨(h1 _ rfl).trans k1, k2, k3, fun o => (h2 _ rfl o).trans (k4 o)⟩
    case row e n xs =>
      obtain ⟨k1, k2, k3⟩ := ho
      refine ⟨k1.kept hw.togrownBy ?_, k2, fun g hb o => (h2 g hb o).trans (k3 g hb o)⟩
      cases hb : (σ i).ownBlock with
      | none => exact .inl rfl
      | some g => exact .inr (fun e => hch g e.symm (hg.noOpen h hb))
    case pub A n c => exact ho
theorem append_sound {opn : Bool} {dst : Option Tmp} {t ty : TypeId} {s x : Operand} {sv xv : SV} (hs : ev st s = some sv) (hx : ev st x = some xv) {K : St → Prop}
    (h : vcAppend opn Γ st dst t sv xv K) : ∃ v w' st' ρ' σ', (Builtin.append_ #[t, t] ty #[a.eval s, a.eval x]).run P w = .ok v w' ∧ K st' ∧ Keeps dst.toList st st' ∧ Good P w0 H0 st' (a.put dst v) w' ρ' σ' ∧ Goes noX st st' ρ ρ' w w' := by
  unfold vcAppend at h
  split at h
  · exact h.elim
  · rename_i d
    split at h
    · exact h.elim
    · rename_i i hi
      have hu := (hT _ _ hi).und
      split at h
      · rename_i e hty
        rw [hty] at hu
        split at h
        · exact h.elim
        · rename_i j hj
          have hTj := hT _ _ hj
          split at h
          · rename_i hc
            obtain ⟨hf, hsz, hby⟩ := hc
            have hn := fresh?_some hf
            have hlt := fresh_lt hf
            split at h
            · split at h
              · -- onto an open row
                rename_i A n c
                obtain ⟨xs, hop, hcx, hxl, h⟩ := h
                have es : a.eval s = .slice A n c := ev_rel hg hs
                obtain ⟨A2, m, c2, news, eu, hl, hnews, hA, hAs, h1, hb, hK⟩ := vcApp2_sound hT hg hj hsz (ev_rel hg hx) h
                have hb' : (n + m) * j.bytes ≤ 140737488355328 := hb
                have hxl' : xs.length = n * P.cellsOf e := by rw [hTj.cellsOf]; exact hxl
                -- the row
                have hrow : owns w w0 e (P.cellsOf e) (.slice A n c) n xs ∧ (∀ x ∈ xs, x.oneCell' = true) := by
                  rcases hop with ⟨rfl, rfl, rfl⟩ | ⟨b, rfl, hO⟩
                  · have : xs = [] := List.eq_nil_of_length_eq_zero (by simpa using hxl')
                    subst this
                    exact ⟨⟨⟨by simp, .inl ⟨rfl, rfl⟩⟩, fun g hgb => by simp [Value.ownBlock] at hgb⟩, by simp⟩
                  · obtain ⟨⟨k1, ⟨_, k2, cur, rfl, k3, k4, k5⟩, k6⟩, _⟩ := hg.opn b _ hO
                    have hget : ∀ (t : Nat) (v : Value), xs[t]? = some v → cur[t]? = some v ∧ v.oneCell' = true := by
                      intro t v hv
                      rcases hcx with rfl | ⟨b', o', e1, e2⟩
                      · simp at hv
                      · simp at e1
                        obtain ⟨rfl, rfl⟩ := e1
                        have := e2 t v hv
                        refine ⟨?_, this.2⟩
                        have hc := (hg.snap _ _ _ this.1).cell this.2
                        simp only [World.cell?, k2] at hc
                        simpa using hc
                    refine ⟨⟨⟨hxl', .inr ⟨b, c, cur, rfl, Nat.zero_le _, k2, k3, k4, k5, ?_⟩⟩, fun g hgb => by simp [Value.ownBlock] at hgb; subst hgb; exact k1⟩, fun x hx => ?_⟩
                    · have hns : n * P.cellsOf e ≤ c * P.cellsOf e := Nat.mul_le_mul_right _ k3
                      apply List.ext_getElem?
                      intro t
                      by_cases ht : t < n * P.cellsOf e
                      · rw [List.getElem?_take_of_lt ht, List.getElem?_eq_getElem (by omega : t < xs.length)]
                        have := (hget t _ (List.getElem?_eq_getElem (by omega : t < xs.length))).1
                        simpa using this
                      · rw [List.getElem?_eq_none (by simp; omega), List.getElem?_eq_none (by omega)]
                    · obtain ⟨t, ht, rfl⟩ := List.getElem_of_mem hx
                      exact (hget t _ (List.getElem?_eq_getElem ht)).2
                obtain ⟨hrow, hx1⟩ := hrow
                obtain ⟨v', w', r1, r2, r3, r4⟩ := run_append_open (P := P) (w := w) (ty := ty) hT hu hj hsz hby hrow.row (c := c2) hl hnews hA hAs h1 hb' (Nat.zero_le _)
                have hOb : ∀ g, (Value.slice A n c).ownBlock = some g → ∃ o, A = some ⟨g, o, none⟩ ∧ o = 0 ∧ st.O g = some (.row e n c) := by
                  intro g hg'
                  rcases hop with ⟨rfl, _, _⟩ | ⟨b, rfl, hO⟩
                  · simp [Value.ownBlock] at hg'
                  · simp [Value.ownBlock] at hg'
                    subst hg'
                    exact ⟨0, rfl, rfl, hO⟩
                -- the block that has changed
                obtain ⟨ch, hgr, hch, hres⟩ : ∃ ch, GrB w w' ch ∧ (∀ g, ch = some g → (Value.slice A n c).ownBlock = some g ∧ v'.ownBlock = some g) ∧ ∀ g, v'.ownBlock = some g → ((Value.slice A n c).ownBlock = some g ∨ g = w.heap.size) := by
                  rcases r4 with r4 | ⟨r4, r5⟩
                  · exact ⟨_, r3, fun g hg' => ⟨hg', by rw [r4]; exact hg'⟩, fun g hg' => .inl (by rw [← r4]; exact hg')⟩
                  · exact ⟨none, r5, fun g hg' => by simp at hg', fun g hg' => .inr (by rw [r4] at hg'; simpa using hg'.symm)⟩
                obtain ⟨A', c', ev', hn', hA', hO'b⟩ : ∃ A' c', v' = .slice A' (n + m) c' ∧ n + m ≤ c' ∧ (A' = none ∨ ∃ g, A' = some ⟨g, 0, none⟩ ∧ v'.ownBlock = some g) ∧ (A' = none → n + m = 0 ∧ c' = 0) := by
                  rcases r2.2 with ⟨hv, h0⟩ | ⟨g, cap, cur, hv, _, _, hnc, _⟩
                  · exact ⟨none, 0, by rw [hv, h0], by omega, .inl rfl, fun _ => ⟨h0, rfl⟩⟩
                  · exact ⟨_, cap, hv, hnc, .inr ⟨g, rfl, by rw [hv]; rfl⟩, fun h => by simp at h⟩
                have hH0 : ∀ k, st.H w.heap.size k = none := fun k => by
                  cases hh : st.H w.heap.size k with
                  | none => rfl
                  | some z => exact absurd (hg.H_lt hh) (Nat.lt_irrefl _)
                have hO0 : st.O w.heap.size = none := by
                  cases hh : st.O w.heap.size with
                  | none => rfl
                  | some x =>
                    obtain ⟨⟨_, ⟨cur, k2, _⟩, _⟩, _⟩ := hg.opn _ _ hh
                    have := (Array.getElem?_eq_some_iff.1 k2).1
                    omega
                have hge : ∀ g, v'.ownBlock = some g → w0.nw g := fun g hg' => by
                  rcases hres g hg' with h | rfl
                  · exact hrow.nw g h
                  · exact .inl hg.below.size
                have hlen2 : (xs ++ news).length = (n + m) * P.cellsOf e := r2.1
                -- what the block held stays
                have hHb : ∀ g k u, v'.ownBlock = some g → st.H g k = some u → (xs ++ news)[k]? = some u := by
                  intro g k u hv hu
                  rcases hres g hv with hs' | rfl
                  · obtain ⟨o, rfl, rfl, hO⟩ := hOb g hs'
                    obtain ⟨⟨_, _, k6⟩, _⟩ := hg.opn g _ hO
                    have hk : k < xs.length := by
                      rcases Nat.lt_or_ge k (n * P.cellsOf e) with h | h
                      · omega
                      · rw [k6 k h] at hu; cases hu
                    rw [List.getElem?_append_left hk, List.getElem?_eq_getElem hk]
                    rcases hcx with rfl | ⟨b', o', e1, e2⟩
                    · simp at hk
                    · simp at e1
                      obtain ⟨rfl, rfl⟩ := e1
                      have := (e2 k _ (List.getElem?_eq_getElem hk)).1
                      simp only [Nat.zero_add] at this
                      rw [hu] at this
                      exact this.symm
                  · rw [hH0] at hu; cases hu
                obtain ⟨H2, hH2⟩ : ∃ H2 : Heap, H2 = fun b k => if v'.ownBlock = some b then (xs ++ news)[k]? else st.H b k := ⟨_, rfl⟩
                obtain ⟨O2, hO2⟩ : ∃ O2 : OMap, O2 = fun b => if v'.ownBlock = some b then some (.row e (n + m) c') else st.O b := ⟨_, rfl⟩
                have hle2 : Heap.le st.H H2 := by
                  intro b k u hu
                  rw [hH2]
                  by_cases hv : v'.ownBlock = some b
                  · simp only [hv, if_true]; exact hHb b k u hv hu
                  · simp only [if_neg hv]; exact hu
                refine ⟨v', w', setS { st with H := H2, O := O2 } (some d) (.one (.v (.slice A' (n + m) c'))), ρ, σ, by rw [es, eu]; exact r1, hK A' c' _ _ hle2 ?_ hn' ?_ ?_, ?_, ?_, ?_⟩
                · show Cells _ A' 0 (xs ++ news)
                  rcases hA' with rfl | ⟨g, rfl, hv⟩
                  · left
                    have := (hO'b rfl).1
                    exact List.eq_nil_of_length_eq_zero (by rw [hlen2, this]; simp)
                  · refine .inr ⟨g, 0, rfl, fun t v hv2 => ⟨?_, ?_⟩⟩
                    · simp only [hH2, hv, if_true, Nat.zero_add]; exact hv2
                    · rcases List.mem_append.1 (List.mem_of_getElem? hv2) with h | h
                      · exact hx1 v h
                      · exact h1 v h
                · rcases hA' with rfl | ⟨g, rfl, hv⟩
                  · exact .inl ⟨rfl, hO'b rfl⟩
                  · exact .inr ⟨g, rfl, by simp only [hO2, hv, if_true]; rfl⟩
                · intro b hb1 hb2
                  have hnb : v'.ownBlock ≠ some b := by
                    intro hv
                    rcases hres b hv with hs' | rfl
                    · obtain ⟨o, rfl, rfl, _⟩ := hOb b hs'
                      exact hb2 rfl
                    · exact hb1 hO0
                  refine ⟨fun hh => ?_, by simp only [hO2, if_neg hnb]⟩
                  rcases hA' with rfl | ⟨g, rfl, hv⟩
                  · simp at hh
                  · simp at hh; subst hh; exact hnb hv
                · have hk1 : Keeps [d] st { st with H := H2, O := O2 } := ⟨rfl, rfl, fun _ _ => rfl, fun _ _ h => h, hle2⟩
                  exact hk1.trans (Keeps.setS _ (some d) _)
                · refine Good.setS (hg.opened hgr (fun g hg' => ?_) hle2 (fun b hb o => ?_) ?_ (fun i f o g hi hbk t => ?_) (fun b x hO => ?_)) (some d) ?_ ?_
                  · obtain ⟨o, _, _, hO⟩ := hOb g (hch g hg').1
                    rw [hO]; simp
                  · rw [hH2]; simp only [if_neg (fun hv => hb (hge b hv) : ¬ v'.ownBlock = some b)]
                  · intro b o u hu
                    rw [hH2] at hu
                    by_cases hv : v'.ownBlock = some b
                    · simp only [hv, if_true] at hu
                      have := r2.cells hv o u hu
                      rw [add_plain, Nat.zero_add] at this
                      refine seen.of this ?_
                      rcases List.mem_append.1 (List.mem_of_getElem? hu) with h | h
                      · exact hx1 u h
                      · exact h1 u h
                    · simp only [if_neg hv] at hu
                      have hlt' := hg.H_lt hu
                      exact (hg.snap _ _ _ hu).keep (hgr.block b hlt' (fun e => hv (hch b e.symm).2))
                  · rw [hH2]
                    have hv : v'.ownBlock ≠ some g := ?_
                    · simp only [if_neg hv]
                    intro hv
                    rcases hres g hv with hs' | rfl
                    · obtain ⟨_, _, _, hO⟩ := hOb g hs'
                      rw [hg.noOpen hi hbk] at hO; cases hO
                    · have := (hg.blk_lt hi hbk).1; omega
                  · rw [hO2] at hO
                    by_cases hv : v'.ownBlock = some b
                    · simp only [hv, if_true, Option.some.injEq] at hO
                      subst hO
                      refine ⟨⟨hge b hv, ?_, fun t ht => ?_⟩, fun i f o hi hbk => ?_⟩
                      · rcases r2.2 with ⟨hv2, h0⟩ | ⟨g, cap, cur, hv2, _, q1, q2, q3, q4, _⟩
                        · rw [hv2] at hv; simp [Value.ownBlock] at hv
                        · rw [hv2] at hv ev'
                          simp [Value.ownBlock] at hv
                          subst hv
                          simp only [Value.slice.injEq] at ev'
                          obtain ⟨_, _, rfl⟩ := ev'
                          exact ⟨_, q1, cur, rfl, q2, q3, q4⟩
                      · have ht : (n + m) * P.cellsOf e ≤ t := ht
                        simp only [hH2, hv, if_true]
                        exact List.getElem?_eq_none (by omega)
                      · rcases hres b hv with hs' | rfl
                        · obtain ⟨_, _, _, hO⟩ := hOb b hs'
                          rw [hg.noOpen hi hbk] at hO; cases hO
                        · have := (hg.blk_lt hi hbk).1; omega
                    · simp only [if_neg hv] at hO
                      obtain ⟨⟨k1, ⟨cur, k2, k3⟩, k4⟩, k5⟩ := hg.opn b x hO
                      refine ⟨⟨k1, ⟨cur, (hgr.block b (Array.getElem?_eq_some_iff.1 k2).1 (fun e => hv (hch b e.symm).2)).trans k2, k3⟩, fun t ht => ?_⟩, k5⟩
                      simp only [hH2, if_neg hv]
                      exact k4 t ht
                  · simp only [SV.rel, S1.rel]; exact ev'
                  · intro d' _ hh; exact hh
                · refine ⟨fun i f o h1 _ _ => ⟨f, h1⟩, fun _ _ _ _ _ _ => rfl, fun i f o h1 h2 _ => ?_⟩
                  have hbk := blk_BA (ρ := ρ) (σ := σ) (i := i) h2
                  refine hgr.block _ (hg.blk_lt h1 hbk).1 (fun e => ?_)
                  obtain ⟨_, _, _, hO⟩ := hOb _ (hch _ e.symm).1
                  rw [hg.noOpen h1 hbk] at hO; cases hO
              · exact h.elim
            · split at h
              · -- onto nil
                have es : a.eval s = .slice none 0 0 := ev_rel hg hs
                obtain ⟨A, m, c, news, eu, hl, hnews, hA, hAs, h1, hb, hK⟩ := vcApp2_sound hT hg hj hsz (ev_rel hg hx) h
                have hb' : m * j.bytes ≤ 140737488355328 := hb
                by_cases hm : m = 0
                · subst hm
                  have hnil : news = [] := List.eq_nil_of_length_eq_zero (by simpa using hl)
                  subst hnil
                  obtain ⟨inf, z, i1, _⟩ := hTj.info
                  have hown := World.ownsRow_nil w w.heap.size e (P.cellsOf e)
                  obtain ⟨st', ρ', σ', q1, q2, q3, q4⟩ := rowK hg hf hK (GrB.refl w none) hown (by simp)
                  refine ⟨_, w, st', ρ', σ', ?_, q1, q2, q3, q4⟩
                  rw [es, eu]
                  simp [Builtin.append_, run_und hu, sizeOf, typeInfo, i1, Builtin.lenOf, Builtin.firstCells]
                  cases A <;> simp [Builtin.firstCells, loadCells, loadCellsFrom]
                · obtain ⟨v', w', r1, r2, r3, r4⟩ := run_append_src (P := P) (w := w) (ty := ty) hT hu hj hsz hby (World.ownsRow_nil w w.heap.size e (P.cellsOf e)) (c := c) hl hnews hA (fun x hx => hAs x hx hm) h1 (by simpa using hb') (Nat.le_refl _)
                  obtain ⟨st', ρ', σ', q1, q2, q3, q4⟩ := rowK hg hf hK (by simpa [Value.ownBlock] using r3) (by simpa using r2) h1
                  exact ⟨v', w', st', ρ', σ', by rw [es, eu]; exact r1, q1, q2, q3, q4⟩
              · -- onto a row of its own
                rename_i k
                split at h
                · rename_i e' n xs hW
                  split at h
                  · rename_i he
                    subst he
                    have es : a.eval s = σ k := ev_rel hg hs
                    obtain ⟨A, m, c, news, eu, hl, hnews, hA, hAs, h1, hb, hK⟩ := vcApp2_sound hT hg hj hsz (ev_rel hg hx) h
                    have hb' : (n + m) * j.bytes ≤ 140737488355328 := hb
                    have hL := getW_some hW
                    obtain ⟨hrow, hx1, hfree⟩ := hg.obj _ _ _ hL
                    have hkd : k ≠ d := fun e => by subst e; rw [hL] at hn; simp at hn
                    have hlk : k < st.L.length := (List.getElem?_eq_some_iff.1 hL).1
                    have hres : ∃ v' w', (Builtin.append_ #[t, t] ty #[σ k, .slice A m c]).run P w = .ok v' w' ∧ owns w' w0 e' (P.cellsOf e') v' (n + m) (xs ++ news) ∧ GrB w w' (σ k).ownBlock ∧ (v'.ownBlock = (σ k).ownBlock ∨ v'.ownBlock = some w.heap.size) := by
                      by_cases hm : m = 0
                      · subst hm
                        have hnil : news = [] := List.eq_nil_of_length_eq_zero (by simpa using hl)
                        subst hnil
                        obtain ⟨inf, z, i1, _⟩ := hTj.info
                        refine ⟨σ k, w, ?_, by simpa using hrow, GrB.refl w _, .inl rfl⟩
                        cases A with
                        | none => exact run_append_nil_src hu i1 hrow.row c
                        | some ad =>
                          rcases hrow.row.2 with ⟨hs', h0⟩ | ⟨g, cap, cur, hs', _, _, hnc, _⟩
                          · rw [hs']
                            simp [Builtin.append_, run_und hu, sizeOf, typeInfo, i1, Builtin.lenOf, Builtin.firstCells, loadCells, loadCellsFrom]
                          · rw [hs']
                            simp [Builtin.append_, run_und hu, sizeOf, typeInfo, i1, Builtin.lenOf, Builtin.firstCells, loadCells, loadCellsFrom, hnc, storeCells]
                      · obtain ⟨v', w', r1, r2, r3, r4⟩ := run_append_src (P := P) (w := w) (ty := ty) hT hu hj hsz hby hrow.row (c := c) hl hnews hA (fun x hx => hAs x hx hm) h1 hb' (Nat.zero_le _)
                        exact ⟨v', w', r1, ⟨r2, fun g hv => by
                          rcases r4 with r4 | r4
                          · exact hrow.nw g (by rw [← r4]; exact hv)
                          · rw [r4] at hv; simp at hv; subst hv; exact .inl hg.below.size⟩, r3, r4⟩
                    obtain ⟨v', w', r1, r2, r3, r4⟩ := hres
                    have hform : ∃ A m c, v' = .slice A m c := by
                      rcases r2.row.2 with ⟨hv, _⟩ | ⟨g, cap, cur, hv, _⟩
                      · exact ⟨_, _, _, hv⟩
                      · exact ⟨_, _, _, hv⟩
                    have hnr := hg.nr d hn
                    have hget : ∀ i, i ≠ d → i ≠ k → ((st.L.set k (some (true, .dead))).set d (some (true, .row e' (nadd n m) (cat xs news))))[i]? = st.L[i]? := by
                      intro i h1 h2
                      rw [List.getElem?_set_ne (Ne.symm h1), List.getElem?_set_ne (Ne.symm h2)]
                    have hgetk : ((st.L.set k (some (true, LObj.dead))).set d (some (true, .row e' (nadd n m) (cat xs news))))[k]? = some (some (true, .dead)) := by
                      rw [List.getElem?_set_ne (Ne.symm hkd), set_get hlk]
                    have hgood : Good P w0 H0 { st with L := (st.L.set k (some (true, .dead))).set d (some (true, .row e' (nadd n m) (cat xs news))) } a w' ρ (upd σ d v') := by
                      refine Good.step hg _ d (.row e' (nadd n m) (cat xs news)) (σ k).ownBlock (set_get (by simpa using hlt)) (fun i hi => ?_) (.inr ⟨hnr, fun _ _ => rfl, fun i hi => upd_ne _ _ hi⟩) r3 (fun g hgk => (hg.blk_lt hL hgk).2) (fun g hgk => hg.noOpen hL hgk) (fun i f o g hi h hb2 hgk => ?_) ?_ ?_ (fun _ _ _ _ hh => hh) ?_
                      · by_cases hik : i = k
                        · subst hik; exact .inr hgetk
                        · exact .inl (hget i hi hik)
                      · by_cases hik : i = k
                        · subst hik
                          rw [hgetk] at h
                          simp at h
                          obtain ⟨_, rfl⟩ := h
                          simp [blk] at hb2
                        · rw [hget i hi hik] at h
                          exact hg.sep i k f true o _ g hik h hL hb2 hgk
                      · simp only [ObjOK, upd_same]
                        refine ⟨r2, fun x hx => ?_, fun g hgv o => ?_⟩
                        · rcases List.mem_append.1 hx with hx | hx
                          · exact hx1 x hx
                          · exact h1 x hx
                        · rcases r4 with r4 | r4
                          · rw [r4] at hgv; exact hfree g hgv o
                          · rw [r4] at hgv
                            simp at hgv; subst hgv
                            cases hh : st.H w.heap.size o with
                            | none => rfl
                            | some z => exact absurd (hg.H_lt hh) (Nat.lt_irrefl _)
                      · intro g hgv
                        simp only [blk, upd_same] at hgv
                        rcases r4 with r4 | r4
                        · right; rw [← r4]; exact hgv
                        · left; rw [r4] at hgv; simp at hgv; omega
                      · intro i
                        by_cases hid : i = d
                        · subst hid; rw [upd_same]; exact hform
                        · rw [upd_ne _ _ hid]; exact hg.sl i
                    refine ⟨v', w', _, ρ, upd σ d v', by rw [es, eu]; exact r1, hK, ?_, ?_, Goes.of (ch := (σ k).ownBlock) hg (fun i => ?_) (fun _ _ => rfl) r3 (fun g hgk => ⟨k, _, _, _, _, hL, hgk⟩)⟩
                    rotate_right
                    · by_cases hid : i = d
                      · subst hid; exact .inr (.inl hn)
                      · by_cases hik : i = k
                        · subst hik; exact .inr (.inr ⟨_, _, _, _, hL⟩)
                        · exact .inl (hget i hid hik)
                    · have k1 : Keeps [d] st (Vc.setL st k .dead) := (Keeps.setL_w hW).mono (by simp)
                      have k2 : Keeps [d] (Vc.setL st k .dead) (Vc.setL (Vc.setL st k .dead) d (.row e' (nadd n m) (cat xs news))) := by
                        refine (Keeps.setL fun o' hh => ?_).mono (by simp)
                        rw [setL_keeps_other (Ne.symm hkd), hn] at hh
                        simp at hh
                      exact (k1.trans k2).trans (Keeps.setS _ (some d) _)
                    · refine Good.setS hgood (some d) ?_ ?_
                      · simp only [SV.rel, S1.rel, upd_same]
                      · intro d' hd' hh
                        have hh' : d = d' := hh
                        subst hh'
                        simp only at hd'
                        rw [set_get (by simpa using hlt)] at hd'
                        simp at hd'
                  · exact h.elim
                · exact h.elim
              · exact h.elim
          · exact h.elim
      · exact h.elim
end
end Go.Vc
