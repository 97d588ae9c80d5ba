/- How data of plain Lean types lie in cells: public slices, rows of the call's own. -/
import Derived.Test.YtkfbbnagniolcaaVcB
set_option linter.unusedSectionVars false
set_option linter.unusedSimpArgs false
set_option linter.unusedVariables false
namespace Go.Vc
open Go

theorem hle_refl (H : Heap) : Heap.le H H := fun _ _ _ h => h
theorem hle_trans {A B C : Heap} (h : Heap.le A B) (k : Heap.le B C) : Heap.le A C := fun _ _ _ x => k _ _ _ (h _ _ _ x)
theorem Cells.mono {H H' : Heap} {A : Option Addr} {j : Nat} {cs : List Value} (hle : Heap.le H H') (h : Cells H A j cs) : Cells H' A j cs := by
  rcases h with h | ⟨b, o, h1, h2⟩
  · exact .inl h
  · exact .inr ⟨b, o, h1, fun t v hv => ⟨hle _ _ _ (h2 t v hv).1, (h2 t v hv).2⟩⟩
/- a part of cells -/
theorem Cells.part {H : Heap} {A : Option Addr} {j : Nat} {xs ys zs : List Value} (h : Cells H A j (xs ++ ys ++ zs)) : Cells H A (j + xs.length) ys := by
  rcases h with h | ⟨b, o, h1, h2⟩
  · left; simp at h; exact h.2.1
  · refine .inr ⟨b, o, h1, fun t v hv => ?_⟩
    have := h2 (xs.length + t) v (by rw [List.append_assoc, List.getElem?_append_right (by omega)]; simp; rw [List.getElem?_append_left (by have := (List.getElem?_eq_some_iff.1 hv).1; exact this)]; exact hv)
    rw [show o + (j + xs.length) + t = o + j + (xs.length + t) by omega]; exact this
theorem Cells.someA {H : Heap} {A : Option Addr} {j : Nat} {xs : List Value} (h : Cells H A j xs) (hx : xs ≠ []) : someA A := by
  rcases h with h | ⟨b, o, h1, _⟩
  · exact (hx h).elim
  · exact ⟨b, o, h1⟩
theorem Cells.shift {H : Heap} {A : Option Addr} {j k : Nat} {xs : List Value} (h : Cells H A (j + k) xs) : Cells H (A.map (·.add k)) j xs := by
  rcases h with h | ⟨b, o, rfl, h2⟩
  · exact .inl h
  · refine .inr ⟨b, o + k, by simp [Addr.add], fun t v hv => ?_⟩
    have := h2 t v hv
    rw [show o + k + j + t = o + (j + k) + t by omega]; exact this

/- a type whose values lie in 'sz' cells (and 'by' bytes) -/
class Rep (T : Type) where
  sz : Nat
  byt : Nat
  rel : Heap → List Value → T → Prop
  mono : ∀ {H H' : Heap} {vs : List Value} {t : T}, Heap.le H H' → rel H vs t → rel H' vs t
  len : ∀ {H : Heap} {vs : List Value} {t : T}, rel H vs t → vs.length = sz
  pos : 0 < sz
  bpos : 0 < byt
  one : ∀ {H : Heap} {vs : List Value} {t : T}, rel H vs t → ∀ v ∈ vs, v.oneCell' = true

section
variable {T : Type} [Rep T]
/- a public slice -/
structure Sl (H : Heap) (A : Option Addr) (n c : Nat) (l : List T) : Prop where
  len : l.length = n
  cap : n ≤ c
  bnd : n * Rep.byt T ≤ 140737488355328
  bn : n ≤ 140737488355328
  get : ∀ i (h : i < l.length), ∃ vs, Cells H A (i * Rep.sz T) vs ∧ Rep.rel H vs l[i]
theorem Sl.mono {H H' : Heap} {A : Option Addr} {n c : Nat} {l : List T} (hle : Heap.le H H') (h : Sl H A n c l) : Sl H' A n c l :=
  ⟨h.len, h.cap, h.bnd, h.bn, fun i hi => let ⟨vs, h1, h2⟩ := h.get i hi; ⟨vs, h1.mono hle, Rep.mono hle h2⟩⟩
theorem Sl.nil {H : Heap} {A : Option Addr} {c : Nat} : Sl (T := T) H A 0 c [] := ⟨rfl, Nat.zero_le _, by simp, by simp, fun i h => by simp at h⟩
theorem Sl.someA {H : Heap} {A : Option Addr} {n c : Nat} {l : List T} (h : Sl H A n c l) (hn : 0 < n) : someA A := by
  obtain ⟨vs, h1, h2⟩ := h.get 0 (by have := h.len; omega)
  exact h1.someA (fun e => by have := Rep.len h2; have := Rep.pos (T := T); rw [e] at *; simp at *; omega)
/- reading at an Int index in a grown heap -/
theorem Sl.at {H H' : Heap} {A : Option Addr} {n c : Nat} {l : List T} (h : Sl H A n c l) (hle : Heap.le H H') {i : Int} (h0 : 0 ≤ i) (h1 : i < n) :
    ∃ (hi : i.toNat < l.length), Vc.someA A ∧ ∃ vs, Cells H' A (i.toNat * Rep.sz T) vs ∧ Rep.rel H' vs l[i.toNat] := by
  have hi : i.toNat < l.length := by have := h.len; omega
  obtain ⟨vs, k1, k2⟩ := h.get _ hi
  exact ⟨hi, h.someA (by omega), vs, k1.mono hle, Rep.mono hle k2⟩

/- cells of a row -/
def Row (H : Heap) : List Value → List T → Prop
  | xs, [] => xs = []
  | xs, t :: l => ∃ vs ys, xs = vs ++ ys ∧ Rep.rel H vs t ∧ Row H ys l
theorem Row.mono {H H' : Heap} (hle : Heap.le H H') : ∀ {xs : List Value} {l : List T}, Row H xs l → Row H' xs l
  | _, [], h => h
  | _, _ :: _, ⟨vs, ys, h1, h2, h3⟩ => ⟨vs, ys, h1, Rep.mono hle h2, h3.mono hle⟩
theorem Row.length {H : Heap} : ∀ {xs : List Value} {l : List T}, Row H xs l → xs.length = l.length * Rep.sz T
  | _, [], h => by simp [show _ = [] from h]
  | _, _ :: l, ⟨vs, ys, h1, h2, h3⟩ => by rw [h1, List.length_append, h3.length, Rep.len h2, List.length_cons, Nat.succ_mul]; omega
theorem Row.append {H : Heap} : ∀ {xs ys : List Value} {l m : List T}, Row H xs l → Row H ys m → Row H (xs ++ ys) (l ++ m)
  | _, _, [], _, h, k => by rw [show _ = [] from h]; exact k
  | _, ys, _ :: _, m, ⟨vs, zs, h1, h2, h3⟩, k => ⟨vs, zs ++ ys, by rw [h1, List.append_assoc], h2, h3.append k⟩
theorem Row.one {H : Heap} {vs : List Value} {t : T} (h : Rep.rel H vs t) : Row H vs [t] := ⟨vs, [], by simp, h, rfl⟩
theorem Row.parts {H : Heap} : ∀ {xs : List Value} {l : List T} {i : Nat}, Row H xs l → (h : i < l.length) → ∃ as vs bs, xs = as ++ vs ++ bs ∧ as.length = i * Rep.sz T ∧ Rep.rel H vs l[i] ∧
    (∀ {us : List Value} {t : T}, Rep.rel H us t → Row H (as ++ us ++ bs) (l.set i t))
  | _, t :: l, 0, ⟨vs, ys, h1, h2, h3⟩, _ => ⟨[], vs, ys, by simpa using h1, by simp, h2, fun {us t} k => by simpa using (Row.one k).append h3⟩
  | _, t :: l, i + 1, ⟨vs, ys, h1, h2, h3⟩, h => by
    obtain ⟨as, us, bs, k1, k2, k3, k4⟩ := h3.parts (i := i) (by simpa using h)
    refine ⟨vs ++ as, us, bs, by rw [h1, k1]; simp, by rw [List.length_append, k2, Rep.len h2, Nat.succ_mul]; omega, by simpa using k3, fun {ws t'} k => ?_⟩
    have := k4 k
    simp only [List.set_cons_succ, List.append_assoc]
    refine ⟨vs, _, by simp; rfl, h2, ?_⟩
    simpa using this
theorem Row.getw {H : Heap} {xs : List Value} {l : List T} {i : Nat} (h : Row H xs l) (hi : i < l.length) : Rep.rel H (win xs (i * Rep.sz T) (Rep.sz T)) l[i] := by
  obtain ⟨as, vs, bs, h1, h2, h3, _⟩ := h.parts hi
  have : win xs (i * Rep.sz T) (Rep.sz T) = vs := by
    unfold Vc.win; rw [h1, ← h2, List.append_assoc, List.drop_left, ← Rep.len h3, List.take_left]
  rw [this]; exact h3
theorem Row.setw {H : Heap} {xs : List Value} {l : List T} {i : Nat} (h : Row H xs l) (hi : i < l.length) {us : List Value} {t : T} (hu : Rep.rel H us t) : Row H (splice xs (i * Rep.sz T) us) (l.set i t) := by
  obtain ⟨as, vs, bs, h1, h2, h3, h4⟩ := h.parts hi
  have : splice xs (i * Rep.sz T) us = as ++ us ++ bs := by
    have e : us.length = vs.length := (Rep.len hu).trans (Rep.len h3).symm
    unfold Vc.splice; rw [h1, ← h2, e, ← List.drop_drop, List.append_assoc as vs bs, List.take_left, List.drop_left, List.drop_left]
  rw [this]; exact h4 hu
theorem Row.getf {H : Heap} {xs : List Value} {l : List T} {i : Nat} (h : Row H xs l) (hi : i < l.length) : ∃ vs, Rep.rel H vs l[i] ∧ (∀ k m, k + m ≤ Rep.sz T → Vc.win xs (i * Rep.sz T + k) m = (vs.drop k).take m) ∧
    (∀ k us t, k + us.length ≤ Rep.sz T → Rep.rel H (vs.take k ++ us ++ vs.drop (k + us.length)) t → Row H (Vc.splice xs (i * Rep.sz T + k) us) (l.set i t)) := by
  obtain ⟨as, vs, bs, h1, h2, h3, h4⟩ := h.parts hi
  have hl := Rep.len h3
  refine ⟨vs, h3, fun k m hk => ?_, fun k us t hk hr => ?_⟩
  · unfold Vc.win
    rw [h1, ← h2, List.append_assoc, ← List.drop_drop, List.drop_left, List.drop_append_of_le_length (by omega), List.take_append_of_le_length (by simp; omega)]
  · have : Vc.splice xs (i * Rep.sz T + k) us = as ++ (vs.take k ++ us ++ vs.drop (k + us.length)) ++ bs := by
      unfold Vc.splice
      rw [h1, ← h2, List.append_assoc as vs bs, List.take_append, List.take_of_length_le (by omega), Nat.add_sub_cancel_left, List.take_append_of_le_length (by omega), Nat.add_assoc, ← List.drop_drop, List.drop_left,
        List.drop_append_of_le_length (by omega)]
      simp [List.append_assoc]
    rw [this]; exact h4 hr
theorem Row.zeros {H : Heap} {z : List Value} {t : T} (hz : Rep.rel H z t) : ∀ n, Row H (Vc.repl z n) (List.replicate n t)
  | 0 => rfl
  | n + 1 => ⟨z, Vc.repl z n, rfl, hz, Row.zeros hz n⟩
/- a row that is made public -/
theorem Row.sl {H H' : Heap} {A : Option Addr} {n c : Nat} {xs : List Value} {l : List T} (h : Row H xs l) (hle : Heap.le H H') (hc : Cells H' A 0 xs) (hl : l.length = n) (hn : n ≤ c)
    (hb : n * Rep.byt T ≤ 140737488355328) (hb2 : n ≤ 140737488355328) : Sl H' A n c l := by
  refine ⟨hl, hn, hb, hb2, fun i hi => ?_⟩
  obtain ⟨as, vs, bs, h1, h2, h3, _⟩ := h.parts hi
  rw [h1] at hc
  have := hc.part
  rw [h2, Nat.zero_add] at this
  exact ⟨vs, this, Rep.mono hle h3⟩
/- the cells of a public slice, all of them -/
theorem Sl.row {H : Heap} {A : Option Addr} {n c : Nat} {l : List T} (h : Sl H A n c l) : ∃ ys, Cells H A 0 ys ∧ Row H ys l := by
  have key : ∀ (k : Nat) (m : List T), (∀ i (hi : i < m.length), ∃ vs, Cells H A (k + i * Rep.sz T) vs ∧ Rep.rel H vs m[i]) → ∃ ys, Cells H A k ys ∧ Row H ys m := by
    intro k m
    induction m generalizing k with
    | nil => exact fun _ => ⟨[], .inl rfl, rfl⟩
    | cons t m ih =>
      intro hm
      obtain ⟨vs, h1, h2⟩ := hm 0 (by simp)
      obtain ⟨ys, h3, h4⟩ := ih (k + Rep.sz T) (fun i hi => by
        obtain ⟨vs, a, b⟩ := hm (i + 1) (by simpa using hi)
        exact ⟨vs, by rw [Nat.succ_mul] at a; rw [show k + Rep.sz T + i * Rep.sz T = k + (i * Rep.sz T + Rep.sz T) by omega]; exact a, by simpa using b⟩)
      refine ⟨vs ++ ys, ?_, vs, ys, rfl, h2, h4⟩
      have hlen := Rep.len h2
      rcases h1 with rfl | ⟨b, o, e1, e2⟩
      · have := Rep.pos (T := T); simp at hlen; omega
      · refine .inr ⟨b, o, e1, fun t v hv => ?_⟩
        by_cases ht : t < vs.length
        · rw [List.getElem?_append_left ht] at hv
          have := e2 t v hv
          simpa using this
        · rw [List.getElem?_append_right (by omega)] at hv
          rcases h3 with rfl | ⟨b', o', e1', e2'⟩
          · simp at hv
          · rw [e1] at e1'; cases e1'
            have := e2' _ _ hv
            rw [show o + k + t = o + (k + Rep.sz T) + (t - vs.length) by omega]; exact this
  exact key 0 l (fun i hi => by simpa using h.get i hi)
theorem Sl.drop {H : Heap} {A : Option Addr} {n c : Nat} {l : List T} (h : Sl H A n c l) {k : Nat} (hk : k ≤ n) : Sl H (subA A c k (Rep.sz T)) (n - k) (c - k) (l.drop k) := by
  refine ⟨by simp [h.len], by have := h.cap; omega, Nat.le_trans (Nat.mul_le_mul_right _ (Nat.sub_le _ _)) h.bnd, by have := h.bn; omega, fun i hi => ?_⟩
  simp at hi
  obtain ⟨vs, h1, h2⟩ := h.get (k + i) (by omega)
  refine ⟨vs, ?_, by simpa using h2⟩
  unfold subA
  split
  · have := h.cap; have := h.len; omega
  · rw [show (k + i) * Rep.sz T = i * Rep.sz T + k * Rep.sz T by rw [Nat.add_mul]; omega] at h1
    exact h1.shift
theorem Sl.take {H : Heap} {A : Option Addr} {n c : Nat} {l : List T} (h : Sl H A n c l) {k : Nat} (hk : k ≤ n) : Sl H A k c (l.take k) := by
  refine ⟨by simp [h.len]; omega, by have := h.cap; omega, Nat.le_trans (Nat.mul_le_mul_right _ hk) h.bnd, by have := h.bn; omega, fun i hi => ?_⟩
  obtain ⟨vs, h1, h2⟩ := h.get i (by simp at hi; omega)
  exact ⟨vs, h1, by simpa using h2⟩
theorem Sl.sub {H : Heap} {A : Option Addr} {n c : Nat} {l : List T} (h : Sl H A n c l) {j k : Nat} (hj : j ≤ k) (hk : k ≤ n) : Sl H (subA A c j (Rep.sz T)) (k - j) (c - j) ((l.take k).drop j) :=
  (h.take hk).drop hj
end


theorem Cells.at1 {H : Heap} {A : Option Addr} {j k : Nat} {cs : List Value} {v : Value} (h : Cells H A j cs) (hv : cs[k]? = some v) : Cells H A (j + k) [v] := by
  obtain ⟨hk, e⟩ := List.getElem?_eq_some_iff.1 hv
  have : cs = cs.take k ++ [v] ++ cs.drop (k + 1) := by
    rw [← e, List.append_assoc]; simp
  rw [this] at h
  have := h.part
  rwa [List.length_take, Nat.min_eq_left (by omega)] at this
theorem Cells.at2 {H : Heap} {A : Option Addr} {j k : Nat} {cs : List Value} {u v : Value} (h : Cells H A j cs) (hu : cs[k]? = some u) (hv : cs[k + 1]? = some v) : Cells H A (j + k) [u, v] := by
  obtain ⟨hk, e⟩ := List.getElem?_eq_some_iff.1 hu
  obtain ⟨hk', e'⟩ := List.getElem?_eq_some_iff.1 hv
  have : cs = cs.take k ++ [u, v] ++ cs.drop (k + 2) := by
    rw [← e, ← e', List.append_assoc]; simp
  rw [this] at h
  have := h.part
  rwa [List.length_take, Nat.min_eq_left (by omega)] at this
theorem drop_at {T : Type} {l : List T} {i : Int} (h0 : 0 ≤ i) (hi : i.toNat < l.length) : l.drop i.toNat = l[i.toNat] :: l.drop (i + 1).toNat := by
  rw [List.drop_eq_getElem_cons hi]; congr 1; congr 1; omega
theorem drop_end {T : Type} {l : List T} {i : Int} {n : Nat} (h : ¬ i < n) (hl : l.length = n) : l.drop i.toNat = [] := List.drop_eq_nil_of_le (by omega)
abbrev shB : RSh := ⟨false, [(false, [.bool])]⟩
abbrev shI : RSh := ⟨false, [(false, [.int .i64])]⟩
abbrev shS : RSh := ⟨false, [(false, [.sl])]⟩
instance : Rep Int where
  sz := 1
  byt := 8
  rel _ vs n := vs = [.int .i64 n] ∧ rng .i64 n
  mono _ h := h
  len h := by simp [h.1]
  pos := by decide
  bpos := by decide
  one h := by rw [h.1]; simp [Value.oneCell']
instance : Rep Bool where
  sz := 1
  byt := 1
  rel _ vs n := vs = [.bool n]
  mono _ h := h
  len h := by simp [h]
  pos := by decide
  bpos := by decide
  one h := by rw [h]; simp [Value.oneCell']
instance : Rep ByteArray where
  sz := 1
  byt := 16
  rel _ vs s := vs = [.string s] ∧ s.size ≤ 140737488355328
  mono _ h := h
  len h := by simp [h.1]
  pos := by decide
  bpos := by decide
  one h := by rw [h.1]; simp [Value.oneCell']
instance {T : Type} [Rep T] : Rep (List T) where
  sz := 1
  byt := 24
  rel H vs l := ∃ A n c, vs = [.slice A n c] ∧ Sl H A n c l
  mono := fun hle ⟨A, n, c, h1, h2⟩ => ⟨A, n, c, h1, h2.mono hle⟩
  len := fun ⟨A, n, c, h1, h2⟩ => by simp [h1]
  pos := by decide
  bpos := by decide
  one := fun ⟨A, n, c, h1, h2⟩ => by rw [h1]; simp [Value.oneCell']
end Go.Vc
