/- The engine, fifth part: cells read and written. No condition. -/
import Derived.Test.YtjpeblicfhfniaaDoorEngD
namespace Go.Proofs.YtjpeblicfhfniaaDoor.Eng
open Go.RowKit
set_option linter.unusedVariables false
set_option linter.unusedSimpArgs false

def splice (l : List Value) (o : Nat) (vs : List Value) : List Value := l.take o ++ vs ++ l.drop (o + vs.length)
theorem seg_get (l : List Value) (o n i : Nat) : (seg l o n)[i]? = if i < n then l[o + i]? else none := by
  unfold seg; rw [List.getElem?_take]; split
  · rw [List.getElem?_drop]
  · rfl
theorem seg_len {l : List Value} {o n : Nat} (h : o + n ≤ l.length) : (seg l o n).length = n := by unfold seg; simp; omega
theorem splice_get {l : List Value} {o : Nat} {vs : List Value} (h : o + vs.length ≤ l.length) (i : Nat) : (splice l o vs)[i]? = if i < o then l[i]? else if i < o + vs.length then vs[i - o]? else l[i]? := by
  have e1 : (l.take o ++ vs).length = o + vs.length := by simp; omega
  have e0 : (l.take o).length = o := by simp; omega
  unfold splice
  by_cases h1 : i < o
  · rw [if_pos h1, List.append_assoc, List.getElem?_append_left (by rw [e0]; exact h1), List.getElem?_take, if_pos h1]
  · rw [if_neg h1]
    by_cases h2 : i < o + vs.length
    · rw [if_pos h2, List.getElem?_append_left (by rw [e1]; exact h2), List.getElem?_append_right (by rw [e0]; omega), e0]
    · rw [if_neg h2, List.getElem?_append_right (by rw [e1]; omega), e1, List.getElem?_drop]
      congr 1; omega
theorem splice_len {l : List Value} {o : Nat} {vs : List Value} (h : o + vs.length ≤ l.length) : (splice l o vs).length = l.length := by unfold splice; simp; omega
theorem seg_splice_in {l : List Value} {o d n : Nat} {vs : List Value} (h1 : d + vs.length ≤ n) (h2 : o + n ≤ l.length) : seg (splice l (o + d) vs) o n = splice (seg l o n) d vs := by
  apply List.ext_getElem?; intro i
  rw [seg_get, splice_get (by omega), splice_get (by rw [seg_len h2]; exact h1), seg_get]
  by_cases hi : i < n
  · simp only [hi, if_true]
    by_cases a : i < d
    · rw [if_pos (by omega), if_pos a]
    · rw [if_neg (by omega), if_neg a]
      by_cases b : i < d + vs.length
      · rw [if_pos (by omega), if_pos b]; congr 1; omega
      · rw [if_neg (by omega), if_neg b]
  · simp only [hi, if_false]
    rw [if_neg (by omega), if_neg (by omega)]
theorem seg_splice_out {l : List Value} {o k n : Nat} {vs : List Value} (h1 : o + n ≤ k ∨ k + vs.length ≤ o) (h2 : k + vs.length ≤ l.length) : seg (splice l k vs) o n = seg l o n := by
  apply List.ext_getElem?; intro i
  rw [seg_get, seg_get, splice_get h2]
  split
  · rcases h1 with h1 | h1
    · rw [if_pos (by omega)]
    · rw [if_neg (by omega), if_neg (by omega)]
  · rfl
theorem seg_seg {l : List Value} {o n d m : Nat} (h : d + m ≤ n) : seg (seg l o n) d m = seg l (o + d) m := by
  apply List.ext_getElem?; intro i
  rw [seg_get, seg_get, seg_get]
  by_cases hi : i < m
  · rw [if_pos hi, if_pos hi, if_pos (by omega)]; congr 1; omega
  · rw [if_neg hi, if_neg hi]
theorem seg_self (l : List Value) : seg l 0 l.length = l := by unfold seg; simp
theorem seg_left {a b : List Value} {o n : Nat} (h : o + n ≤ a.length) : seg (a ++ b) o n = seg a o n := by
  apply List.ext_getElem?; intro i
  rw [seg_get, seg_get]; split
  · rw [List.getElem?_append_left (by omega)]
  · rfl
theorem seg_right {a b : List Value} {o n : Nat} : seg (a ++ b) (a.length + o) n = seg b o n := by
  apply List.ext_getElem?; intro i
  rw [seg_get, seg_get]; split
  · rw [List.getElem?_append_right (by omega)]; congr 1; omega
  · rfl
theorem splice_left {a b vs : List Value} {o : Nat} (h : o + vs.length ≤ a.length) : splice (a ++ b) o vs = splice a o vs ++ b := by
  unfold splice
  rw [List.take_append_of_le_length (by omega), List.drop_append_of_le_length (by omega)]; simp
theorem splice_right {a b vs : List Value} {o : Nat} : splice (a ++ b) (a.length + o) vs = a ++ splice b o vs := by
  unfold splice
  rw [List.take_append, List.drop_append]
  simp [List.take_of_length_le, Nat.add_assoc]

/-! ### running -/
section
variable {P : Program} {w : World}
theorem add_none (b o n : Nat) : Addr.add ⟨b, o, none⟩ n = ⟨b, o + n, none⟩ := by unfold Addr.add; split <;> simp_all
theorem cell_at {b o : Nat} {arr : Array Value} {ty : TypeId} {fz : Nat × Nat} (hb : w.heap[b]? = some (.cells arr ty fz)) : w.cell? ⟨b, o, none⟩ = arr[o]? := by
  unfold World.cell?; rw [hb]; rfl
theorem run_load {α : Type} {a : Addr} {v : Value} {k : Value → Sem α} (h : w.cell? a = some v) : (Sem.load .plain a k).run P w = (k v).run P w := by
  simp only [Sem.run, h]
theorem run_bind_ok {α γ : Type} {s : Sem α} {k : α → Sem γ} {x : α} {w' : World} (h : s.run P w = .ok x w') : (s.bind k).run P w = (k x).run P w' := by
  induction s generalizing w with
  | pure a => simp only [Sem.run, Result.ok.injEq] at h; obtain ⟨rfl, rfl⟩ := h; rfl
  | load m a k' ih =>
    simp only [Sem.bind, Sem.run] at h ⊢
    split at h
    · exact ih _ h
    · split at h
      · exact ih _ h
      · cases h
  | store m a v k' ih =>
    cases v <;> simp only [Sem.bind, Sem.run] at h ⊢ <;> (first | (cases h; done) | skip) <;> (split at h) <;> (try (split at h)) <;> (first | (cases h; done) | (simp_all; done) | exact ih h)
  | new o k' ih => simp only [Sem.bind, Sem.run] at h ⊢; exact ih _ h
  | shape r k' ih => simp only [Sem.bind, Sem.run] at h ⊢; exact ih _ h
  | freeze a n k' ih => simp only [Sem.bind, Sem.run] at h ⊢; exact ih h
  | frozen a k' ih => simp only [Sem.bind, Sem.run] at h ⊢; exact ih _ h
  | getObj r k' ih =>
    simp only [Sem.bind, Sem.run] at h ⊢
    split at h <;> first | (cases h; done) | exact ih _ h
  | setObj r o k' ih =>
    simp only [Sem.bind, Sem.run] at h ⊢
    split at h <;> first | (cases h; done) | exact ih h
  | choose q k' ih =>
    simp only [Sem.bind, Sem.run] at h ⊢
    split at h <;> rename_i hq
    · rw [if_pos hq]; exact ih _ h
    · rw [if_neg hq]; exact ih _ h
  | sys c k' ih => simp only [Sem.bind, Sem.run] at h ⊢; exact ih _ h
  | program k' ih => simp only [Sem.bind, Sem.run] at h ⊢; exact ih _ h
  | mark m k' ih => simp only [Sem.bind, Sem.run] at h ⊢; exact ih h
  | halt x => simp only [Sem.run] at h; cases h
theorem run_bind {α γ : Type} {s : Sem α} {k : α → Sem γ} {x : α} {w' : World} (h : s.run P w = .ok x w') : (s >>= k).run P w = (k x).run P w' := run_bind_ok h
theorem run_info {τ : Ty} {t : TypeId} (h : InfoOk P τ t) : ∃ i, (typeInfo t).run P w = .ok i w ∧ i.size = τ.sz ∧ i.zero = some (valOf τ.agg τ.zc) ∧ 0 < i.bytes ∧ i.bytes ≤ 1024 := by
  obtain ⟨i, h1, h2⟩ := h
  exact ⟨i, by simp only [typeInfo, program, bind, Sem.bind, Sem.run, h1, pure], h2⟩
theorem run_size {τ : Ty} {t : TypeId} (h : InfoOk P τ t) : (sizeOf t).run P w = .ok τ.sz w := by
  obtain ⟨i, h1, h2, _⟩ := run_info (w := w) h
  unfold sizeOf; rw [run_bind h1, ← h2]; rfl
theorem run_zero {τ : Ty} {t : TypeId} (h : InfoOk P τ t) : (zeroValue t).run P w = .ok (valOf τ.agg τ.zc) w := by
  obtain ⟨i, h1, _, h2, _⟩ := run_info (w := w) h
  unfold zeroValue; rw [run_bind h1, h2]; rfl
theorem run_under {t : TypeId} {d : TypeDesc} (h : P.underlying t = some d) : (underlying t).run P w = .ok d w := by
  simp only [underlying, program, bind, Sem.bind, Sem.run, h, pure]
theorem run_loadCellsFrom {b o : Nat} {arr : Array Value} {ty : TypeId} {fz : Nat × Nat} (hb : w.heap[b]? = some (.cells arr ty fz)) :
    ∀ (n i : Nat) (acc : Array Value), o + i + n ≤ arr.size → (loadCellsFrom ⟨b, o, none⟩ i n acc).run P w = .ok (acc ++ (seg arr.toList (o + i) n).toArray) w
  | 0, i, acc, _ => by simp [loadCellsFrom, seg, pure, Sem.run]
  | n + 1, i, acc, h => by
    have hi : o + i < arr.size := by omega
    have hc : w.cell? (Addr.add ⟨b, o, none⟩ i) = some arr[o + i] := by rw [add_none, cell_at hb, Array.getElem?_eq_getElem hi]
    have e : seg arr.toList (o + i) (n + 1) = arr[o + i] :: seg arr.toList (o + (i + 1)) n := by
      unfold seg
      rw [List.drop_eq_getElem_cons (by simpa using hi)]
      simp [Nat.add_assoc]
    unfold loadCellsFrom load
    show (Sem.bind _ _).run P w = _
    simp only [Sem.bind]
    rw [run_load hc]
    rw [run_loadCellsFrom hb n (i + 1) _ (by omega), e]
    simp
theorem run_loadVar {τ : Ty} {t : TypeId} (ht : TyOk P τ t) {b o : Nat} {arr : Array Value} {ty : TypeId} {fz : Nat × Nat} (hb : w.heap[b]? = some (.cells arr ty fz)) (h : o + τ.sz ≤ arr.size) :
    (loadVar t ⟨b, o, none⟩).run P w = .ok (valOf τ.agg (seg arr.toList o τ.sz)) w := by
  unfold loadVar
  rw [run_bind ht.agg]
  cases ha : τ.agg with
  | true =>
    simp only [if_true]
    show (Sem.bind _ _).run P w = _
    rw [run_bind_ok (run_size ht.info)]
    show (Sem.bind _ _).run P w = _
    unfold loadCells
    rw [run_bind_ok (run_loadCellsFrom hb τ.sz 0 #[] (by omega))]
    simp [valOf, pure, Sem.run]
  | false =>
    have hs : τ.sz = 1 := by cases τ <;> first | rfl | cases ha
    have hi : o < arr.size := by omega
    simp only [Bool.false_eq_true, if_false]
    unfold load
    rw [run_load (v := arr[o]) (by rw [cell_at hb, Array.getElem?_eq_getElem hi])]
    simp [Sem.run, valOf, hs, seg, List.drop_eq_getElem_cons, hi]
def upd (w : World) (b : Nat) (o : Obj) : World := { w with heap := w.heap.setIfInBounds b o }
theorem upd_get {b : Nat} {o o' : Obj} (hb : w.heap[b]? = some o') : (upd w b o).heap[b]? = some o := by
  have : b < w.heap.size := (Array.getElem?_eq_some_iff.1 hb).1
  simp [upd, this]
theorem upd_ne {b k : Nat} {o : Obj} (h : k ≠ b) : (upd w b o).heap[k]? = w.heap[k]? := by simp [upd, Array.getElem?_setIfInBounds_ne (Ne.symm h)]
theorem upd_upd {b : Nat} {o o' : Obj} : upd (upd w b o) b o' = upd w b o' := by simp [upd]
theorem upd_size {b : Nat} {o : Obj} : (upd w b o).heap.size = w.heap.size := by simp [upd]
theorem setCell_upd {b o : Nat} {arr : Array Value} {ty : TypeId} {fz : Nat × Nat} {v : Value} (hb : w.heap[b]? = some (.cells arr ty fz)) : w.setCell ⟨b, o, none⟩ v = upd w b (.cells (arr.setIfInBounds o v) ty fz) := by
  have hlt : b < w.heap.size := (Array.getElem?_eq_some_iff.1 hb).1
  have he : w.heap[b] = .cells arr ty fz := (Array.getElem?_eq_some_iff.1 hb).2
  unfold World.setCell upd
  congr 1
  apply Array.ext_getElem?
  intro i
  rw [Array.getElem?_modify, Array.getElem?_setIfInBounds]
  by_cases hi : b = i
  · subst hi; simp [hlt, he]
  · simp [hi]
theorem run_storeCells {b : Nat} {ty : TypeId} : ∀ (vs : List Value) (o i : Nat) (arr : Array Value) (w : World), w.heap[b]? = some (.cells arr ty (0, 0)) → (∀ v ∈ vs, one v = true) → o + i + vs.length ≤ arr.size →
    (storeCells ⟨b, o, none⟩ vs i).run P w = .ok () (upd w b (.cells (splice arr.toList (o + i) vs).toArray ty (0, 0)))
  | [], o, i, arr, w, hb, _, h => by
    have : upd w b (.cells (splice arr.toList (o + i) []).toArray ty (0, 0)) = w := by
      have hlt : b < w.heap.size := (Array.getElem?_eq_some_iff.1 hb).1
      have he : w.heap[b] = .cells arr ty (0, 0) := (Array.getElem?_eq_some_iff.1 hb).2
      unfold upd splice
      simp only [List.append_nil, List.length_nil, Nat.add_zero, List.take_append_drop, Array.toArray_toList]
      rw [← he, Array.setIfInBounds]; simp [hlt]
    rw [this]; rfl
  | v :: vs, o, i, arr, w, hb, hv, h => by
    simp only [List.length_cons] at h
    have hi : o + i < arr.size := by omega
    have hc : w.cell? (Addr.add ⟨b, o, none⟩ i) = some arr[o + i] := by rw [add_none, cell_at hb, Array.getElem?_eq_getElem hi]
    have hf : w.frozen? (Addr.add ⟨b, o, none⟩ i) = false := by
      rw [add_none]; unfold World.frozen?; rw [hb]; simp
    have h1 : (store (Addr.add ⟨b, o, none⟩ i) v).run P w = .ok () (w.setCell (Addr.add ⟨b, o, none⟩ i) v) := by
      have hv1 := hv v (by simp)
      unfold store
      cases v <;> simp only [Sem.run, hc, hf, Bool.false_eq_true, if_false] <;> simp [one] at hv1
    unfold storeCells
    rw [run_bind h1, add_none, setCell_upd hb]
    rw [run_storeCells vs o (i + 1) _ _ (upd_get hb) (fun u hu => hv u (by simp [hu])) (by simp; omega), upd_upd]
    have key : splice (arr.setIfInBounds (o + i) v).toList (o + (i + 1)) vs = splice arr.toList (o + i) (v :: vs) := by
      apply List.ext_getElem?
      intro k
      rw [splice_get (by simp; omega), splice_get (by simp; omega)]
      simp only [Array.toList_setIfInBounds, List.length_cons, List.getElem?_set]
      by_cases h1 : k < o + i
      · rw [if_pos (by omega), if_pos h1, if_neg (by omega)]
      · rw [if_neg h1]
        by_cases h2 : k = o + i
        · subst h2
          rw [if_pos (by omega), if_pos rfl, if_pos (by simpa using hi), if_pos (by omega), Nat.sub_self]; rfl
        · rw [if_neg (by omega)]
          by_cases h3 : k < o + (i + 1) + vs.length
          · rw [if_pos h3, if_pos (by omega)]
            rw [show k - (o + i) = (k - (o + (i + 1))) + 1 by omega]; rfl
          · rw [if_neg h3, if_neg (by omega), if_neg (by omega)]
    rw [key]
end
end Go.Proofs.YtjpeblicfhfniaaDoor.Eng
