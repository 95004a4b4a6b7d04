/- The engine, fourteenth part: rows that are written out or made; slicing. No condition. -/
import Derived.Test.YtjpeblicfhfniaaDoorEngM
import Derived.Laws.MakeOwn
import Derived.Great.BuildSlice
namespace Go.Proofs.YtjpeblicfhfniaaDoor.Eng
open Go.RowKit
set_option linter.unusedVariables false
set_option linter.unusedSimpArgs false
section
variable {P : Program} {T : Tab} {Bb : Nat → Prop} {w0 : World} {O0 : List Nat} {av : List Value} {Γ Γ' : Ctx} {a : Act} {w w' : World} {β : Nat → Value} {F : Nat → List Nat} {K : Ctx → Prop} {o : Oper} {Q : Exit → Act → World → Prop}
theorem rep_cells (z : List Value) (n : Nat) : ((Array.range (n * z.length)).map (z.toArray[· % z.toArray.size]!)).toList.length = n * z.length := by simp
theorem rep_seg {z : List Value} {n i : Nat} (hi : i < n) : seg (((Array.range (n * z.length)).map (fun j => z.toArray[j % z.toArray.size]!)).toList) (i * z.length) z.length = z := by
  apply List.ext_getElem?
  intro k
  rw [seg_get]
  by_cases hk : k < z.length
  · rw [if_pos hk]
    have h1 : (i + 1) * z.length ≤ n * z.length := Nat.mul_le_mul_right _ hi
    rw [Nat.add_mul] at h1
    have h2 : i * z.length + k < n * z.length := by omega
    simp only [Array.toList_map, List.getElem?_map, Array.toList_range, List.getElem?_range h2, Option.map_some]
    have h3 : (i * z.length + k) % z.toArray.size = k := by
      rw [List.size_toArray, Nat.add_comm, Nat.add_mul_mod_self_right, Nat.mod_eq_of_lt hk]
    rw [h3]; simp [hk]
  · rw [if_neg hk, List.getElem?_eq_none (by omega)]
/-- The cells hold the row, each element flat or read only. -/
def Cells (h : Hp) (Z : Nat → Prop) (e : Ty) (lvl : Nat) (xs : List e.den) (cs : List Value) : Prop :=
  cs.length = xs.length * e.sz ∧ ∀ i x, xs[i]? = some x → Own h Z e lvl [] (seg cs (i * e.sz) e.sz) x
theorem cells_rep {h : Hp} {Z : Nat → Prop} (e : Ty) (lvl n : Nat) : Cells h Z e lvl (List.replicate n e.zero) ((Array.range (n * e.zc.length)).map (fun j => e.zc.toArray[j % e.zc.toArray.size]!)).toList := by
  refine ⟨by simp [Ty.zc_len], fun i x hx => ?_⟩
  have hi : i < n := by have := (List.getElem?_eq_some_iff.1 hx).1; simpa using this
  have hxe : x = e.zero := by have := List.mem_of_getElem? hx; simp at this; exact this.2
  subst hxe
  rw [← Ty.zc_len, rep_seg hi]; exact Own.zero e lvl
theorem cells_set {h : Hp} {Z : Nat → Prop} {e : Ty} {lvl : Nat} {xs : List e.den} {cs vs : List Value} {n : Nat} {y : e.den} (hc : Cells h Z e lvl xs cs) (hn : n < xs.length) (hy : Own h Z e lvl [] vs y) : Cells h Z e lvl (xs.set n y) (splice cs (n * e.sz) vs) := by
  have hl := hy.len
  have h1 : (n + 1) * e.sz ≤ xs.length * e.sz := Nat.mul_le_mul_right _ hn
  rw [Nat.add_mul] at h1
  have hle : n * e.sz + vs.length ≤ cs.length := by rw [hl, hc.1]; omega
  refine ⟨by rw [splice_len hle, hc.1]; simp, fun i x hx => ?_⟩
  have hi : i < xs.length := by have := (List.getElem?_eq_some_iff.1 hx).1; simpa using this
  by_cases hin : i = n
  · subst hin
    have hxy : x = y := by simpa [hi] using hx.symm
    subst hxy
    have := seg_splice_in (l := cs) (o := i * e.sz) (d := 0) (n := e.sz) (vs := vs) (by omega) (by rw [hc.1]; omega)
    rw [Nat.add_zero] at this
    rw [this]
    have hs : splice (seg cs (i * e.sz) e.sz) 0 vs = vs := by
      unfold splice; simp
      rw [seg_len (by rw [hc.1]; omega)]; omega
    rw [hs]; exact hy
  · rw [List.getElem?_set_ne (Ne.symm hin)] at hx
    rw [seg_splice_out (by
      rcases Nat.lt_or_ge i n with hlt | hge
      · left
        have : (i + 1) * e.sz ≤ n * e.sz := Nat.mul_le_mul_right _ hlt
        rw [Nat.add_mul] at this; omega
      · right
        have : (n + 1) * e.sz ≤ i * e.sz := Nat.mul_le_mul_right _ (by omega)
        rw [Nat.add_mul] at this; omega) hle]
    exact hc.2 i x hx
theorem buildL_ok (S : Sim Bb w0 O0 av Γ a w β F) {e : Ty} {lvl : Nat} (hlf : lvl = 0 ∨ e.hasSl = false) (n : Nat) :
    ∀ (ps : List (Nat × Operand)) (xs ys : List e.den) (cs : List Value), xs.length = n → Cells (hp w) (ZdOf Bb F Γ.roots []) e lvl xs cs → buildL Γ.roots e xs (ps.map fun p => (p.1, Γ.eval p.2)) = some ys → (∀ p ∈ ps, p.1 < n) →
      ∃ cs', Instr.fill (fun i => some (i * e.sz, e.sz)) cs.toArray (ps.map fun p => (p.1, a.eval p.2)) = some cs'.toArray ∧ Cells (hp w) (ZdOf Bb F Γ.roots []) e lvl ys cs' ∧ ys.length = n
  | [], xs, ys, cs, hn, hc, hb, _ => by
      simp only [List.map_nil, buildL, Option.some.injEq] at hb; subst hb
      exact ⟨cs, rfl, hc, hn⟩
  | (k, x) :: ps, xs, ys, cs, hn, hc, hb, hk => by
      simp only [List.map_cons, buildL] at hb
      split at hb
      · rename_i y hy
        split at hb
        · cases hb
        · rename_i hd
          have hkn : k < n := hk (k, x) (by simp)
          obtain ⟨vs, hvs, ex⟩ := den0_slot S.roots hy (S.eval x)
          have hvs' : Own (hp w) (ZdOf Bb F Γ.roots []) e lvl [] vs y.1 := by
            cases hs : e.hasSl with
            | false => exact (hvs.flat (m := lvl) hs).2 _ _
            | true =>
              rcases hlf with rfl | hl
              · have : y.2 = [] := by
                  cases h2 : y.2 with
                  | nil => rfl
                  | cons q l => exact absurd ⟨hs, by rw [h2]; rfl⟩ hd
                rw [this] at hvs; exact hvs
              · rw [hs] at hl; cases hl
          have hle : k * e.sz + e.sz ≤ cs.length := by
            have : (k + 1) * e.sz ≤ n * e.sz := Nat.mul_le_mul_right _ hkn
            rw [Nat.add_mul] at this
            rw [hc.1, hn]; omega
          obtain ⟨cs', r1, r2, r3⟩ := buildL_ok S hlf n ps _ ys _ (by simp [hn]) (cells_set hc (by rw [hn]; exact hkn) hvs') hb (fun p hp => hk p (by simp [hp]))
          refine ⟨cs', ?_, r2, r3⟩
          rw [List.map_cons, fill_cons (off := k * e.sz) (size := e.sz) rfl (by rw [ex]; exact cells_valOf (own_agg hvs)) hvs.len hle]
          exact r1
      · cases hb
theorem add_row {r lvl : Nat} {e : Ty} {xs : List e.den} {cs : List Value} {cap : Nat} {ty : TypeId} (S : Sim Bb w0 O0 av Γ a w β F) (hr : has r Γ.roots = false) (hlf : lvl = 0 ∨ e.hasSl = false ∨ (∀ i x, xs[i]? = some x → ∀ h Z, Own h Z e lvl [] (seg cs (i * e.sz) e.sz) x))
    (hc : Cells (hp w) (ZdOf Bb F Γ.roots []) e lvl xs cs) (hl : xs.length ≤ maxL) (hcap : xs.length = cap) :
    Sim Bb w0 O0 av ((Γ.map (kill r)).add r (.row lvl e xs)) a { w with heap := w.heap.push (.cells cs.toArray ty) } (upF β r (.slice (some ⟨w.heap.size, 0, none⟩) xs.length cap)) (upF F r [w.heap.size]) := by
  refine S.addRow (ty := ty) hr rfl rfl rfl rfl (by omega) hl (by simp; rw [hc.1, hcap]; exact Nat.le_refl _) (fun Z hZ i x hx => ?_)
  have h5 := hc.2 i x hx
  show Own _ Z e lvl [] (seg cs (i * e.sz) e.sz) x
  rcases hlf with rfl | hf | hf
  · refine h5.mono (fun b hb hs => ?_) (fun _ m => by cases m)
    have hb' : b < w.heap.size := by
      rcases Nat.lt_or_ge b w.heap.size with h | h
      · exact h
      · simp [hp, Array.getElem?_eq_none h] at hs
    exact ⟨heap_push b hb', hZ b hb hb'⟩
  · exact (h5.flat (m := lvl) hf).2 _ _
  · exact hf i x hx _ _
theorem sound_buildSlice (hT : TabOk P T) (S : Sim Bb w0 O0 av Γ a w β F) {t : TypeId} {n : Nat} {ps : Array (Nat × Operand)} (ho : o.op = .buildSlice t n ps) (hn : ∀ p ∈ ps.toList, p.1 < n)
    (hk : opBuildSlice T Γ o.dst K t n (ps.toList.map fun p => (p.1, Γ.eval p.2))) : o.wp P a w (Nx Bb w0 O0 av K) Q := by
  have hrun : ∀ z w', (Instr.buildSlice t n (ps.map fun (i, x) => (i, a.eval x))).run P w = .ok z w' → (execOp a.eval o).run P w = .ok (.value z) w' := fun z w' hz => by unfold execOp; rw [ho]; exact run_v hz
  unfold opBuildSlice at hk
  split at hk
  · rename_i e ht
    obtain ⟨te, hu, he⟩ := (hT _ _ ht).slice
    split at hk
    · rename_i hc
      obtain ⟨h1, h2, h3, h4⟩ := hc
      split at hk
      · rename_i xs hxs
        obtain ⟨cs', r1, r2, r3⟩ := buildL_ok S h4 n ps.toList _ xs _ (by simp) (cells_rep e (T.lv t) n) hxs hn
        generalize Γ.new = r at *
        have hmul : n * e.sz ≤ 1000 * 1000 := Nat.mul_le_mul h1 h2
        have hr : (Instr.buildSlice t n (ps.map fun (i, x) => (i, a.eval x))).run P w = .ok (.slice (some ⟨w.heap.size, 0, none⟩) n n) { w with heap := w.heap.push (.cells cs'.toArray te) } := by
          obtain ⟨i, hi1, hi2, hi3, _⟩ := he.info
          have hps : (ps.map fun (i, x) => (i, a.eval x)).toList = ps.toList.map fun p => (p.1, a.eval p.2) := by simp
          have hzc : (valOf e.agg e.zc).cells = e.zc.toArray := by
            have h7 := cells_valOf (own_agg (h := hp w) (Z := fun _ => True) (Own.zero e 0))
            apply Array.toList_inj.1; rw [h7]
          have hsm : ¬ n * e.sz > 2 ^ 24 := by omega
          by_cases h0 : n * e.sz = 0
          · have r1' := r1
            rw [Ty.zc_len, h0, ← hps] at r1'
            have hd : n * i.size = 0 := by rw [hi2]; exact h0
            have hsm' : ¬ n * i.size > 2 ^ 24 := by rw [hi2]; exact hsm
            rw [← hi2] at r1'
            have hr0 : Array.range 0 = #[] := Array.range_zero'
            rw [hr0] at r1'
            simp [Instr.buildSlice, _root_.Go.run_underlying hu, sizeOf, typeInfo, zeroValue, hi1, hi3, hsm', hd, hr0]
            simp at r1'
            simp [r1', newRow]
          · have hcells : ((Array.range (n * e.sz)).map (fun j => (valOf e.agg e.zc).cells[j % (valOf e.agg e.zc).cells.size]!)) = (((Array.range (n * e.zc.length)).map (fun j => e.zc.toArray[j % e.zc.toArray.size]!)).toList).toArray := by
              rw [Array.toArray_toList, Ty.zc_len, hzc]
            have r1' := r1
            rw [← hcells, ← hps, ← hi2] at r1'
            have hd : ¬ n * i.size = 0 := by rw [hi2]; exact h0
            have hsm' : ¬ n * i.size > 2 ^ 24 := by rw [hi2]; exact hsm
            exact run_buildSlice w t te n _ cs'.toArray i _ hu hi1 hi3 hsm' hd r1'
        refine wp_drawn (hrun _ _ hr) (add_row (ty := te) S h3 (h4.imp id .inl) r2 (by rw [r3]; unfold maxL; omega) r3) ?_ hk
        exact slot_c (v := .ref r) (cs := [.slice (some ⟨w.heap.size, 0, none⟩) n n]) rfl (by show _ = [upF β r _ r]; rw [upF_at, r3])
      · exact hk.elim
    · exact hk.elim
  · exact hk.elim
theorem sound_makeSlice (hT : TabOk P T) (S : Sim Bb w0 O0 av Γ a w β F) {t : TypeId} {x y : Operand} (ho : o.op = .makeSlice t x y) (hk : opMakeSlice real T Γ o.dst K t (Γ.eval x) (Γ.eval y)) : o.wp P a w (Nx Bb w0 O0 av K) Q := by
  have hx := S.eval x
  have hy := S.eval y
  have hrun : ∀ z w', (Instr.makeSlice t (a.eval x) (a.eval y)).run P w = .ok z w' → (execOp a.eval o).run P w = .ok (.value z) w' := fun z w' hz => by unfold execOp; rw [ho]; exact run_v hz
  unfold opMakeSlice at hk
  split at hk
  · rename_i e d1 k1 m d2 k2 n ht hxe hye
    rw [hxe] at hx; rw [hye] at hy
    obtain ⟨e1, _⟩ := slot_int hx
    obtain ⟨e2, _⟩ := slot_int hy
    split at hk
    · rename_i hnew
      obtain ⟨hmn, hmk, hk⟩ := hk
      have hmn' : @Eq Int m n := hmn
      have hmk' : @LE.le Int _ 0 n ∧ @LE.le Int _ n (2 ^ 36) := hmk
      subst hmn'
      generalize hr : Γ.new = r at *
      obtain ⟨te, hu, he⟩ := (hT _ _ ht).slice
      obtain ⟨i, hi1, hi2, hi3, hi4, hi5⟩ := he.info
      have hb : (i.bytes : Int) * m ≤ 281474976710656 := by
        have : (i.bytes : Int) * m ≤ 1024 * 2 ^ 36 := Int.mul_le_mul (by omega) hmk'.2 hmk'.1 (by omega)
        omega
      have hrun' := run_make w t te i _ hu hi1 hi3 k1 k2 m m hmk'.1 (Int.le_refl _) hb (by omega)
      have hzc : (valOf e.agg e.zc).cells = e.zc.toArray := by
        have h7 := cells_valOf (own_agg (h := hp w) (Z := fun _ => True) (Own.zero e 0))
        apply Array.toList_inj.1; rw [h7]
      have hcells : madeCells (valOf e.agg e.zc).cells (m.toNat * i.size) = (((Array.range (m.toNat * e.zc.length)).map (fun j => e.zc.toArray[j % e.zc.toArray.size]!)).toList).toArray := by
        rw [Array.toArray_toList, Ty.zc_len, hzc, hi2]; rfl
      rw [hcells] at hrun'
      have hlen : (List.replicate m.toNat e.zero).length = m.toNat := by simp
      have hmax : m.toNat ≤ maxL := by unfold maxL; omega
      refine wp_drawn (hrun _ _ (by rw [e1, e2]; exact hrun')) (add_row (xs := List.replicate m.toNat e.zero) (cap := m.toNat) (lvl := T.lv t) (ty := te) S hnew (.inr (.inr fun j z hz h Z => ?_)) (cells_rep e (T.lv t) m.toNat) (by rw [hlen]; exact hmax) hlen) ?_ hk
      · exact (cells_rep (h := h) (Z := Z) e (T.lv t) m.toNat).2 j z hz
      · exact slot_c (v := .ref r) (cs := [.slice (some ⟨w.heap.size, 0, none⟩) m.toNat m.toNat]) rfl (by show _ = [upF β r _ r]; rw [upF_at, hlen])
    · exact hk.elim
  · exact hk.elim
/-! ### slicing -/
theorem bound_ok (S : Sim Bb w0 O0 av Γ a w β F) {n : Int} {x : Option Operand} {l : Int} (h : bound n (x.map Γ.eval) = some l) : (x = none ∧ l = n) ∨ ∃ y k, x = some y ∧ a.eval y = .int k l := by
  cases x with
  | none => simp only [Option.map_none, bound, Option.some.injEq] at h; exact .inl ⟨rfl, h.symm⟩
  | some y =>
    right
    simp only [Option.map_some] at h
    have hy := S.eval y
    cases hye : Γ.eval y <;> rw [hye] at h hy <;> simp only [bound, reduceCtorEq] at h
    rename_i d t z
    cases t <;> simp only [bound, reduceCtorEq, Option.some.injEq] at h
    subst h
    exact ⟨y, _, rfl, (slot_int hy).1⟩
theorem run_bounds (S : Sim Bb w0 O0 av Γ a w β F) {lo hi : Option Operand} {l h : Int} {len cap : Nat} {b : Bool} (hl : bound 0 (lo.map Γ.eval) = some l) (hh : bound len (hi.map Γ.eval) = some h) (h0 : 0 ≤ l) (h1 : l ≤ h) (h2 : h ≤ len) (hc : len ≤ cap) :
    (Instr.sliceBounds b len cap (lo.map a.eval) (hi.map a.eval) none).run P w = .ok (l.toNat, h.toNat, cap) w := by
  have sb : ∀ {k : IntKind} {n : Int} {m : Nat} {code : BoundsCode}, 0 ≤ n → n ≤ (m : Int) → (Instr.sliceBound (.int k n) m code).run P w = .ok n.toNat w := by
    intro k n m code a1 a2
    unfold Instr.sliceBound
    show (Sem.bind _ _).run P w = _
    rw [run_bind_ok (s := asIntOf (.int k n)) (x := (k, n)) rfl]
    simp only [a1, a2, and_self, if_true]; rfl
  rcases bound_ok S hl with ⟨rfl, rfl⟩ | ⟨y, k, rfl, ey⟩ <;> rcases bound_ok S hh with ⟨rfl, rfl⟩ | ⟨z, j, rfl, ez⟩
  · simp [Instr.sliceBounds]
  · have := sb (k := j) (n := h) (m := cap) (code := if b then .sliceAcap else .sliceAlen) (by omega) (by omega)
    simp [Instr.sliceBounds, ez, this, Sem.run_bind, Result.andThen]
  · have := sb (k := k) (n := l) (m := len) (code := .sliceB) h0 h1
    simp [Instr.sliceBounds, ey, this, Sem.run_bind, Result.andThen]
  · have t1 := sb (k := j) (n := h) (m := cap) (code := if b then .sliceAcap else .sliceAlen) (by omega) (by omega)
    have t2 := sb (k := k) (n := l) (m := h.toNat) (code := .sliceB) h0 (by omega)
    simp [Instr.sliceBounds, ey, ez, t1, t2, Sem.run_bind, Result.andThen]
/-- A part of a row that is read. -/
theorem Own.cut {hh : Hp} {Z : Nat → Prop} {e : Ty} {xs : List e.den} {A : Option Addr} {c : Nat} {l h : Nat} (o : Own hh Z (.sl e) 0 [] [.slice A xs.length c] xs) (h1 : l ≤ h) (h2 : h ≤ xs.length) :
    Own hh Z (.sl e) 0 [] [.slice (if c = l then A else A.map (·.add (l * e.sz))) (h - l) (c - l)] ((xs.drop l).take (h - l)) := by
  obtain ⟨A', c', ec, l1, l2, _, r⟩ := o
  simp only [List.cons.injEq, Value.slice.injEq, and_true, true_and] at ec
  obtain ⟨rfl, rfl⟩ := ec
  have hlen : ((xs.drop l).take (h - l)).length = h - l := by simp; omega
  refine ⟨_, c - l, by rw [hlen], by rw [hlen]; omega, by rw [hlen]; omega, rfl, fun hne => ?_⟩
  have hpos : 0 < h - l := by
    rcases Nat.eq_zero_or_pos (h - l) with h0 | h0
    · exact absurd (List.eq_nil_of_length_eq_zero (by rw [hlen, h0])) hne
    · exact h0
  have hxs : xs ≠ [] := by rintro rfl; simp at h2; omega
  obtain ⟨b, off, arr, ty, fz, rfl, hz, hb, hle, hr⟩ := r hxs
  rw [if_neg (by omega)]
  refine ⟨b, off + l * e.sz, arr, ty, fz, by simp [add_none], hz, hb, ?_, fun i x hx => ?_⟩
  · rw [hlen, Nat.add_assoc, ← Nat.add_mul, show l + (h - l) = h by omega]
    exact Nat.le_trans (Nat.add_le_add_left (Nat.mul_le_mul_right _ h2) _) hle
  · have hx' : xs[l + i]? = some x := by
      rw [List.getElem?_take] at hx
      split at hx
      · rw [List.getElem?_drop] at hx; exact hx
      · cases hx
    have := hr (l + i) x hx'
    rw [Nat.add_mul, ← Nat.add_assoc] at this; exact this
theorem sound_slice (hT : TabOk P T) (S : Sim Bb w0 O0 av Γ a w β F) {t : TypeId} {x : Operand} {lo hi : Option Operand} (ho : o.op = .slice t x lo hi none) (hk : opSlice real T Γ o.dst K t (Γ.eval x) (lo.map Γ.eval) (hi.map Γ.eval)) : Reads P o a w (Nx Bb w0 O0 av K) := by
  have hx := S.eval x
  have hrun : ∀ z, (Instr.sliceAt t (a.eval x) (lo.map a.eval) (hi.map a.eval) none).run P w = .ok z w → (execOp a.eval o).run P w = .ok (.value z) w := fun z hz => by unfold execOp; rw [ho]; exact run_v hz
  unfold opSlice at hk
  split at hk
  · rename_i ht
    have hu : P.underlying t = some .string := (hT _ _ ht).1
    split at hk
    · rename_i d s hxe
      rw [hxe] at hx
      obtain ⟨e1, hs⟩ := slot_str hx
      split at hk
      · rename_i l h hl hh
        obtain ⟨h0, h1, h2, hk⟩ := hk
        have h0' : @LE.le Int _ 0 l := h0
        have h1' : @LE.le Int _ l h := h1
        have h2' : @LE.le Int _ h (s.size : Int) := h2
        have hb := run_bounds (P := P) (b := false) (len := s.size) (cap := s.size) S hl hh h0' h1' h2' (Nat.le_refl _)
        have hsz : (s.extract l.toNat h.toNat).size ≤ maxL := by rw [ByteArray.size_extract]; omega
        refine go_value S (hrun (.string (s.extract l.toNat h.toNat)) ?_) (mk_str hsz) hk
        rw [e1]
        simp [Instr.sliceAt, Instr.slice, _root_.Go.run_underlying hu, Sem.run_bind, Result.andThen, hb]
      · exact hk.elim
    · exact hk.elim
  · rename_i e ht
    obtain ⟨te, hu, he⟩ := (hT _ _ ht).slice
    obtain ⟨i, hi1, hi2, _⟩ := he.info
    have main : ∀ {xs : List e.den} {A : Option Addr} {c : Nat} {l h : Int} {d : List Nat}, a.eval x = .slice A xs.length c → Own (hp w) (ZdOf Bb F Γ.roots d) (.sl e) 0 [] [.slice A xs.length c] xs → bound 0 (lo.map Γ.eval) = some l → bound (real.ofN (real.len xs)) (hi.map Γ.eval) = some h →
        real.le 0 l → real.le l h → real.le h (real.ofN (real.len xs)) → Γ.on o.dst (.pv d (.sl e) (real.cut xs l h)) K → Reads P o a w (Nx Bb w0 O0 av K) := by
      intro xs A c l h d ex ow hl hh h0 h1 h2 hk
      have h0' : @LE.le Int _ 0 l := h0
      have h1' : @LE.le Int _ l h := h1
      have h2' : @LE.le Int _ h (xs.length : Int) := h2
      have hc : xs.length ≤ c := by
        obtain ⟨A', c', ec, l1, _⟩ := ow
        simp only [List.cons.injEq, Value.slice.injEq, and_true, true_and] at ec
        obtain ⟨rfl, rfl⟩ := ec; exact l1
      have hb := run_bounds (P := P) (b := true) (len := xs.length) (cap := c) S hl hh h0' h1' h2' hc
      refine go_value S (hrun (.slice (if c = l.toNat then A else A.map (·.add (l.toNat * e.sz))) (h.toNat - l.toNat) (c - l.toNat)) ?_) (slot_c (v := .pv d (.sl e) (real.cut xs l h)) (cs := [.slice (if c = l.toNat then A else A.map (·.add (l.toNat * e.sz))) (h.toNat - l.toNat) (c - l.toNat)]) rfl (Own.cut ow (by omega) (by omega))) hk
      rw [ex]
      simp [Instr.sliceAt, Instr.slice, _root_.Go.run_underlying hu, Sem.run_bind, Result.andThen, hb, sizeOf, typeInfo, hi1, hi2]
    split at hk
    · rename_i d f xs hxe
      rw [hxe] at hx
      split at hk
      · rename_i hfe; subst hfe
        split at hk
        · rename_i l h hl hh
          obtain ⟨h0, h1, h2, hk⟩ := hk
          obtain ⟨cs, ow, ex⟩ := slot_pv hx
          have ow0 := ow
          obtain ⟨A, c, rfl, _⟩ := ow
          exact main ex ow0 hl hh h0 h1 h2 hk
        · exact hk.elim
      · exact hk.elim
    · rename_i r hxe
      rw [hxe] at hx
      split at hk
      · rename_i lvl f xs hr
        split at hk
        · rename_i hfe; subst hfe
          obtain ⟨cs, ec, ex⟩ := slot_one hx rfl (by simp)
          have ec' : cs = [β r] := ec
          subst ec'
          have ex' : a.eval x = β r := ex
          have hrow : Own (hp w) (ZdOf Bb F Γ.roots []) (.sl f) (lvl + 1) (F r) [β r] xs := S.roots r _ (look_mem hr)
          split at hk
          · rename_i hmv hlo
            simp only [Option.map_eq_none_iff] at hlo
            subst hlo
            split at hk
            · rename_i h hh
              split at hk
              · rename_i hlf
                obtain ⟨h0, h2, hk⟩ := hk
                have h0' : @LE.le Int _ 0 h := h0
                have h2' : @LE.le Int _ h (xs.length : Int) := h2
                obtain ⟨A, c, eb, l1, l2, q⟩ := hrow
                simp only [List.cons.injEq, and_true] at eb
                have hb := run_bounds (P := P) (b := true) (len := xs.length) (cap := c) (lo := none) S (l := 0) rfl hh (Int.le_refl 0) h0' h2' l1
                have S1 := S.soft (soft_kill r)
                have hzz : ZdOf Bb F (Γ.map (kill r)).roots = ZdOf Bb F Γ.roots := ZdOf_ids (mapC_ids _ _)
                have hin1 : r ∈ Γ.roots.map (·.1) := List.mem_map.2 ⟨_, look_mem hr, rfl⟩
                have hFn := nodup_F hin1 S.nodup
                have hcut : real.cut xs 0 h = xs.take h.toNat := by simp [real]
                have hlen : (xs.take h.toNat).length = h.toNat := by rw [List.length_take]; omega
                have hA : (if c = 0 then A else A.map (·.add (0 * f.sz))) = A := by
                  split
                  · rfl
                  · cases A with
                    | none => rfl
                    | some ad => obtain ⟨b, o, p⟩ := ad; rcases q with ⟨q, _⟩ | ⟨b', o', arr, ty, Bs, q, _⟩ <;> cases q; simp [add_none]
                have hval : (Instr.sliceAt t (a.eval x) ((none : Option Operand).map a.eval) (hi.map a.eval) none).run P w = .ok (.slice A h.toNat c) w := by
                  rw [ex', eb]
                  have : (Instr.sliceAt t (.slice A xs.length c) ((none : Option Operand).map a.eval) (hi.map a.eval) none).run P w = .ok (.slice (if c = 0 then A else A.map (·.add (0 * f.sz))) (h.toNat - 0) (c - 0)) w := by
                    simp [Instr.sliceAt, Instr.slice, _root_.Go.run_underlying hu, Sem.run_bind, Result.andThen, sizeOf, typeInfo, hi1, hi2]
                    simp at hb
                    simp [hb, Result.andThen]
                  rw [this, hA]; rfl
                rw [hcut] at hk
                refine go_value (β := upF β r (.slice A h.toNat c)) (F := F) (S1.setRoot (c := .row lvl f (xs.take h.toNat)) (F' := F) (β' := upF β r (.slice A h.toNat c)) (FitG.of (fit_kill r) Γ) (fun q hq => upF_ne hq) (fun q hq => upF_ne hq) ?_ (mem_mapC_row (look_mem hr)) (fun _ _ _ => rfl) (Nat.le_refl _) rfl rfl rfl (fun _ _ => rfl) ⟨hFn, fun b hb => ⟨(S.own b (mem_allO.2 ⟨r, hin1, hb⟩)).1, .inl hb⟩⟩ ?_) (hrun _ hval) ?_ hk
                · intro q
                  by_cases hq : q = r
                  · rw [hq, upF_at]; rfl
                  · rw [upF_ne hq]; exact S.bone q
                · rw [hzz]
                  refine ⟨A, c, by rw [upF_at, hlen], by rw [hlen]; omega, by rw [hlen]; omega, ?_⟩
                  rcases q with ⟨rfl, rfl, rfl, hB⟩ | ⟨b, off, arr, ty, Bs, rfl, hb, hl, hB, hn, hq⟩
                  · exact .inl ⟨rfl, rfl, by simp, hB⟩
                  · have hBs : ∀ Bi ∈ Bs, Bi = [] := by
                      intro Bi hBi
                      obtain ⟨k, hk⟩ := List.mem_iff_getElem?.1 hBi
                      have hk' : k < xs.length := by rw [← hn]; exact (List.getElem?_eq_some_iff.1 hk).1
                      have oo := hq k _ Bi (List.getElem?_eq_getElem hk') hk
                      rcases hlf with rfl | hf
                      · exact oo.b0
                      · exact (oo.flat (m := lvl) hf).1
                    refine .inr ⟨b, off, arr, ty, Bs.take h.toNat, rfl, hb, hl, ?_, by rw [List.length_take, List.length_take, hn], ?_⟩
                    · rw [hB, List.flatten_eq_nil_iff.2 hBs, List.flatten_eq_nil_iff.2 (fun Bi hBi => hBs Bi (List.mem_of_mem_take hBi))]
                    · intro i z Bi hz hBi
                      rw [List.getElem?_take] at hz hBi
                      split at hz
                      · rename_i hlt
                        rw [if_pos hlt] at hBi
                        exact hq i z Bi hz hBi
                      · cases hz
                · exact slot_c (v := .ref r) (cs := [.slice A h.toNat c]) rfl (by show _ = [upF β r _ r]; rw [upF_at])
              · exact hk.elim
            · exact hk.elim
          · split at hk
            · rename_i l h hl hh
              obtain ⟨h0, h1, h2, hk⟩ := hk
              have hfz := Own.freeze (Z' := ZdOf Bb F Γ.roots [r]) (fun b hz => zd_mono (by simp) hz) (fun b hb => .inr ⟨r, by simp, List.mem_map.2 ⟨_, look_mem hr, rfl⟩, hb⟩) hrow
              obtain ⟨A, c, eb, _⟩ := hrow
              simp only [List.cons.injEq, and_true] at eb
              rw [eb] at hfz
              exact main (d := [r]) (by rw [ex', eb]) hfz hl hh h0 h1 h2 hk
            · exact hk.elim
        · exact hk.elim
      · exact hk.elim
    · exact hk.elim
  · exact hk.elim
end
end Go.Proofs.YtjpeblicfhfniaaDoor.Eng
