/- The engine, tenth part: memory that is made. No condition. -/
import Derived.Test.YtjpeblicfhfniaaDoorEngI
import Derived.Deep.AppendSrc
namespace Go.Proofs.YtjpeblicfhfniaaDoor.Eng
open Go.RowKit
set_option linter.unusedVariables false
set_option linter.unusedSimpArgs false
section
variable {P : Program} {T : Tab} {Bb : Nat → Prop} {w0 : World} {O0 : List Nat} {av : List Value} {Γ Γ' : Ctx} {a : Act} {w w' : World} {β : Nat → Value} {F : Nat → List Nat} {K : Ctx → Prop} {o : Oper} {Q : Exit → Act → World → Prop}
def upF {α : Type} (f : Nat → α) (r : Nat) (x : α) : Nat → α := fun q => if q = r then x else f q
theorem upF_at {α : Type} {f : Nat → α} {r : Nat} {x : α} : upF f r x r = x := by simp [upF]
theorem upF_ne {α : Type} {f : Nat → α} {r q : Nat} {x : α} (h : q ≠ r) : upF f r x q = f q := by simp [upF, h]
theorem allO_cons {r : Nat} {c : Ch} {l : List (Nat × Ch)} : allO F ((r, c) :: l) = F r ++ allO F l := by simp [allO]
theorem allO_congr {F' : Nat → List Nat} {l : List (Nat × Ch)} (h : ∀ q ∈ l.map (·.1), F' q = F q) : allO F' l = allO F l := by
  induction l with
  | nil => rfl
  | cons p l ih =>
    rw [allO_cons (F := F') (r := p.1) (c := p.2), allO_cons (F := F) (r := p.1) (c := p.2), h p.1 (by simp), ih (fun q hq => h q (by simp at hq ⊢; exact .inr hq))]
/-- A new root. -/
theorem Sim.addRoot {r : Nat} {c : Ch} {hdr : Value} {B : List Nat} (S : Sim Bb w0 O0 av Γ a w β F) (fit : FitG (fun d => mem r d = false) (fun q => q ≠ r) Γ) (hr : r ∉ Γ.roots.map (·.1))
    (hw : ∀ q, q < w.heap.size → hp w' q = hp w q) (hsz : w.heap.size ≤ w'.heap.size) (hos : w'.os = w.os) (htp : w'.tape = w.tape) (hou : w'.output = w.output)
    (hB : B.Nodup ∧ ∀ b ∈ B, w.heap.size ≤ b ∧ b < w'.heap.size) (h1 : one hdr = true)
    (hc : RootR (hp w') (ZdOf Bb (upF F r B) ((r, c) :: Γ.roots)) (upF β r hdr) B r c) : Sim Bb w0 O0 av (Γ.add r c) a w' (upF β r hdr) (upF F r B) := by
  have hne : ∀ q ∈ Γ.roots.map (·.1), q ≠ r := fun q hq e => hr (e ▸ hq)
  have hlt : ∀ {q b}, q ∈ Γ.roots.map (·.1) → b ∈ F q → b < w.heap.size := fun hq hb => (S.own _ (mem_allO.2 ⟨_, hq, hb⟩)).1
  have hO : allO (upF F r B) ((r, c) :: Γ.roots) = B ++ allO F Γ.roots := by
    rw [allO_cons, upF_at, allO_congr (F := F) (fun q hq => upF_ne (hne q hq))]
  have hz : ∀ d, mem r d = false → ∀ b, ZdOf Bb F Γ.roots d b → (hp w b).isSome → hp w' b = hp w b ∧ ZdOf Bb (upF F r B) ((r, c) :: Γ.roots) d b := by
    intro d hd b hzb hs
    have hblt : b < w.heap.size := by
      rcases Nat.lt_or_ge b w.heap.size with h | h
      · exact h
      · simp [hp, Array.getElem?_eq_none h] at hs
    have hnB : b ∉ B := fun hb => by have := (hB.2 b hb).1; omega
    refine ⟨hw b hblt, ?_⟩
    rcases hzb with h | ⟨q, hq, hqm, hbq⟩
    · left; rw [hO]; simp [hnB, h.1, h.2]
    · exact .inr ⟨q, hq, by simp at hqm ⊢; exact .inr hqm, by rw [upF_ne (hne q hqm)]; exact hbq⟩
  have hβ : ∀ q, q ≠ r → upF β r hdr q = β q := fun q hq => upF_ne hq
  refine S.world (R' := (r, c) :: Γ.roots) (F' := upF F r B) fit hz hβ ?_ ?_ ?_ ?_ ?_ ?_
  · intro q d hm
    rcases List.mem_cons.1 hm with hm | hm
    · injection hm with e1 e2; subst e1; subst e2; rw [upF_at]; exact hc
    · have hqm : q ∈ Γ.roots.map (·.1) := List.mem_map.2 ⟨_, hm, rfl⟩
      rw [upF_ne (hne q hqm)]
      refine RootR.mono (D := fun d => mem r d = false) (R := fun q => q ≠ r) (h := hp w) rfl hz hβ (hβ q (hne q hqm)) (fun b hb => hw b (hlt hqm hb)) (fun v e => ?_) (S.roots q d hm)
      subst e; exact fit.boxes q v hm
  · simp only [List.map_cons, List.nodup_cons]; exact ⟨hr, S.ids⟩
  · rw [hO, List.nodup_append]
    refine ⟨hB.1, S.nodup, fun x hx y hy e => ?_⟩
    subst e
    have h1 := (hB.2 x hx).1
    have h2 := (S.own x hy).1
    omega
  · rw [hO]
    intro b hb
    rcases List.mem_append.1 hb with hb | hb
    · exact ⟨(hB.2 b hb).2, .inr (Nat.le_trans S.frm.size (hB.2 b hb).1)⟩
    · exact ⟨Nat.lt_of_lt_of_le (S.own b hb).1 hsz, (S.own b hb).2⟩
  · exact ⟨hos.trans S.frm.os, htp.trans S.frm.tape, hou.trans S.frm.output, Nat.le_trans S.frm.size hsz, fun k hk hkO => (hw k (Nat.lt_of_lt_of_le hk S.frm.size)).trans (S.frm.block k hk hkO)⟩
  · intro q; unfold upF; split
    · exact h1
    · exact S.bone q
theorem has_false {α : Type} {n : Nat} : ∀ {l : List (Nat × α)}, has n l = false → n ∉ l.map (·.1)
  | [], _ => by simp
  | (m, x) :: l, h => by
    unfold has at h
    split at h
    · cases h
    · rename_i hm
      simp only [List.map_cons, List.mem_cons, not_or]
      exact ⟨fun e => hm e.symm, has_false h⟩
theorem heap_push {ob : Obj} {w : World} : ∀ q, q < w.heap.size → hp { w with heap := w.heap.push ob } q = hp w q := by
  intro q hq
  simp [hp, Array.getElem?_push, Nat.ne_of_lt hq]
theorem heap_push_new {ob : Obj} {w : World} : ({ w with heap := w.heap.push ob } : World).heap[w.heap.size]? = some ob := by simp
theorem run_newRow {t : TypeId} {cs : Array Value} : (newRow t cs).run P w = .ok ⟨w.heap.size, 0, none⟩ { w with heap := w.heap.push (.cells cs t) } := rfl
/-- A fresh block with a row in it. -/
theorem Sim.addRow {r lvl : Nat} {e : Ty} {xs : List e.den} {cs : Array Value} {cap : Nat} {ty : TypeId} {w1 : World} (S : Sim Bb w0 O0 av Γ a w β F) (hr : has r Γ.roots = false)
    (hw1 : w1.heap = w.heap.push (.cells cs ty (0, 0))) (hos : w1.os = w.os) (htp : w1.tape = w.tape) (hou : w1.output = w.output) (hc : xs.length ≤ cap) (hl : xs.length ≤ maxL) (hs : cap * e.sz ≤ cs.size)
    (he : ∀ (Z : Nat → Prop), (∀ b, ZdOf Bb F Γ.roots [] b → b < w.heap.size → Z b) → ∀ i x, xs[i]? = some x → Own (hp w1) Z e lvl [] (seg cs.toList (i * e.sz) e.sz) x) :
    Sim Bb w0 O0 av ((Γ.map (kill r)).add r (.row lvl e xs)) a w1 (upF β r (.slice (some ⟨w.heap.size, 0, none⟩) xs.length cap)) (upF F r [w.heap.size]) := by
  have hids : ((Γ.map (kill r)).roots).map (·.1) = Γ.roots.map (·.1) := mapC_ids _ _
  have hw : ∀ q, q < w.heap.size → hp w1 q = hp w q := fun q hq => by unfold hp; rw [hw1]; exact heap_push q hq
  have hsz : w1.heap.size = w.heap.size + 1 := by rw [hw1]; simp
  refine (S.soft (soft_kill r)).addRoot (FitG.of (fit_kill r) Γ) (by rw [hids]; exact has_false hr) hw (by omega) hos htp hou ⟨by simp, fun b hb => ?_⟩ rfl ?_
  · simp only [List.mem_singleton] at hb; subst hb; omega
  · refine ⟨some ⟨w.heap.size, 0, none⟩, cap, by rw [upF_at], hc, hl, .inr ⟨w.heap.size, 0, cs, ty, List.replicate xs.length [], rfl, ?_, by omega, ?_, by simp, ?_⟩⟩
    · unfold hp; rw [hw1]; simp
    · have : (List.replicate xs.length ([] : List Nat)).flatten = [] := by simp
      rw [this]
    · intro i x Bi hx hBi
      have : Bi = [] := by
        have := List.mem_of_getElem? hBi
        simp at this; exact this.2
      subst this
      rw [Nat.zero_add]
      refine he _ (fun b hz hb => ?_) i x hx
      rcases hz with hz | ⟨_, hz, _⟩
      · left
        rw [allO_cons, upF_at, allO_congr (F := F) (fun q hq => upF_ne (fun e => by subst e; exact has_false hr (by rw [← hids]; exact hq))), allO_ids hids]
        simp; exact ⟨⟨by omega, hz.1⟩, hz.2⟩
      · cases hz
/-! ### append -/
theorem one' {v : Value} (h : one v = true) : v.oneCell' = true := by cases v <;> first | rfl | cases h
theorem run_append_fit {t tx ty e : TypeId} {i : TypeInfo} (ht : P.underlying t = some (.slice e)) (hi : P.info? e = some i) {base : Option Addr} {sLen sCap : Nat} {x : Value} {n : Nat} {news : List Value} (hs : Src P i.size tx x n news w) {w' : World}
    (hroom : sLen + n ≤ sCap) (hst : ∀ a, base = some a → (storeCells (a.add (sLen * i.size)) news).run P w = .ok () w') (hn : base = none → w' = w) :
    (Builtin.append_ #[t, tx] ty #[.slice base sLen sCap, x]).run P w = .ok (.slice base (sLen + n) sCap) w' := by
  cases base with
  | none =>
    obtain rfl := hn rfl
    rcases hs.kind with ⟨e', hk⟩ | hk <;> simp [Builtin.append_, _root_.Go.run_underlying ht, _root_.Go.run_underlying hk, sizeOf, typeInfo, hi, hs.len, hroom, hs.cells]
  | some a =>
    have h1 := hst a rfl
    rcases hs.kind with ⟨e', hk⟩ | hk <;> simp [Builtin.append_, _root_.Go.run_underlying ht, _root_.Go.run_underlying hk, sizeOf, typeInfo, hi, hs.len, hroom, hs.cells, h1]
theorem src_ok (hT : TabOk P T) (S : Sim Bb w0 O0 av Γ a w β F) {e : Ty} {t2 : TypeId} {y : SV} {x : Value} {ys : List e.den × List Nat} {te : TypeId} (hy : SlotR (hp w) (ZdOf Bb F Γ.roots) β y x) (h : srcOf real T Γ e t2 y = some ys) (hd : ¬ (e.hasSl = true ∧ isD ys.2 = false)) {lvl : Nat} (hl : lvl = 0 ∨ e.hasSl = false) :
    ∃ news, Src P e.sz t2 x ys.1.length news w ∧ (∀ u ∈ news, one u = true) ∧ ∀ i z, ys.1[i]? = some z → Own (hp w) (ZdOf Bb F Γ.roots []) e lvl [] (seg news (i * e.sz) e.sz) z := by
  have lift : ∀ {d : List Nat} {cs : List Value} {z : e.den}, d = ys.2 → Own (hp w) (ZdOf Bb F Γ.roots d) e 0 [] cs z → Own (hp w) (ZdOf Bb F Γ.roots []) e lvl [] cs z := by
    intro d cs z ed o
    cases hs : e.hasSl with
    | false => exact (o.flat (m := lvl) hs).2 _ _
    | true =>
      rcases hl with rfl | hl
      · have : ys.2 = [] := by
          cases h2 : ys.2 with
          | nil => rfl
          | cons q l => exact absurd ⟨hs, by rw [h2]; rfl⟩ hd
        rw [ed, this] at o; exact o
      · rw [hs] at hl; cases hl
  unfold srcOf at h
  split at h
  · rename_i te' y' ht2
    obtain ⟨te2, hu2, _⟩ := (hT _ _ ht2).slice
    obtain ⟨cs, o, ex⟩ := den0_slot S.roots h hy
    obtain ⟨A, c, rfl, l1, l2, _, hrow⟩ := o
    have ex' : x = .slice A ys.1.length c := ex
    subst ex'
    by_cases hn : ys.1 = []
    · have hlen : ys.1.length = 0 := by rw [hn]; rfl
      refine ⟨[], ?_, by simp, fun i z hi => by rw [hn] at hi; simp at hi⟩
      cases A with
      | none => rw [hlen]; exact Src.ofNil w hu2 c
      | some ad => exact Src.ofSlice w hu2 ad _ c [] (by rw [hlen]; simp) (by simp) (by simp)
    · obtain ⟨b, off, arr, ty, fz, rfl, hz, hb, hle, hr⟩ := hrow hn
      have hsl : off + ys.1.length * e.sz ≤ arr.toList.length := by simpa using hle
      have hseg : ∀ i, i < ys.1.length → seg (seg arr.toList off (ys.1.length * e.sz)) (i * e.sz) e.sz = seg arr.toList (off + i * e.sz) e.sz := by
        intro i hi
        exact seg_seg (by
          have : (i + 1) * e.sz ≤ ys.1.length * e.sz := Nat.mul_le_mul_right _ hi
          rw [Nat.add_mul] at this; omega)
      have hone : ∀ u ∈ seg arr.toList off (ys.1.length * e.sz), one u = true := by
        intro u hu
        obtain ⟨k, hk, rfl⟩ := List.mem_iff_getElem.1 hu
        have hkl : k < ys.1.length * e.sz := by rw [seg_len hsl] at hk; exact hk
        have hpos : 0 < e.sz := by rcases Nat.eq_zero_or_pos e.sz with h0 | h0; · rw [h0] at hkl; simp at hkl
                                   · exact h0
        have hki : k / e.sz < ys.1.length := Nat.div_lt_of_lt_mul (by rw [Nat.mul_comm]; exact hkl)
        have hel := (hr (k / e.sz) _ (List.getElem?_eq_getElem hki)).one
        rw [← hseg _ hki] at hel
        refine hel _ (List.mem_of_getElem? (i := k % e.sz) ?_)
        rw [seg_get, if_pos (Nat.mod_lt _ hpos), show k / e.sz * e.sz + k % e.sz = k by rw [Nat.mul_comm]; exact Nat.div_add_mod k e.sz]
        exact List.getElem?_eq_getElem hk
      refine ⟨seg arr.toList off (ys.1.length * e.sz), Src.ofSlice w hu2 ⟨b, off, none⟩ _ c _ (seg_len hsl) (fun j u hj => ?_) (fun u hu => one' (hone u hu)), hone, fun i z hi => ?_⟩
      · rw [add_none, cell_at hb]
        rw [seg_get] at hj
        split at hj
        · simpa using hj
        · cases hj
      · have hi' := (List.getElem?_eq_some_iff.1 hi).1
        rw [hseg i hi']
        exact lift rfl (hr i z hi)
  · rename_i d s ht2
    have hu2 : P.underlying t2 = some .string := (hT _ _ ht2).1
    obtain ⟨rfl, hs⟩ := slot_str hy
    simp only [Option.map_eq_some_iff] at h
    obtain ⟨z, hz, rfl⟩ := h
    have hz' := as_some hz
    simp only [Sigma.mk.injEq, Ty.sl.injEq] at hz'
    obtain ⟨rfl, hz2⟩ := hz'
    have hz3 := eq_of_heq hz2; subst hz3
    have hlen : (real.toB s).length = s.size := by show (s.data.toList.map _).length = s.size; simp
    refine ⟨byteCells s, ?_, ?_, ?_⟩
    · show Src P 1 t2 (.string s) (real.toB s).length (byteCells s) w
      rw [hlen]; exact Src.ofString w hu2 s
    · intro u hu
      unfold byteCells at hu
      obtain ⟨q, _, rfl⟩ := List.mem_map.1 hu
      rfl
    · intro i q hi
      have hi' : (s.data.toList.map fun b => (b.toNat : Int))[i]? = some q := hi
      simp only [List.getElem?_map, Option.map_eq_some_iff] at hi'
      obtain ⟨bt, hbt, rfl⟩ := hi'
      have hsg : seg (byteCells s) (i * 1) 1 = [.int .u8 bt.toNat] := by
        apply List.ext_getElem?
        intro k
        rw [seg_get]
        by_cases hk : k < 1
        · have : k = 0 := by omega
          subst this
          simp [byteCells, hbt]
        · rw [if_neg hk]; simp; omega
      have hsz : (Ty.int .u8).sz = 1 := rfl
      rw [hsz, hsg]
      have hlt := bt.toNat_lt
      exact ⟨rfl, rfl, by unfold InK IntKind.min IntKind.max; simp only [IntKind.signed, IntKind.bits, Bool.false_eq_true, if_false]; omega⟩
  · cases h
theorem zeroCells_len (z : List Value) (n : Nat) (g : Bool) : (Builtin.zeroCells (valOf g z).cells n).toList.length = n * (valOf g z).cells.size := by
  unfold Builtin.zeroCells; simp
theorem Sim.push {w' : World} (S : Sim Bb w0 O0 av Γ a w β F) (hh : w'.heap = w.heap) (ho : w'.os = w.os) (ht : w'.tape = w.tape) (hu : w'.output = w.output) : Sim Bb w0 O0 av Γ a w' β F := by
  have e : hp w' = hp w := by unfold hp; rw [hh]
  exact ⟨S.size, S.defers, by rw [e]; exact S.slots, by rw [e]; exact S.roots, by rw [e]; exact S.anch, S.ids, S.nodup, by rw [hh]; exact S.own, ⟨ho.trans S.frm.os, ht.trans S.frm.tape, hu.trans S.frm.output, by rw [hh]; exact S.frm.size, by rw [hh]; exact S.frm.block⟩, S.bone, S.base⟩
theorem wp_drawn {x : Value} {v : SV} {Γ1 : Ctx} {β1 : Nat → Value} {F1 : Nat → List Nat} (hr : (execOp a.eval o).run P w = .ok (.value x) w') (S : Sim Bb w0 O0 av Γ1 a w' β1 F1) (hv : SlotR (hp w') (ZdOf Bb F1 Γ1.roots) β1 v x) (hk : Γ1.on o.dst v K) : o.wp P a w (Nx Bb w0 O0 av K) Q := by
  unfold Ctx.on at hk
  split at hk
  · rename_i Γ' e; exact wp_value hr ⟨Γ', β1, F1, hk, S.put hv e⟩
  · exact hk.elim
theorem sound_append (hT : TabOk P T) (S : Sim Bb w0 O0 av Γ a w β F) {x y : Operand} {t t2 : TypeId} (ho : o.op = .call { callee := .builtin .append, args := #[x, y], argTypes := #[t, t2] })
    (hk : opAppend real T Γ o.dst K [t, t2] (Γ.eval x) (Γ.eval y)) : o.wp P a w (Nx Bb w0 O0 av K) Q := by
  have hx := S.eval x
  have hy := S.eval y
  have hrun : ∀ {z w'}, (Builtin.append_ #[t, t2] o.type #[a.eval x, a.eval y]).run P w = .ok z w' → (execOp a.eval o).run P w = .ok (.value z) w' := by
    intro z w' hz
    have e1 : execOp a.eval o = (do pure (Next.value (← Builtin.append_ #[t, t2] o.type (Array.map a.eval #[x, y]))) : Sem Next) := by unfold execOp; rw [ho]; rfl
    have e2 : Array.map a.eval #[x, y] = #[a.eval x, a.eval y] := by simp
    rw [e1, e2]; exact run_v hz
  unfold opAppend at hk
  simp only [] at hk
  split at hk
  · rename_i e ht
    obtain ⟨te, hu, he⟩ := (hT _ _ ht).slice
    obtain ⟨i, hi1, hi2, hi3, hi4, hi5⟩ := he.info
    split at hk
    · rename_i ys hys
      split at hk
      · exact hk.elim
      rename_i hdep
      split at hk
      · -- onto a root
        rename_i r hxe
        rw [hxe] at hx
        split at hk
        · rename_i lvl f xs hr
          split at hk
          · rename_i zs hzs
            have hz' := as_some hzs
            simp only [Sigma.mk.injEq, Ty.sl.injEq] at hz'
            obtain ⟨rfl, hz2⟩ := hz'
            have hz3 := eq_of_heq hz2
            split at hk
            · rename_i hlf
              obtain ⟨hroom, hk⟩ := hk
              have hroom' : xs.length + ys.1.length ≤ 2 ^ 36 := by rw [hz3]; exact hroom
              obtain ⟨news, hsrc, hone, hel⟩ := src_ok hT S (te := te) hy hys hdep hlf
              have hin1 : r ∈ Γ.roots.map (·.1) := List.mem_map.2 ⟨_, look_mem hr, rfl⟩
              have hFn := nodup_F hin1 S.nodup
              obtain ⟨cs, ec, ex⟩ := slot_one hx rfl (by simp)
              have ec' : cs = [β r] := ec
              subst ec'
              have ex' : a.eval x = β r := ex
              obtain ⟨A, c, eb, l1, l2, q⟩ := S.roots r _ (look_mem hr)
              simp only [List.cons.injEq, and_true] at eb
              have S1 := S.soft (soft_kill r)
              have hzz : ZdOf Bb F (Γ.map (kill r)).roots = ZdOf Bb F Γ.roots := ZdOf_ids (mapC_ids _ _)
              have happ : real.app xs zs = xs ++ ys.1 := by rw [hz3]; rfl
              rw [happ] at hk
              have hlenapp : (xs ++ ys.1).length = xs.length + ys.1.length := List.length_append
              have hmax : xs.length + ys.1.length ≤ maxL := by unfold maxL; omega
              -- elements behind a change of the world
              have hflat : ∀ {Bi : List Nat} {cc : List Value} {z : e.den} {h' : Hp} {Z Z' : Nat → Prop}, (lvl = 0 → (∀ b, Z b → (hp w b).isSome → h' b = hp w b ∧ Z' b)) → Own (hp w) Z e lvl Bi cc z → Bi = [] ∧ Own h' Z' e lvl [] cc z := by
                intro Bi cc z h' Z Z' hm oo
                rcases hlf with rfl | hf
                · have := oo.b0; subst this
                  exact ⟨rfl, oo.mono (hm rfl) (fun _ m => by cases m)⟩
                · have := oo.flat (m := lvl) hf; exact ⟨this.1, this.2 _ _⟩
              by_cases hfit : xs.length + ys.1.length ≤ c
              · -- there is room
                rcases q with ⟨rfl, rfl, rfl, hB⟩ | ⟨b, off, arr, ty, Bs, rfl, hb, hl, hB, hn, hq⟩
                · have hy0 : ys.1 = [] := by
                    have : ys.1.length = 0 := by simpa using hfit
                    exact List.eq_nil_of_length_eq_zero this
                  refine wp_drawn (hrun (by rw [ex', eb]; exact run_append_fit hu hi1 (by rw [hi2]; exact hsrc) hfit (w' := w) (fun _ e' => by cases e') (fun _ => rfl))) (S1.setRoot (c := .row lvl e ([] ++ ys.1)) (F' := F) (β' := β) (FitG.of (fit_kill r) Γ) (fun _ _ => rfl) (fun _ _ => rfl) S.bone (mem_mapC_row (look_mem hr)) (fun _ _ _ => rfl) (Nat.le_refl _) rfl rfl rfl (fun _ _ => rfl) ⟨hFn, fun b hb => by rw [hB] at hb; cases hb⟩ ?_) ?_ hk
                  · rw [hy0]
                    refine ⟨none, 0, by rw [eb]; rfl, Nat.le_refl _, Nat.zero_le _, .inl ⟨rfl, rfl, rfl, hB⟩⟩
                  · refine slot_c (v := .ref r) (cs := [.slice none (0 + ys.1.length) 0]) rfl ?_
                    show _ = [β r]
                    rw [eb, hy0]; rfl
                · have hnl := hsrc.newsLen
                  have hcap : off + (xs.length + ys.1.length) * e.sz ≤ arr.size := Nat.le_trans (Nat.add_le_add_left (Nat.mul_le_mul_right _ hfit) _) hl
                  have hst : (storeCells (Addr.add ⟨b, off, none⟩ (xs.length * i.size)) news).run P w = .ok () (upd w b (.cells (splice arr.toList (off + xs.length * e.sz) news).toArray ty (0, 0))) := by
                    rw [add_none, hi2]
                    have := run_storeCells (P := P) news (off + xs.length * e.sz) 0 arr w hb hone (by rw [hnl, Nat.add_zero, Nat.add_assoc, ← Nat.add_mul]; exact hcap)
                    rw [Nat.add_zero] at this; exact this
                  have hBs : ∀ (k : Nat) (Bi : List Nat), Bs[k]? = some Bi → Bi = [] := by
                    intro k Bi hBi
                    have hk' : k < xs.length := by rw [← hn]; exact (List.getElem?_eq_some_iff.1 hBi).1
                    have := hq k _ Bi (List.getElem?_eq_getElem hk') hBi
                    exact (hflat (h' := hp w) (Z' := ZdOf Bb F Γ.roots []) (fun _ b hz _ => ⟨rfl, hz⟩) this).1
                  have hBf : F r = [b] := by
                    rw [hB]
                    have : Bs.flatten = [] := by
                      rw [List.flatten_eq_nil_iff]
                      intro l hl
                      obtain ⟨k, hk, rfl⟩ := List.mem_iff_getElem.1 hl
                      exact hBs k _ (List.getElem?_eq_getElem hk)
                    rw [this]
                  have hlt : b < w.heap.size := (Array.getElem?_eq_some_iff.1 hb).1
                  refine wp_drawn (w' := upd w b (.cells (splice arr.toList (off + xs.length * e.sz) news).toArray ty (0, 0))) (hrun (by rw [ex', eb]; exact run_append_fit hu hi1 (by rw [hi2]; exact hsrc) hfit (fun a' e' => by injection e' with e'; subst e'; exact hst) (fun e' => by cases e')))
                    (S1.setRoot (c := .row lvl e (xs ++ ys.1)) (F' := F) (β' := upF β r (.slice (some ⟨b, off, none⟩) (xs.length + ys.1.length) c)) (FitG.of (fit_kill r) Γ) (fun q hq => upF_ne hq) (fun q hq => upF_ne hq) ?_ (mem_mapC_row (look_mem hr)) (fun q _ hq => upd_ne (by rintro rfl; exact hq (by rw [hBf]; simp))) (by rw [upd_size]; exact Nat.le_refl _) rfl rfl rfl (fun _ _ => rfl) ⟨hFn, fun q hq => ?_⟩ ?_) ?_ hk
                  · intro q; unfold upF; split
                    · rfl
                    · exact S.bone q
                  · rw [upd_size]; exact ⟨(S.own q (mem_allO.2 ⟨r, hin1, hq⟩)).1, .inl hq⟩
                  · rw [hzz]
                    have hZ : ∀ q, ZdOf Bb F Γ.roots [] q → (hp w q).isSome → hp (upd w b (.cells (splice arr.toList (off + xs.length * e.sz) news).toArray ty (0, 0))) q = hp w q ∧ ZdOf Bb F Γ.roots [] q := by
                      intro q hz _
                      refine ⟨upd_ne ?_, hz⟩
                      rintro rfl
                      rcases hz with hz | ⟨_, hz, _⟩
                      · exact hz.1 (mem_allO.2 ⟨r, hin1, by rw [hBf]; simp⟩)
                      · cases hz
                    have hspl : off + xs.length * e.sz + news.length ≤ arr.toList.length := by
                      rw [hnl, Nat.add_assoc, ← Nat.add_mul]; simpa using hcap
                    refine ⟨some ⟨b, off, none⟩, c, by rw [upF_at, hlenapp], by rw [hlenapp]; exact hfit, by rw [hlenapp]; exact hmax, .inr ⟨b, off, _, ty, List.replicate (xs ++ ys.1).length [], rfl, upd_get hb, ?_, ?_, by simp, ?_⟩⟩
                    · simp only [List.size_toArray]; rw [splice_len hspl]; simpa using hl
                    · rw [hBf]; simp
                    · intro k z Bi hz hBi
                      have : Bi = [] := by have := List.mem_of_getElem? hBi; simp at this; exact this.2
                      subst this
                      by_cases hkx : k < xs.length
                      · rw [List.getElem?_append_left hkx] at hz
                        have hkB : k < Bs.length := by rw [hn]; exact hkx
                        have h5 := hq k z _ hz (List.getElem?_eq_getElem hkB)
                        have h6 := (hflat (fun _ => hZ) h5).2
                        have hout : seg (splice arr.toList (off + xs.length * e.sz) news) (off + k * e.sz) e.sz = seg arr.toList (off + k * e.sz) e.sz :=
                          seg_splice_out (.inl (by
                            have : (k + 1) * e.sz ≤ xs.length * e.sz := Nat.mul_le_mul_right _ hkx
                            rw [Nat.add_mul] at this; omega)) hspl
                        simp only []
                        rw [hout]; exact h6
                      · rw [List.getElem?_append_right (by omega)] at hz
                        have hky : k - xs.length < ys.1.length := (List.getElem?_eq_some_iff.1 hz).1
                        have h5 := hel _ z hz
                        have h6 := (hflat (fun _ => hZ) h5).2
                        have hin : seg (splice arr.toList (off + xs.length * e.sz) news) (off + k * e.sz) e.sz = seg news ((k - xs.length) * e.sz) e.sz := by
                          apply List.ext_getElem?
                          intro m
                          rw [seg_get, seg_get]
                          split
                          · rename_i hm
                            have e1 : k * e.sz = xs.length * e.sz + (k - xs.length) * e.sz := by rw [← Nat.add_mul]; congr 1; omega
                            have e2 : (k - xs.length + 1) * e.sz ≤ ys.1.length * e.sz := Nat.mul_le_mul_right _ hky
                            rw [Nat.add_mul] at e2
                            rw [splice_get hspl, if_neg (by omega), if_pos (by omega)]
                            congr 1; omega
                          · rfl
                        simp only []
                        rw [hin]; exact h6
                  · exact slot_c (v := .ref r) (cs := [.slice (some ⟨b, off, none⟩) (xs.length + ys.1.length) c]) rfl (by show _ = [upF β r _ r]; rw [upF_at])
              · -- a new block
                have hgt : c < xs.length + ys.1.length := by omega
                obtain ⟨olds, hold, holdl, hoelt⟩ : ∃ olds : List Value, (Builtin.firstCells i.size xs.length (.slice A xs.length c)).run P w.drew = .ok olds.toArray w.drew ∧ olds.length = xs.length * e.sz ∧ ∀ k z, xs[k]? = some z → Own (hp w) (ZdOf Bb F Γ.roots []) e lvl [] (seg olds (k * e.sz) e.sz) z := by
                  rcases q with ⟨rfl, rfl, rfl, hB⟩ | ⟨b, off, arr, ty, Bs, rfl, hb, hl, hB, hn, hq⟩
                  · exact ⟨[], by simp [Builtin.firstCells], by simp, fun k z hz => by simp at hz⟩
                  · have hle : off + xs.length * e.sz ≤ arr.toList.length := by
                      have := Nat.le_trans (Nat.add_le_add_left (Nat.mul_le_mul_right _ l1) _) hl
                      simpa using this
                    refine ⟨seg arr.toList off (xs.length * e.sz), ?_, seg_len hle, fun k z hz => ?_⟩
                    · rw [hi2]
                      refine run_firstCells_some (P := P) w.drew e.sz xs.length ⟨b, off, none⟩ _ c _ (seg_len hle) (fun j v hj => ?_)
                      rw [add_none, cell_at (w := w.drew) hb]
                      rw [seg_get] at hj
                      split at hj
                      · simpa using hj
                      · cases hj
                    · have hk' := (List.getElem?_eq_some_iff.1 hz).1
                      have hkB : k < Bs.length := by rw [hn]; exact hk'
                      have := (hflat (h' := hp w) (Z' := ZdOf Bb F Γ.roots []) (fun _ b hz _ => ⟨rfl, hz⟩) (hq k z _ hz (List.getElem?_eq_getElem hkB))).2
                      rw [seg_seg (by
                        have h3 : (k + 1) * e.sz ≤ xs.length * e.sz := Nat.mul_le_mul_right _ hk'
                        rw [Nat.add_mul] at h3; omega)]
                      exact this
                have hfits : Builtin.nextslicecap (xs.length + ys.1.length) c * i.bytes ≤ 281474976710656 := growslice_fits hgt (by
                  have : (xs.length + ys.1.length) * i.bytes ≤ 2 ^ 36 * 1024 := Nat.mul_le_mul hroom' hi5
                  omega)
                have hgrow := run_append_grow_src (P := P) w t t2 o.type te i _ hu hi1 hi3 A xs.length c olds hold (a.eval y) ys.1.length news (by rw [hi2]; exact hsrc) hgt (by omega) hfits
                have hcapge : xs.length + ys.1.length ≤ grownCap w (xs.length + ys.1.length) c te := grownCap_ge w _ _ _
                generalize grownCap w (xs.length + ys.1.length) c te = cap' at hgrow hcapge
                generalize hZC : Builtin.zeroCells (valOf e.agg e.zc).cells (cap' - (xs.length + ys.1.length)) = zc at hgrow
                have hzl : zc.size = (cap' - (xs.length + ys.1.length)) * e.sz := by
                  rw [← hZC]; unfold Builtin.zeroCells
                  have h6 : (valOf e.agg e.zc).cells.size = e.sz := by
                    rw [← Array.length_toList, cells_valOf (own_agg (h := hp w) (Z := fun _ => True) (Own.zero e 0)), Ty.zc_len]
                  simp [h6]
                have hwh : (w.drew.alloc (.cells ((olds ++ news).toArray ++ zc) te)).heap = w.heap.push (.cells ((olds ++ news).toArray ++ zc) te (0, 0)) := rfl
                have hws : (w.drew.alloc (.cells ((olds ++ news).toArray ++ zc) te)).heap.size = w.heap.size + 1 := by rw [hwh]; simp
                have hnew' : ∀ q, q < w.heap.size → hp (w.drew.alloc (.cells ((olds ++ news).toArray ++ zc) te)) q = hp w q := fun q hq => by unfold hp; rw [hwh]; exact heap_push q hq
                have hnl := hsrc.newsLen
                refine wp_drawn (hrun (by rw [ex', eb]; exact hgrow))
                  (S1.setRoot (c := .row lvl e (xs ++ ys.1)) (F' := upF F r [w.heap.size]) (β' := upF β r (.slice (some ⟨w.heap.size, 0, none⟩) (xs.length + ys.1.length) cap')) (FitG.of (fit_kill r) Γ) (fun q hq => upF_ne hq) (fun q hq => upF_ne hq) ?_ (mem_mapC_row (look_mem hr)) (fun q hq _ => hnew' q hq) (by omega) rfl rfl rfl (fun q hq => upF_ne hq) ⟨by rw [upF_at]; simp, fun q hq => ?_⟩ ?_) ?_ hk
                · intro q; unfold upF; split
                  · rfl
                  · exact S.bone q
                · rw [upF_at] at hq; simp only [List.mem_singleton] at hq; subst hq; exact ⟨by omega, .inr (Nat.le_refl _)⟩
                · have hZ : ∀ q, ZdOf Bb F Γ.roots [] q → (hp w q).isSome → hp (w.drew.alloc (.cells ((olds ++ news).toArray ++ zc) te)) q = hp w q ∧ ZdOf Bb (upF F r [w.heap.size]) (Γ.map (kill r)).roots [] q := by
                    intro q hz hs
                    have hqlt : q < w.heap.size := by
                      rcases Nat.lt_or_ge q w.heap.size with h | h
                      · exact h
                      · simp [hp, Array.getElem?_eq_none h] at hs
                    refine ⟨hnew' q hqlt, .inl ⟨fun hm => ?_, hz.elim (fun h => h.2) (fun ⟨_, h, _⟩ => by cases h)⟩⟩
                    rw [allO_ids (l := (Γ.map (kill r)).roots) (m := Γ.roots) (mapC_ids _ _)] at hm
                    obtain ⟨q', hq1, hq2⟩ := mem_allO.1 hm
                    by_cases hqr : q' = r
                    · subst hqr; rw [upF_at] at hq2; simp only [List.mem_singleton] at hq2; omega
                    · rw [upF_ne hqr] at hq2
                      rcases hz with hz | ⟨_, hz, _⟩
                      · exact hz.1 (mem_allO.2 ⟨q', hq1, hq2⟩)
                      · cases hz
                  rw [upF_at]
                  refine ⟨some ⟨w.heap.size, 0, none⟩, cap', by rw [upF_at, hlenapp], by rw [hlenapp]; exact hcapge, by rw [hlenapp]; exact hmax, .inr ⟨w.heap.size, 0, (olds ++ news).toArray ++ zc, te, List.replicate (xs ++ ys.1).length [], rfl, ?_, ?_, by simp, by simp, ?_⟩⟩
                  · unfold hp; rw [hwh]; simp
                  · simp only [Array.size_append, List.size_toArray, List.length_append, holdl, hnl, hzl]
                    rw [← Nat.add_mul, ← Nat.add_mul, Nat.add_sub_of_le hcapge]; omega
                  · intro k z Bi hz hBi
                    have : Bi = [] := by have := List.mem_of_getElem? hBi; simp at this; exact this.2
                    subst this
                    rw [Nat.zero_add]
                    have e0 : ((olds ++ news).toArray ++ zc).toList = olds ++ (news ++ zc.toList) := by simp
                    rw [e0]
                    by_cases hkx : k < xs.length
                    · rw [List.getElem?_append_left hkx] at hz
                      rw [seg_left (by
                        have h3 : (k + 1) * e.sz ≤ xs.length * e.sz := Nat.mul_le_mul_right _ hkx
                        rw [Nat.add_mul] at h3; omega)]
                      exact (hflat (fun _ => hZ) (hoelt k z hz)).2
                    · rw [List.getElem?_append_right (by omega)] at hz
                      have hky : k - xs.length < ys.1.length := (List.getElem?_eq_some_iff.1 hz).1
                      have e1 : k * e.sz = olds.length + (k - xs.length) * e.sz := by rw [holdl, ← Nat.add_mul]; congr 1; omega
                      rw [e1, seg_right, seg_left (by
                        have h3 : (k - xs.length + 1) * e.sz ≤ ys.1.length * e.sz := Nat.mul_le_mul_right _ hky
                        rw [Nat.add_mul] at h3; omega)]
                      exact (hflat (fun _ => hZ) (hel _ z hz)).2
                · exact slot_c (v := .ref r) (cs := [.slice (some ⟨w.heap.size, 0, none⟩) (xs.length + ys.1.length) cap']) rfl (by show _ = [upF β r _ r]; rw [upF_at])
            · exact hk.elim
          · exact hk.elim
        · exact hk.elim
      · -- onto nil
        rename_i hxe
        rw [hxe] at hx
        split at hk
        · rename_i hc
          obtain ⟨hnew, hlf⟩ := hc
          obtain ⟨hroom, hk⟩ := hk
          have hroom' : 0 + ys.1.length ≤ 2 ^ 36 := hroom
          obtain ⟨news, hsrc, hone, hel⟩ := src_ok hT S (te := te) hy hys hdep hlf
          obtain ⟨cs, ec, ex⟩ := slot_one hx rfl (by simp)
          have ec' : cs = [.slice none 0 0] := ec
          subst ec'
          have ex' : a.eval x = .slice none 0 0 := ex
          have hmax : ys.1.length ≤ maxL := by unfold maxL; omega
          generalize Γ.new = r at hnew hk
          have hids : ((Γ.map (kill r)).roots).map (·.1) = Γ.roots.map (·.1) := mapC_ids _ _
          by_cases hy0 : ys.1 = []
          · have hyl : ys.1.length = 0 := by rw [hy0]; rfl
            refine wp_drawn (w' := w) (hrun (by rw [ex']; exact run_append_fit hu hi1 (by rw [hi2]; exact hsrc) (by omega) (w' := w) (fun _ e' => by cases e') (fun _ => rfl)))
              ((S.soft (soft_kill r)).addRoot (hdr := .slice none 0 0) (B := []) (FitG.of (fit_kill r) Γ) (by rw [hids]; exact has_false hnew) (fun _ _ => rfl) (Nat.le_refl _) rfl rfl rfl ⟨by simp, fun b hb => by cases hb⟩ rfl ?_) ?_ hk
            · exact ⟨none, 0, by rw [upF_at, hyl], by omega, by omega, .inl ⟨rfl, rfl, hy0, rfl⟩⟩
            · refine slot_c (v := .ref r) (cs := [.slice none (0 + ys.1.length) 0]) rfl ?_
              show _ = [upF β r _ r]
              rw [upF_at, hyl]
          · have hpos : 0 < ys.1.length := by
              rcases Nat.eq_zero_or_pos ys.1.length with h0 | h0
              · exact absurd (List.eq_nil_of_length_eq_zero h0) hy0
              · exact h0
            have hfits : Builtin.nextslicecap (0 + ys.1.length) 0 * i.bytes ≤ 281474976710656 := growslice_fits (by omega) (by
              have : (0 + ys.1.length) * i.bytes ≤ 2 ^ 36 * 1024 := Nat.mul_le_mul hroom' hi5
              omega)
            have hgrow := run_append_grow_src (P := P) w t t2 o.type te i _ hu hi1 hi3 none 0 0 [] (by simp [Builtin.firstCells]) (a.eval y) ys.1.length news (by rw [hi2]; exact hsrc) (by omega) (by omega) hfits
            have hcapge : 0 + ys.1.length ≤ grownCap w (0 + ys.1.length) 0 te := grownCap_ge w _ _ _
            generalize grownCap w (0 + ys.1.length) 0 te = cap' at hgrow hcapge
            generalize hZC : Builtin.zeroCells (valOf e.agg e.zc).cells (cap' - (0 + ys.1.length)) = zc at hgrow
            have hzl : zc.size = (cap' - (0 + ys.1.length)) * e.sz := by
              rw [← hZC]; unfold Builtin.zeroCells
              have h6 : (valOf e.agg e.zc).cells.size = e.sz := by
                rw [← Array.length_toList, cells_valOf (own_agg (h := hp w) (Z := fun _ => True) (Own.zero e 0)), Ty.zc_len]
              simp [h6]
            have hnl := hsrc.newsLen
            simp only [Nat.zero_add, List.nil_append] at hgrow hcapge hzl
            refine wp_drawn (w' := w.drew.alloc (.cells (news.toArray ++ zc) te)) (hrun (by rw [ex']; exact hgrow))
              (S.addRow (w1 := w.drew.alloc (.cells (news.toArray ++ zc) te)) (r := r) (lvl := T.lv t) (e := e) (xs := ys.1) (cs := news.toArray ++ zc) (cap := cap') (ty := te) hnew rfl rfl rfl rfl hcapge hmax ?_ ?_) ?_ hk
            · simp only [Array.size_append, List.size_toArray, hnl, hzl]
              rw [← Nat.add_mul, Nat.add_sub_of_le hcapge]; omega
            · intro Z hZ k z hz
              have hky : k < ys.1.length := (List.getElem?_eq_some_iff.1 hz).1
              have e0 : (news.toArray ++ zc).toList = news ++ zc.toList := by simp
              rw [e0, seg_left (by
                have h3 : (k + 1) * e.sz ≤ ys.1.length * e.sz := Nat.mul_le_mul_right _ hky
                rw [Nat.add_mul] at h3; omega)]
              have h5 := hel k z hz
              rcases hlf with h0 | hf
              · rw [h0] at h5 ⊢
                refine h5.mono (fun b hb hs => ?_) (fun _ m => by cases m)
                have hb' : b < w.heap.size := by
                  rcases Nat.lt_or_ge b w.heap.size with h | h
                  · exact h
                  · simp [hp, Array.getElem?_eq_none h] at hs
                exact ⟨by unfold hp; exact heap_push b hb', hZ b hb hb'⟩
              · exact (h5.flat (m := T.lv t) hf).2 _ _
            · exact slot_c (v := .ref r) (cs := [.slice (some ⟨w.heap.size, 0, none⟩) ys.1.length cap']) rfl (by show _ = [upF β r _ r]; rw [upF_at])
        · exact hk.elim
      · exact hk.elim
    · exact hk.elim
  · exact hk.elim
end
end Go.Proofs.YtjpeblicfhfniaaDoor.Eng
