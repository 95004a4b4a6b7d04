/- The engine: iterators over strings. No condition. -/
import Derived.Test.YtmjeghlfmhbjdaaDoorEn2
import Derived.Laws.RangeAny
import Derived.Laws.StructEq
import Derived.Lib.BufferWrite
namespace Go.Proofs.YtmjeghlfmhbjdaaDoor.Eng
open Go.RowKit
set_option linter.unusedVariables false
set_option linter.unusedSimpArgs false
/-- A choice on a bit that the machine may not know. -/
def spl (c : Bool) (A B : Unit → Prop) : Prop := match c with | true => A () | false => B ()
theorem spl_intro {c : Bool} {A B : Unit → Prop} (h : c = true → A ()) (h' : c = false → B ()) : spl c A B := by cases c <;> simp_all [spl]
theorem spl_cases {c : Bool} {A B : Unit → Prop} (h : spl c A B) : (c = true ∧ A ()) ∨ (c = false ∧ B ()) := by cases c <;> simp_all [spl]
section
variable (M : Mth) (T : Tab) (Γ : Ctx) (d : Option Nat) (K : Ctx → Prop)
def opRange (t : TypeId) (x : SV) : Prop :=
 match T.ty t, x with
 | some .str, .pv _ .str s => match has Γ.new Γ.roots with
  | false => ((Γ.map (kill Γ.new)).add Γ.new (.iter s 0)).on d (.ad Γ.new .unit 0 []) K
  | true => False
 | _, _ => False
def opNext (x : SV) (str : Bool) : Prop :=
 match x, str with
 | .ad r .unit i [], true => if i = 0 then match look r Γ.roots with
   | some (.iter s p) => spl (M.dec (M.lt p (M.sLen s)))
     (fun _ => ((Γ.map (killD r)).set r (.iter s (M.add p (M.runeW s p)))).on d (.consT (.pv [] .bool true) (.consT (.pv [] (.int .i64) p) (.consT (.pv [] (.int .i32) (M.rune s p)) .nilT))) K)
     (fun _ => Γ.on d (.consT (.pv [] .bool false) .nilT) K)
   | _ => False
  else False
 | _, _ => False
end
section
variable {P : Program} {T : Tab} {Bb : Nat → Prop} {w0 : World} {O0 : List Nat} {av : List Value} {Γ Γ' : Ctx} {a : Act} {w w' : World} {β : Nat → Value} {F : Nat → List Nat} {K : Ctx → Prop} {o : Oper} {Q : Exit → Act → World → Prop}
theorem sound_range (hT : TabOk P T) (S : Sim Bb w0 O0 av Γ a w β F) {t : TypeId} {x : Operand} (ho : o.op = .range t x) (hk : opRange T Γ o.dst K t (Γ.eval x)) : o.wp P a w (Nx Bb w0 O0 av K) Q := by
 have hx := S.eval x
 unfold opRange at hk
 split at hk
 ·rename_i dd s ht hxe
  have hu : P.underlying t = some .string := (hT.ty _ _ ht).1
  rw [hxe] at hx
  obtain ⟨e1, hs⟩ := slot_str hx
  split at hk
  ·rename_i hnew
   generalize Γ.new = r at *
   have hnr := has_false hnew
   have hids : ((Γ.map (kill r)).roots).map (·.1) = Γ.roots.map (·.1) := mapC_ids _ _
   have hr : (execOp a.eval o).run P w = .ok (.value (.pointer (some ⟨w.heap.size, 0, none⟩))) { w with heap := w.heap.push (.stringIter s 0) } := by
    unfold execOp; rw [ho]
    refine run_v ?_
    rw [e1]
    simp [Instr.range, _root_.Go.run_underlying hu]
   refine wp_drawn hr ((S.soft (soft_kill r)).addRoot (c := .iter s 0) (hdr := .pointer (some ⟨w.heap.size, 0, none⟩)) (B := [w.heap.size]) (FitG.of (fit_kill r) Γ) (by rw [hids]; exact hnr) (fun q hq => heap_push q hq) (by simp) rfl rfl rfl ⟨by simp, fun b hb => ?_⟩ rfl ?_) ?_ hk
   ·simp only [List.mem_singleton] at hb; subst hb; simp
   ·exact ⟨w.heap.size, 0, upF_at, rfl, heap_push_new, rfl, hs⟩
   ·refine slot_c (v := .ad r .unit 0 []) (cs := [.pointer (some ⟨w.heap.size, 0, none⟩)]) rfl ⟨w.heap.size, 0, by rw [upF_at]; rfl, by rw [offAt_nil]; simp⟩
  ·exact hk.elim
 ·exact hk.elim
theorem run_next_some {b n : Nat} {s : ByteArray} {ty : TypeId} (hb : w.heap[b]? = some (.stringIter s n)) (hn : n < s.size) :
  (Instr.next (.pointer (some ⟨b, 0, none⟩)) true ty).run P w = .ok (.tuple #[.bool true, .int .i64 n, .int .i32 (Utf8.decode s n).1]) (upd w b (.stringIter s (n + (Utf8.decode s n).2))) := by
 simp only [Instr.next, getObj, setObj, Sem.run_bind, Sem.run, hb, Result.andThen, hn, if_true]
 simp [goInt, upd]
theorem run_next_none {b n : Nat} {s : ByteArray} {ty : TypeId} (hb : w.heap[b]? = some (.stringIter s n)) (hn : ¬ n < s.size) :
  (Instr.next (.pointer (some ⟨b, 0, none⟩)) true ty).run P w = .ok (.tuple #[.bool false]) w := by
 simp [Instr.next, getObj, Sem.run, hb, hn]
theorem slot1_int {h : Hp} {Zd : List Nat → Nat → Prop} {k : IntKind} {y : Int} (hk : InK k y) : Slot1 h Zd β (.pv [] (.int k) y) (.int k y) := .inr ⟨[.int k y], ⟨rfl, rfl, hk⟩, rfl⟩
theorem slot1_bool {h : Hp} {Zd : List Nat → Nat → Prop} {y : Bool} : Slot1 h Zd β (.pv [] .bool y) (.bool y) := .inr ⟨[.bool y], ⟨rfl, rfl⟩, rfl⟩
theorem sound_next (S : Sim Bb w0 O0 av Γ a w β F) {x : Operand} {str : Bool} (ho : o.op = .next x str) (hk : opNext real Γ o.dst K (Γ.eval x) str) : o.wp P a w (Nx Bb w0 O0 av K) Q := by
 have hx := S.eval x
 unfold opNext at hk
 split at hk
 ·rename_i r i hxe
  rw [hxe] at hx
  split at hk
  ·rename_i hi
   subst hi
   split at hk
   ·rename_i s p hr
    obtain ⟨cs, ⟨b, off, hb, rfl⟩, ex⟩ := slot_one hx rfl (by simp)
    obtain ⟨b', n, q1, q2, q3, q4, q5⟩ := S.roots r _ (look_mem hr)
    rw [q1] at hb
    simp only [baseA, Option.some.injEq, Prod.mk.injEq] at hb
    obtain ⟨rfl, rfl⟩ := hb
    have ex' : a.eval x = .pointer (some ⟨b', 0, none⟩) := by rw [ex]; simp [valOf, SV.isAgg, offAt]
    have hrun : ∀ {z w'}, (Instr.next (.pointer (some ⟨b', 0, none⟩)) true o.type).run P w = .ok z w' → (execOp a.eval o).run P w = .ok (.value z) w' := by
     intro z w' hz
     unfold execOp; rw [ho]
     refine run_v ?_
     rw [ex']; exact hz
    have q3' : w.heap[b']? = some (.stringIter s n) := q3
    have hlt : real.dec (real.lt p (real.sLen s)) = true ↔ n < s.size := by
     rw [dec_iff, q4]; show (n : Int) < (s.size : Int) ↔ _; omega
    rcases spl_cases hk with ⟨hc, hk⟩ | ⟨hc, hk⟩
    ·have hn := hlt.1 hc
     have hin1 : r ∈ Γ.roots.map (·.1) := List.mem_map.2 ⟨_, look_mem hr, rfl⟩
     have S1 := S.soft (soft_killD r)
     have hzz : ZdOf Bb F (Γ.map (killD r)).roots = ZdOf Bb F Γ.roots := ZdOf_ids (mapC_ids _ _)
     have hk1 : InK .i64 p := by
      rw [q4]; unfold InK IntKind.min IntKind.max; unfold maxL at q5; simp [IntKind.signed, IntKind.bits]; omega
     have hk2 : InK .i32 (real.rune s p) := by
      have := decode_le s n
      show InK .i32 ((Utf8.decode s p.toNat).1 : Int)
      rw [q4, Int.toNat_natCast]; unfold InK IntKind.min IntKind.max; simp [IntKind.signed, IntKind.bits]; omega
     have hadd : real.add p (real.runeW s p) = ((n + (Utf8.decode s n).2 : Nat) : Int) := by
      show p + ((Utf8.decode s p.toNat).2 : Int) = _
      rw [q4, Int.toNat_natCast]; omega
     rw [hadd] at hk
     refine wp_drawn (hrun (run_next_some q3' hn)) (S1.setRoot (c := .iter s ((n + (Utf8.decode s n).2 : Nat) : Int)) (FitG.of (fit_killD r) Γ) (fun _ _ => rfl) (fun _ _ => rfl) S.bone (mem_mapC_iter (look_mem hr)) (F' := F) (fun q _ hq => ?_) (by rw [upd_size]; exact Nat.le_refl _) rfl rfl rfl (fun _ _ => rfl) ⟨nodup_F hin1 S.nodup, fun q hq => ?_⟩ ?_) ?_ hk
     ·exact upd_ne (fun e => hq (by rw [q2, e]; simp))
     ·rw [upd_size]; exact ⟨(S.own q (mem_allO.2 ⟨r, hin1, hq⟩)).1, .inl hq⟩
     ·exact ⟨b', n + (Utf8.decode s n).2, q1, q2, upd_get q3', rfl, q5⟩
     ·have hrn : real.rune s p = ((Utf8.decode s n).1 : Int) := by
       show ((Utf8.decode s p.toNat).1 : Int) = _
       rw [q4, Int.toNat_natCast]
      refine .inl ⟨rfl, [.bool true, .int .i64 n, .int .i32 (Utf8.decode s n).1], rfl, _, _, rfl, slot1_bool, _, _, rfl, ?_, _, _, rfl, ?_, rfl⟩
      ·have := slot1_int (β := β) (h := hp (upd w b' (.stringIter s (n + (Utf8.decode s n).2)))) (Zd := ZdOf Bb F ((Γ.map (killD r)).set r (.iter s ((n + (Utf8.decode s n).2 : Nat) : Int))).roots) hk1
       rw [← q4]; exact this
      ·have := slot1_int (β := β) (h := hp (upd w b' (.stringIter s (n + (Utf8.decode s n).2)))) (Zd := ZdOf Bb F ((Γ.map (killD r)).set r (.iter s ((n + (Utf8.decode s n).2 : Nat) : Int))).roots) hk2
       rw [← hrn]; exact this
    ·have hn : ¬ n < s.size := fun h => by rw [hlt.2 h] at hc; cases hc
     refine wp_drawn (hrun (run_next_none q3' hn)) S ?_ hk
     exact .inl ⟨rfl, [.bool false], rfl, _, _, rfl, slot1_bool, rfl⟩
   ·exact hk.elim
  ·exact hk.elim
 ·exact hk.elim
end
end Go.Proofs.YtmjeghlfmhbjdaaDoor.Eng

/- The engine: maps. No condition. -/
namespace Go.Proofs.YtmjeghlfmhbjdaaDoor.Eng
open Go.RowKit
set_option linter.unusedVariables false
set_option linter.unusedSimpArgs false
/-! ### keys -/
def isKey : Ty → Bool
 | .int _ => true | .str => true | .bool => true | _ => false
def keyV : (t : Ty) → t.den → Value
 | .int k, x => .int k x
 | .str, s => .string s
 | .bool, b => .bool b
 | _, _ => undef
def keyD : Ty → TypeDesc
 | .int k => .int k | .str => .string | _ => .bool
section
variable (M : Mth) (T : Tab) (Γ : Ctx) (d : Option Nat) (K : Ctx → Prop)
def opMakeMap (t : TypeId) : Prop :=
 match T.ty t with
 | some (.mp k v) => match has Γ.new Γ.roots with
  | false => ((Γ.map (kill Γ.new)).add Γ.new (.mp k v [])).on d (.ref Γ.new) K
  | true => False
 | _ => False
def opInsert (t : TypeId) (x k v : SV) : Prop :=
 match T.ty t with
 | some (.mp kt vt) => match x with
  | .ref r => match look r Γ.roots with
   | some (.mp kt' vt' xs) => if kt' = kt ∧ vt' = vt ∧ isKey kt' = true then
     match den0 Γ.roots kt' k, den0 Γ.roots vt' v with
     | some q, some y => if vt'.hasSl = true ∧ isD y.2 = false then False else
       K ((Γ.map (killD r)).set r (.mp kt' vt' (M.mput xs q.1 y.1)))
     | _, _ => False
    else False
   | _ => False
  | _ => False
 | _ => False
def opDelete (t : TypeId) (x k : SV) : Prop :=
 match T.ty t with
 | some (.mp kt vt) => match x with
  | .ref r => match look r Γ.roots with
   | some (.mp kt' vt' xs) => if kt' = kt ∧ vt' = vt ∧ isKey kt' = true then
     match den0 Γ.roots kt' k with
     | some q => ((Γ.map (killD r)).set r (.mp kt' vt' (M.mdel xs q.1))).on d .nilT K
     | _ => False
    else False
   | _ => False
  | _ => False
 | _ => False
def opLookup (t : TypeId) (x k : SV) (commaOk : Bool) : Prop :=
 match T.ty t with
 | some (.mp kt vt) => match den0 Γ.roots (.mp kt vt) x, den0 Γ.roots kt k with
  | some m, some q => match m.1 with
   | none => False
   | some xs => if isKey kt = true then
     let v : SV := .pv (if vt.hasSl then m.2 else []) vt (M.mget xs q.1 vt.zero)
     match commaOk with
     | true => Γ.on d (.consT v (.consT (.pv [] .bool (M.dec (M.mhas xs q.1))) .nilT)) K
     | false => Γ.on d v K
    else False
  | _, _ => False
 | _ => False
end
/-! ### lists -/
section
variable {α γ : Type}
theorem rget_out {xs : List (α × γ)} {k : α} {d : γ} (h : k ∉ xs.map (·.1)) : rget xs k d = d := by
 induction xs with
 | nil => rfl
 | cons p l ih =>
  simp only [List.map_cons, List.mem_cons, not_or] at h
  unfold rget; rw [if_neg (fun e => h.1 e.symm)]; exact ih h.2
theorem rput_out {xs : List (α × γ)} {k : α} {v : γ} (h : k ∉ xs.map (·.1)) : rput xs k v = xs ++ [(k, v)] := by
 induction xs with
 | nil => rfl
 | cons p l ih =>
  simp only [List.map_cons, List.mem_cons, not_or] at h
  unfold rput; rw [if_neg (fun e => h.1 e.symm), ih h.2]; rfl
theorem rdel_out {xs : List (α × γ)} {k : α} (h : k ∉ xs.map (·.1)) : rdel xs k = xs := by
 induction xs with
 | nil => rfl
 | cons p l ih =>
  simp only [List.map_cons, List.mem_cons, not_or] at h
  unfold rdel; rw [if_neg (fun e => h.1 e.symm), ih h.2]
theorem rget_at {xs : List (α × γ)} {k : α} {d : γ} {i : Nat} {x : α × γ} (h1 : xs[i]? = some x) (h2 : x.1 = k) (h3 : ∀ j y, j < i → xs[j]? = some y → y.1 ≠ k) : rget xs k d = x.2 := by
 induction xs generalizing i with
 | nil => cases h1
 | cons p l ih =>
  unfold rget
  cases i with
  | zero => simp only [List.getElem?_cons_zero, Option.some.injEq] at h1; subst h1; rw [if_pos h2]
  | succ i =>
   rw [if_neg (h3 0 p (by omega) rfl)]
   exact ih (by simpa using h1) (fun j y hj hy => h3 (j + 1) y (by omega) (by simpa using hy))
theorem rput_at {xs : List (α × γ)} {k : α} {v : γ} {i : Nat} {x : α × γ} (h1 : xs[i]? = some x) (h2 : x.1 = k) (h3 : ∀ j y, j < i → xs[j]? = some y → y.1 ≠ k) : rput xs k v = xs.set i (k, v) := by
 induction xs generalizing i with
 | nil => cases h1
 | cons p l ih =>
  unfold rput
  cases i with
  | zero => simp only [List.getElem?_cons_zero, Option.some.injEq] at h1; subst h1; rw [if_pos h2]; rfl
  | succ i =>
   rw [if_neg (h3 0 p (by omega) rfl), ih (by simpa using h1) (fun j y hj hy => h3 (j + 1) y (by omega) (by simpa using hy))]; rfl
theorem rdel_at {xs : List (α × γ)} {k : α} {i : Nat} {x : α × γ} (h1 : xs[i]? = some x) (h2 : x.1 = k) (h3 : ∀ j y, j < i → xs[j]? = some y → y.1 ≠ k) : rdel xs k = xs.eraseIdx i := by
 induction xs generalizing i with
 | nil => cases h1
 | cons p l ih =>
  unfold rdel
  cases i with
  | zero => simp only [List.getElem?_cons_zero, Option.some.injEq] at h1; subst h1; rw [if_pos h2]; rfl
  | succ i =>
   rw [if_neg (h3 0 p (by omega) rfl), ih (by simpa using h1) (fun j y hj hy => h3 (j + 1) y (by omega) (by simpa using hy))]; rfl
end
section
variable {P : Program} {T : Tab} {Bb : Nat → Prop} {w0 : World} {O0 : List Nat} {av : List Value} {Γ Γ' : Ctx} {a : Act} {w w' : World} {β : Nat → Value} {F : Nat → List Nat} {K : Ctx → Prop} {o : Oper} {Q : Exit → Act → World → Prop}
theorem own_key {h : Hp} {Z : Nat → Prop} {t : Ty} {B : List Nat} {cs : List Value} {x : t.den} (hk : isKey t = true) (o : Own h Z t 0 B cs x) : valOf t.agg cs = keyV t x := by
 cases t <;> first | (cases hk; done) | skip
 ·obtain ⟨_, rfl, _⟩ := o; rfl
 ·obtain ⟨_, rfl⟩ := o; rfl
 ·obtain ⟨_, rfl, _⟩ := o; rfl
theorem key_under {t : Ty} {n : TypeId} (hk : isKey t = true) (h : TyOk P t n) : P.underlying n = some (keyD t) := by
 cases t <;> first | (cases hk; done) | skip
 ·exact h.1
 ·exact h.1
 ·exact h.1
theorem bytes_beq (x y : ByteArray) : (x == y) = true ↔ x = y := by
 constructor
 ·intro h
  have h1 : (x.data == y.data) = true := h
  exact ByteArray.ext (beq_iff_eq.1 h1)
 ·rintro rfl
  show (x.data == x.data) = true
  exact beq_iff_eq.2 rfl
theorem key_same {t : Ty} (hk : isKey t = true) (x y : t.den) : Instr.sameNow (keyD t) (keyV t x) (keyV t y) = some (@decide (x = y) (Classical.propDecidable _)) := by
 cases t <;> first | (cases hk; done) | skip
 ·simp only [keyD, keyV, Instr.sameNow, if_true, Option.some.injEq]; rw [Bool.eq_iff_iff]; simp
 ·simp only [keyD, keyV, Instr.sameNow, Option.some.injEq]; rw [Bool.eq_iff_iff]; simp
 ·simp only [keyD, keyV, Instr.sameNow, Option.some.injEq]; rw [Bool.eq_iff_iff, @decide_eq_true_iff _ (Classical.propDecidable _)]; exact bytes_beq x y
theorem key_bits {t : Ty} (hk : isKey t = true) (x : t.den) (n : Nat) : Instr.sameBits n (keyV t x) (keyV t x) = true := by
 cases t <;> first | (cases hk; done) | skip
 ·simp [keyV, Instr.sameBits]
 ·simp [keyV, Instr.sameBits]
 ·simp only [keyV, Instr.sameBits]; exact (bytes_beq x x).2 rfl
theorem run_checkKey {t : Ty} {n : TypeId} {b : Bool} {v : Value} (hk : isKey t = true) (h : TyOk P t n) : (Instr.checkKey b 10000 n v).run P w = .ok () w := by
 have hu := key_under hk h
 have e : (10000 : Nat) = 9999 + 1 := rfl
 rw [e]
 unfold Instr.checkKey
 show (Sem.bind _ _).run P w = _
 rw [run_bind_ok (run_under hu)]
 cases t <;> first | (cases hk; done) | rfl
/-- Where a key stands among the entries. -/
theorem find_run {kt : Ty} {γ : Type} {va : Bool} {RK : List Value → kt.den → Prop} {RV : List Value → γ → Prop} {es : Array MapEntry} {cl : Nat} {xs : List (kt.den × γ)} {tk : TypeId} (hk : isKey kt = true) (ht : TyOk P kt tk) (hR : ∀ c x, RK c x → valOf kt.agg c = keyV kt x) (m : MapR kt.agg va RK RV es cl xs) (k : kt.den) :
  (k ∉ xs.map (·.1) ∧ (Instr.findKey tk (keyV kt k) es.toList).run P w = .ok none w) ∨
  ∃ i e x, es[i]? = some e ∧ xs[i]? = some x ∧ x.1 = k ∧ (∀ j y, j < i → xs[j]? = some y → y.1 ≠ k) ∧ (Instr.findKey tk (keyV kt k) es.toList).run P w = .ok (some (i, e.val)) w := by
 have hkey : ∀ (i : Nat) e x, es.toList[i]? = some e → xs[i]? = some x → e.key = keyV kt x.1 := fun i e x h1 h2 => by
  obtain ⟨ck, h3, h4⟩ := m.key i e x (by simpa using h1) h2
  rw [h3]; exact hR _ _ h4
 have hrun : ∀ {r}, Instr.findNow (keyD kt) (keyV kt k) es.toList 0 = some r → (Instr.findKey tk (keyV kt k) es.toList).run P w = .ok r w := by
  intro r hr
  unfold Instr.findKey
  show (Sem.bind _ _).run P w = _
  rw [run_bind_ok (run_under (key_under hk ht)), hr]; rfl
 have hlen : es.toList.length = xs.length := by simpa using m.len
 have key : ∀ (l : List MapEntry) (ys : List (kt.den × γ)) (i : Nat), l.length = ys.length → (∀ (j : Nat) e y, l[j]? = some e → ys[j]? = some y → e.key = keyV kt y.1) →
   (k ∉ ys.map (·.1) ∧ Instr.findNow (keyD kt) (keyV kt k) l i = some none) ∨ ∃ j e x, l[j]? = some e ∧ ys[j]? = some x ∧ x.1 = k ∧ (∀ j' y, j' < j → ys[j']? = some y → y.1 ≠ k) ∧ Instr.findNow (keyD kt) (keyV kt k) l i = some (some (i + j, e.val)) := by
  intro l
  induction l with
  | nil =>
   intro ys i hl _
   cases ys with
   | nil => exact .inl ⟨by simp, rfl⟩
   | cons _ _ => cases hl
  | cons e l ih =>
   intro ys i hl hh
   cases ys with
   | nil => cases hl
   | cons y ys =>
    have he := hh 0 e y rfl rfl
    have hs := key_same hk k y.1
    by_cases hky : k = y.1
    ·right
     refine ⟨0, e, y, rfl, rfl, hky.symm, fun j' _ hj => by omega, ?_⟩
     unfold Instr.findNow; rw [he, hs, @decide_eq_true _ (Classical.propDecidable _) hky]; rfl
    ·have hf : Instr.findNow (keyD kt) (keyV kt k) (e :: l) i = Instr.findNow (keyD kt) (keyV kt k) l (i + 1) := by
      conv => lhs; unfold Instr.findNow
      rw [he, hs, @decide_eq_false _ (Classical.propDecidable _) hky]
     rcases ih ys (i + 1) (by simpa using hl) (fun j e' y' h1 h2 => hh (j + 1) e' y' h1 h2) with ⟨h1, h2⟩ | ⟨j, e', x, h1, h2, h3, h4, h5⟩
     ·exact .inl ⟨by simp only [List.map_cons, List.mem_cons, not_or]; exact ⟨hky, h1⟩, hf.trans h2⟩
     ·refine .inr ⟨j + 1, e', x, h1, h2, h3, fun j' z hj hz => ?_, ?_⟩
      ·cases j' with
       | zero => simp only [List.getElem?_cons_zero, Option.some.injEq] at hz; subst hz; exact fun e => hky e.symm
       | succ j' => exact h4 j' z (by omega) (by simpa using hz)
      ·rw [hf, h5, show i + (j + 1) = i + 1 + j by omega]
 rcases key es.toList xs 0 hlen hkey with ⟨h1, h2⟩ | ⟨j, e, x, h1, h2, h3, h4, h5⟩
 ·exact .inl ⟨h1, hrun h2⟩
 ·exact .inr ⟨j, e, x, by simpa using h1, h2, h3, h4, hrun (by rw [h5]; simp)⟩
/-! ### what an entry's change leaves -/
theorem MapR.push {α γ : Type} {ka va : Bool} {RK : List Value → α → Prop} {RV : List Value → γ → Prop} {es : Array MapEntry} {cl : Nat} {xs : List (α × γ)} (m : MapR ka va RK RV es cl xs) {ck cv : List Value} {k : α} {v : γ} (hk : RK ck k) (hv : RV cv v) :
  MapR ka va RK RV (es.push ⟨valOf ka ck, valOf va cv, cl⟩) (cl + 1) (xs ++ [(k, v)]) := by
 have at_ : ∀ (i : Nat) (e : MapEntry) (x : α × γ), (es.push ⟨valOf ka ck, valOf va cv, cl⟩)[i]? = some e → (xs ++ [(k, v)])[i]? = some x → (es[i]? = some e ∧ xs[i]? = some x) ∨ (e = ⟨valOf ka ck, valOf va cv, cl⟩ ∧ x = (k, v)) := by
  intro i e x h1 h2
  rw [Array.getElem?_push] at h1
  rw [List.getElem?_append] at h2
  split at h1
  ·rename_i hi
   rw [m.len] at hi
   rw [if_neg (by omega), hi, Nat.sub_self] at h2
   cases h1; cases h2; exact .inr ⟨rfl, rfl⟩
  ·rename_i hi
   have hlt : i < es.size := (Array.getElem?_eq_some_iff.1 h1).1
   rw [if_pos (by rw [← m.len]; exact hlt)] at h2
   exact .inl ⟨h1, h2⟩
 refine ⟨by simp [m.len], fun i e x h1 h2 => ?_, fun i e x h1 h2 => ?_, ?_, ?_⟩
 ·rcases at_ i e x h1 h2 with ⟨h3, h4⟩ | ⟨rfl, rfl⟩
  ·exact m.key i e x h3 h4
  ·exact ⟨ck, rfl, hk⟩
 ·rcases at_ i e x h1 h2 with ⟨h3, h4⟩ | ⟨rfl, rfl⟩
  ·exact m.val i e x h3 h4
  ·exact ⟨cv, rfl, hv⟩
 ·simp only [Array.toList_push, List.map_append, List.map_cons, List.map_nil]
  rw [List.nodup_append]
  refine ⟨m.nodup, by simp, fun a ha b hb e => ?_⟩
  simp only [List.mem_singleton] at hb
  obtain ⟨x, hx, rfl⟩ := List.mem_map.1 ha
  have := m.born x hx
  omega
 ·intro e he
  simp only [Array.toList_push, List.mem_append, List.mem_singleton] at he
  rcases he with he | rfl
  ·have := m.born e he; omega
  ·show cl < cl + 1; omega
theorem MapR.modify {α γ : Type} {ka va : Bool} {RK : List Value → α → Prop} {RV : List Value → γ → Prop} {es : Array MapEntry} {cl : Nat} {xs : List (α × γ)} (m : MapR ka va RK RV es cl xs) {ck cv : List Value} {k : α} {v : γ} (hk : RK ck k) (hv : RV cv v) {i : Nat} :
  MapR ka va RK RV (es.modify i fun e => { e with key := valOf ka ck, val := valOf va cv }) cl (xs.set i (k, v)) := by
 have at_ : ∀ (j : Nat) (e : MapEntry) (x : α × γ), (es.modify i fun e => { e with key := valOf ka ck, val := valOf va cv })[j]? = some e → (xs.set i (k, v))[j]? = some x → (es[j]? = some e ∧ xs[j]? = some x) ∨ (e.key = valOf ka ck ∧ e.val = valOf va cv ∧ x = (k, v)) := by
  intro j e x h1 h2
  rw [Array.getElem?_modify] at h1
  rw [List.getElem?_set] at h2
  split at h1
  ·rename_i hij
   rw [if_pos hij] at h2
   split at h2
   ·cases h2
    simp only [Option.map_eq_some_iff] at h1
    obtain ⟨e0, _, rfl⟩ := h1
    exact .inr ⟨rfl, rfl, rfl⟩
   ·cases h2
  ·rename_i hij
   rw [if_neg hij] at h2
   exact .inl ⟨h1, h2⟩
 have hb : (es.modify i fun e => { e with key := valOf ka ck, val := valOf va cv }).toList.map (·.born) = es.toList.map (·.born) := by
  apply List.ext_getElem?
  intro j
  simp only [List.getElem?_map, Array.getElem?_toList, Array.getElem?_modify]
  split
  ·rw [Option.map_map]; rfl
  ·rfl
 refine ⟨by simp [m.len], fun j e x h1 h2 => ?_, fun j e x h1 h2 => ?_, by rw [hb]; exact m.nodup, fun e he => ?_⟩
 ·rcases at_ j e x h1 h2 with ⟨h3, h4⟩ | ⟨h3, _, rfl⟩
  ·exact m.key j e x h3 h4
  ·exact ⟨ck, h3, hk⟩
 ·rcases at_ j e x h1 h2 with ⟨h3, h4⟩ | ⟨_, h3, rfl⟩
  ·exact m.val j e x h3 h4
  ·exact ⟨cv, h3, hv⟩
 ·have : e.born ∈ es.toList.map (·.born) := by rw [← hb]; exact List.mem_map.2 ⟨e, he, rfl⟩
  obtain ⟨e0, h1, h2⟩ := List.mem_map.1 this
  rw [← h2]; exact m.born e0 h1
theorem MapR.erase {α γ : Type} {ka va : Bool} {RK : List Value → α → Prop} {RV : List Value → γ → Prop} {es : Array MapEntry} {cl : Nat} {xs : List (α × γ)} (m : MapR ka va RK RV es cl xs) {i : Nat} (hi : i < es.size) :
  MapR ka va RK RV (es.eraseIdxIfInBounds i) cl (xs.eraseIdx i) := by
 have e1 : (es.eraseIdxIfInBounds i).toList = es.toList.eraseIdx i := by
  unfold Array.eraseIdxIfInBounds; rw [dif_pos hi]; simp
 have at_ : ∀ (j : Nat) (e : MapEntry) (x : α × γ), (es.eraseIdxIfInBounds i)[j]? = some e → (xs.eraseIdx i)[j]? = some x → ∃ j' : Nat, es[j']? = some e ∧ xs[j']? = some x := by
  intro j e x h1 h2
  rw [← Array.getElem?_toList, e1, List.getElem?_eraseIdx] at h1
  rw [List.getElem?_eraseIdx] at h2
  split at h1
  ·rename_i h; rw [if_pos h] at h2; exact ⟨j, by simpa using h1, h2⟩
  ·rename_i h; rw [if_neg h] at h2; exact ⟨j + 1, by simpa using h1, h2⟩
 have hsub : (es.eraseIdxIfInBounds i).toList.Sublist es.toList := by rw [e1]; exact List.eraseIdx_sublist ..
 refine ⟨?_, fun j e x h1 h2 => ?_, fun j e x h1 h2 => ?_, (hsub.map _).nodup m.nodup, fun e he => m.born e (hsub.subset he)⟩
 ·have e2 := congrArg List.length e1
  simp only [List.length_eraseIdx, Array.length_toList] at e2 ⊢
  rw [e2, m.len]
 ·obtain ⟨j', h3, h4⟩ := at_ j e x h1 h2; exact m.key j' e x h3 h4
 ·obtain ⟨j', h3, h4⟩ := at_ j e x h1 h2; exact m.val j' e x h3 h4
/-! ### the operations -/
theorem sound_makeMap (hT : TabOk P T) (S : Sim Bb w0 O0 av Γ a w β F) {t : TypeId} (ho : o.op = .makeMap t none) (hk : opMakeMap T Γ o.dst K t) : o.wp P a w (Nx Bb w0 O0 av K) Q := by
 unfold opMakeMap at hk
 split at hk
 ·rename_i kt vt ht
  split at hk
  ·rename_i hnew
   generalize Γ.new = r at *
   have hnr := has_false hnew
   have hids : ((Γ.map (kill r)).roots).map (·.1) = Γ.roots.map (·.1) := mapC_ids _ _
   have hr : (execOp a.eval o).run P w = .ok (.value (.map (some w.heap.size))) { w with heap := w.heap.push (.map #[] 0) } := by
    unfold execOp; rw [ho]
    refine run_v ?_
    simp [Instr.makeMap, newObj, Sem.run, bind, Sem.bind, pure]
   refine wp_drawn hr ((S.soft (soft_kill r)).addRoot (c := .mp kt vt []) (hdr := .map (some w.heap.size)) (B := [w.heap.size]) (FitG.of (fit_kill r) Γ) (by rw [hids]; exact hnr) (fun q hq => heap_push q hq) (by simp) rfl rfl rfl ⟨by simp, fun b hb => ?_⟩ rfl ?_) ?_ hk
   ·simp only [List.mem_singleton] at hb; subst hb; simp
   ·show Own _ _ (.mp kt vt) 1 _ [upF β r _ r] (some [])
    rw [upF_at]
    exact ⟨w.heap.size, #[], 0, rfl, heap_push_new, rfl, ⟨rfl, fun i e x h => by simp at h, fun i e x h => by simp at h, .nil, fun e he => by simp at he⟩⟩
   ·exact slot_c (v := .ref r) (cs := [.map (some w.heap.size)]) rfl (by show _ = [upF β r _ r]; rw [upF_at])
  ·exact hk.elim
 ·exact hk.elim
/-- A map's content is changed. -/
theorem map_change {r : Nat} {kt vt : Ty} {xs ys : List (kt.den × vt.den)} (S : Sim Bb w0 O0 av Γ a w β F) (hr : look r Γ.roots = some (.mp kt vt xs)) {b : Nat} {es es' : Array MapEntry} {cl cl' : Nat} (hβ : [β r] = [.map (some b)]) (hb : hp w b = some (.map es cl)) (hB : F r = [b])
  (hm : ∀ (h' : Hp), (∀ c, ZdOf Bb F Γ.roots [] c → (hp w c).isSome → h' c = hp w c) → MapR kt.agg vt.agg (Own h' (ZdOf Bb F Γ.roots []) kt 0 []) (Own h' (ZdOf Bb F Γ.roots []) vt 0 []) es' cl' ys) :
  Sim Bb w0 O0 av ((Γ.map (killD r)).set r (.mp kt vt ys)) a (upd w b (.map es' cl')) β F := by
 have hin1 : r ∈ Γ.roots.map (·.1) := List.mem_map.2 ⟨_, look_mem hr, rfl⟩
 have S1 := S.soft (soft_killD r)
 have hzz : ZdOf Bb F (Γ.map (killD r)).roots = ZdOf Bb F Γ.roots := ZdOf_ids (mapC_ids _ _)
 refine S1.setRoot (c := .mp kt vt ys) (FitG.of (fit_killD r) Γ) (fun _ _ => rfl) (fun _ _ => rfl) S.bone (mem_mapC_mp (look_mem hr)) (F' := F) (fun q _ hq => upd_ne (fun e => hq (by rw [hB, e]; simp))) (by rw [upd_size]; exact Nat.le_refl _) rfl rfl rfl (fun _ _ => rfl) ⟨nodup_F hin1 S.nodup, fun q hq => ?_⟩ ?_
 ·rw [upd_size]; exact ⟨(S.own q (mem_allO.2 ⟨r, hin1, hq⟩)).1, .inl hq⟩
 ·show Own _ _ (.mp kt vt) 1 (F r) [β r] (some ys)
  rw [hzz, hβ]
  refine ⟨b, es', cl', rfl, upd_get hb, hB, hm _ (fun c hc _ => upd_ne (fun e => ?_))⟩
  subst e
  rcases hc with hc | ⟨_, hc, _⟩
  ·exact hc.1 (mem_allO.2 ⟨r, hin1, by rw [hB]; simp⟩)
  ·cases hc
theorem map_root {r : Nat} {kt vt : Ty} {xs : List (kt.den × vt.den)} (S : Sim Bb w0 O0 av Γ a w β F) (hr : look r Γ.roots = some (.mp kt vt xs)) : ∃ b es cl, [β r] = [.map (some b)] ∧ hp w b = some (.map es cl) ∧ F r = [b] ∧
  MapR kt.agg vt.agg (Own (hp w) (ZdOf Bb F Γ.roots []) kt 0 []) (Own (hp w) (ZdOf Bb F Γ.roots []) vt 0 []) es cl xs := S.roots r _ (look_mem hr)
theorem MapR.move {h h' : Hp} {Z : Nat → Prop} {kt vt : Ty} {es : Array MapEntry} {cl : Nat} {xs : List (kt.den × vt.den)} (m : MapR kt.agg vt.agg (Own h Z kt 0 []) (Own h Z vt 0 []) es cl xs) (hz : ∀ c, Z c → (h c).isSome → h' c = h c) :
  MapR kt.agg vt.agg (Own h' Z kt 0 []) (Own h' Z vt 0 []) es cl xs :=
 m.imp (fun _ _ o => o.mono (fun b hb hs => ⟨hz b hb hs, hb⟩) (fun _ m => by cases m)) (fun _ _ o => o.mono (fun b hb hs => ⟨hz b hb hs, hb⟩) (fun _ m => by cases m))
theorem sound_insert (hT : TabOk P T) (S : Sim Bb w0 O0 av Γ a w β F) {t : TypeId} {x k v : Operand} (ho : o.op = .insert t x k v ∨ o.op = .mapUpdate t x k v) (hd : o.dst = none) (hk : opInsert real T Γ K t (Γ.eval x) (Γ.eval k) (Γ.eval v)) : o.wp P a w (Nx Bb w0 O0 av K) Q := by
 have hx := S.eval x
 unfold opInsert at hk
 split at hk
 ·rename_i kt0 vt0 ht
  split at hk
  ·rename_i r hxe
   rw [hxe] at hx
   split at hk
   ·rename_i kt vt xs hr
    split at hk
    ·rename_i hc
     obtain ⟨rfl, rfl, hkey⟩ := hc
     split at hk
     ·rename_i q y hq hy
      split at hk
      ·exact hk.elim
      ·rename_i hfl
       obtain ⟨tk, tv, hu, htk, htv, _⟩ := hT.ty _ _ ht
       have htk : TyOk P kt tk := htk
       obtain ⟨cx, hcx, ex⟩ := slot_one hx rfl (by simp)
       have hcx' : cx = [β r] := hcx
       subst hcx'
       have ex' : a.eval x = β r := ex
       obtain ⟨ck, ok, ek⟩ := den0_slot S.roots hq (S.eval k)
       obtain ⟨cv, ov, ev⟩ := den0_slot S.roots hy (S.eval v)
       have ov' : Own (hp w) (ZdOf Bb F Γ.roots []) vt 0 [] cv y.1 := by
        cases hs : vt.hasSl with
        | false => exact (ov.flat (m := 0) hs).2 _ _
        | true =>
         have : y.2 = [] := by
          cases h2 : y.2 with
          | nil => rfl
          | cons q l => exact absurd ⟨hs, by rw [h2]; rfl⟩ hfl
         rw [this] at ov; exact ov
       have hflat : kt.hasSl = false := by cases kt <;> first | rfl | cases hkey
       have ok' : ∀ (h : Hp) (Z : Nat → Prop), Own h Z kt 0 [] ck q.1 := (ok.flat (m := 0) hflat).2
       have ekv : a.eval k = keyV kt q.1 := by rw [ek]; exact own_key hkey ok
       obtain ⟨b, es, cl, hβ, hb, hB, hm⟩ := map_root S hr
       have hβ' : β r = .map (some b) := by simpa using hβ
       have hrun : ∀ {w'}, (Instr.mapUpdate t (.map (some b)) (keyV kt q.1) (valOf vt.agg cv)).run P w = .ok () w' → (execOp a.eval o).run P w = .ok .skip w' := by
        intro w' hz
        have e1 : execOp a.eval o = (do Instr.mapUpdate t (a.eval x) (a.eval k) (a.eval v); pure Next.skip : Sem Next) := by
         unfold execOp
         rcases ho with ho | ho <;> rw [ho]
        rw [e1, ex', hβ', ekv, ev]
        show (Sem.bind _ _).run P w = _
        rw [run_bind_ok hz]; rfl
       have hput : ∀ (a' : Act), a'.put none undef = a' := fun _ => rfl
       rcases find_run (w := w) hkey htk (fun c x o => own_key hkey o) hm q.1 with ⟨h1, h2⟩ | ⟨i, e, z, h1, h2, h3, h4, h5⟩
       ·have hr2 : (Instr.mapUpdate t (.map (some b)) (keyV kt q.1) (valOf vt.agg cv)).run P w = .ok () (upd w b (.map (es.push ⟨keyV kt q.1, valOf vt.agg cv, cl⟩) (cl + 1))) := by
         unfold Instr.mapUpdate
         show (Sem.bind _ _).run P w = _
         rw [run_bind_ok (run_under hu)]
         simp only []
         show (Sem.bind _ _).run P w = _
         rw [run_bind_ok (s := getObj b) (x := .map es cl) (w' := w) (by unfold getObj; simp only [Sem.run]; rw [show w.heap[b]? = _ from hb])]
         simp only []
         show (Sem.bind _ _).run P w = _
         rw [run_bind_ok (run_checkKey hkey htk)]
         show (Sem.bind _ _).run P w = _
         rw [run_bind_ok h2]
         simp only [setObj, Sem.run]; rw [show w.heap[b]? = _ from hb]; rfl
        refine wp_skip' (hrun hr2) ?_
        rw [hd, hput]
        refine ⟨_, β, F, hk, ?_⟩
        have e5 : real.mput xs q.1 y.1 = xs ++ [(q.1, y.1)] := rput_out h1
        rw [e5]
        refine map_change S hr hβ hb hB (fun h' hh => ?_)
        have := (hm.move hh).push (ck := ck) (cv := cv) (k := q.1) (v := y.1) (ok' _ _) (ov'.mono (fun c hc hs => ⟨hh c hc hs, hc⟩) (fun _ m => by cases m))
        rw [own_key hkey (ok' (hp w) (ZdOf Bb F Γ.roots []))] at this
        exact this
       ·have hkk : e.key = keyV kt q.1 := by
         obtain ⟨c2, h6, h7⟩ := hm.key i e z h1 h2
         rw [h6, own_key hkey h7, h3]
        have hr2 : (Instr.mapUpdate t (.map (some b)) (keyV kt q.1) (valOf vt.agg cv)).run P w = .ok () (upd w b (.map (es.modify i fun e => { e with key := keyV kt q.1, val := valOf vt.agg cv }) cl)) := by
         unfold Instr.mapUpdate
         show (Sem.bind _ _).run P w = _
         rw [run_bind_ok (run_under hu)]
         simp only []
         show (Sem.bind _ _).run P w = _
         rw [run_bind_ok (s := getObj b) (x := .map es cl) (w' := w) (by unfold getObj; simp only [Sem.run]; rw [show w.heap[b]? = _ from hb])]
         simp only []
         show (Sem.bind _ _).run P w = _
         rw [run_bind_ok (run_checkKey hkey htk)]
         show (Sem.bind _ _).run P w = _
         rw [run_bind_ok h5]
         simp only [h1, Option.map_some, Option.getD_some, hkk]
         show (Sem.bind _ _).run P w = _
         rw [run_bind_ok (s := Instr.keyThatStays _ _) (x := keyV kt q.1) (w' := w) (by unfold Instr.keyThatStays; rw [if_pos (key_bits hkey q.1 _)]; rfl)]
         simp only [setObj, Sem.run]; rw [show w.heap[b]? = _ from hb]; rfl
        refine wp_skip' (hrun hr2) ?_
        rw [hd, hput]
        refine ⟨_, β, F, hk, ?_⟩
        have e5 : real.mput xs q.1 y.1 = xs.set i (q.1, y.1) := rput_at h2 h3 h4
        rw [e5]
        refine map_change S hr hβ hb hB (fun h' hh => ?_)
        have := (hm.move hh).modify (ck := ck) (cv := cv) (k := q.1) (v := y.1) (ok' _ _) (ov'.mono (fun c hc hs => ⟨hh c hc hs, hc⟩) (fun _ m => by cases m)) (i := i)
        rw [own_key hkey (ok' (hp w) (ZdOf Bb F Γ.roots []))] at this
        exact this
     ·exact hk.elim
    ·exact hk.elim
   ·exact hk.elim
  ·exact hk.elim
 ·exact hk.elim
theorem run_get {b : Nat} {es : Array MapEntry} {cl : Nat} (hb : w.heap[b]? = some (.map es cl)) : (getObj b).run P w = .ok (.map es cl) w := by
 unfold getObj
 simp only [Sem.run]
 rw [hb]
theorem sound_lookup (hT : TabOk P T) (S : Sim Bb w0 O0 av Γ a w β F) {t : TypeId} {x k : Operand} {ok : Bool} (ho : o.op = .lookup t x k ok) (hk : opLookup real T Γ o.dst K t (Γ.eval x) (Γ.eval k) ok) : Reads P o a w (Nx Bb w0 O0 av K) := by
 unfold opLookup at hk
 split at hk
 ·rename_i kt vt ht
  split at hk
  ·rename_i m q hm hq
   split at hk
   ·exact hk.elim
   ·rename_i xs hxs
    split at hk
    ·rename_i hkey
     obtain ⟨tk, tv, hu, htk, htv, _⟩ := hT.ty _ _ ht
     have htk : TyOk P kt tk := htk
     have htv : TyOk P vt tv := htv
     obtain ⟨cx, ox, ex⟩ := den0_slot S.roots hm (S.eval x)
     obtain ⟨ck, ok', ek⟩ := den0_slot S.roots hq (S.eval k)
     have ekv : a.eval k = keyV kt q.1 := by rw [ek]; exact own_key hkey ok'
     rw [hxs] at ox
     obtain ⟨b, es, cl, rfl, hb, hz, hmr⟩ := ox
     have ex' : a.eval x = .map (some b) := ex
     have hget : (getObj b).run P w = .ok (.map es cl) w := run_get hb
     -- the value found
     have hval : ∃ cv, Own (hp w) (ZdOf Bb F Γ.roots m.2) vt 0 [] cv (real.mget xs q.1 vt.zero) ∧ (Instr.lookup t (.map (some b)) (keyV kt q.1) ok).run P w = .ok (if ok then .tuple #[valOf vt.agg cv, .bool (real.dec (real.mhas xs q.1))] else valOf vt.agg cv) w := by
      have run1 : ∀ {r : Option (Nat × Value)} {z : Value} {bb : Bool}, (Instr.findKey tk (keyV kt q.1) es.toList).run P w = .ok r w → (match r with | some (_, v) => v = z ∧ bb = true | none => (zeroValue tv).run P w = .ok z w ∧ bb = false) →
        (Instr.lookup t (.map (some b)) (keyV kt q.1) ok).run P w = .ok (if ok then .tuple #[z, .bool bb] else z) w := by
       intro r z bb h1 h2
       unfold Instr.lookup
       show (Sem.bind _ _).run P w = _
       rw [run_bind_ok (run_under hu)]
       simp only []
       show (Sem.bind _ _).run P w = _
       rw [run_bind_ok hget]
       show (Sem.bind _ _).run P w = _
       rw [run_bind_ok (s := pure es) (x := es) (w' := w) rfl]
       show (Sem.bind _ _).run P w = _
       rw [run_bind_ok (run_checkKey hkey htk)]
       show (Sem.bind _ _).run P w = _
       rw [run_bind_ok h1]
       cases r with
       | none =>
        obtain ⟨h3, rfl⟩ := h2
        show (Sem.bind _ _).run P w = _
        rw [run_bind_ok h3]
        cases ok <;> rfl
       | some p =>
        obtain ⟨h3, rfl⟩ := h2
        subst h3
        cases ok <;> rfl
      rcases find_run (w := w) hkey htk (fun c x o => own_key hkey o) hmr q.1 with ⟨h1, h2⟩ | ⟨i, e, z, h1, h2, h3, h4, h5⟩
      ·refine ⟨vt.zc, ?_, ?_⟩
       ·rw [show real.mget xs q.1 vt.zero = vt.zero from rget_out h1]; exact Own.zero vt 0
       ·have hd : real.dec (real.mhas xs q.1) = false := by
         cases hdd : real.dec (real.mhas xs q.1) with
         | false => rfl
         | true => exact absurd (dec_iff.1 hdd) h1
        rw [hd]
        exact run1 h2 ⟨run_zero htv.info, rfl⟩
      ·obtain ⟨cv, h6, h7⟩ := hmr.val i e z h1 h2
       refine ⟨cv, ?_, ?_⟩
       ·rw [show real.mget xs q.1 vt.zero = z.2 from rget_at h2 h3 h4]; exact h7
       ·have hd : real.dec (real.mhas xs q.1) = true := dec_iff.2 (List.mem_map.2 ⟨z, List.mem_of_getElem? h2, h3⟩)
        rw [hd]
        exact run1 h5 ⟨h6, rfl⟩
     obtain ⟨cv, ov, hr⟩ := hval
     have hrun : (execOp a.eval o).run P w = .ok (.value (if ok then .tuple #[valOf vt.agg cv, .bool (real.dec (real.mhas xs q.1))] else valOf vt.agg cv)) w := by
      unfold execOp; rw [ho]
      refine run_v ?_
      rw [ex', ekv]; exact hr
     have hv : SVc (hp w) (ZdOf Bb F Γ.roots) β (.pv (if vt.hasSl then m.2 else []) vt (real.mget xs q.1 vt.zero)) cv := by
      cases hs : vt.hasSl with
      | true => exact ov
      | false => exact (ov.flat (m := 0) hs).2 _ _
     cases ok with
     | true =>
      refine go_value S hrun ?_ hk
      exact .inl ⟨rfl, [valOf vt.agg cv, .bool (real.dec (real.mhas xs q.1))], rfl, _, _, rfl, .inr ⟨cv, hv, rfl⟩, _, _, rfl, slot1_bool, rfl⟩
     | false => exact go_value S hrun (slot_c rfl hv) hk
    ·exact hk.elim
  ·exact hk.elim
 ·exact hk.elim
theorem sound_delete (hT : TabOk P T) (S : Sim Bb w0 O0 av Γ a w β F) {t t2 : TypeId} {x k : Operand} (ho : o.op = .call { callee := .builtin .delete, args := #[x, k], argTypes := #[t, t2] }) (hk : opDelete real T Γ o.dst K t (Γ.eval x) (Γ.eval k)) : o.wp P a w (Nx Bb w0 O0 av K) Q := by
 have hx := S.eval x
 unfold opDelete at hk
 split at hk
 ·rename_i kt0 vt0 ht
  split at hk
  ·rename_i r hxe
   rw [hxe] at hx
   split at hk
   ·rename_i kt vt xs hr
    split at hk
    ·rename_i hc
     obtain ⟨rfl, rfl, hkey⟩ := hc
     split at hk
     ·rename_i q hq
      obtain ⟨tk, tv, hu, htk, htv, _⟩ := hT.ty _ _ ht
      have htk : TyOk P kt tk := htk
      obtain ⟨cx, hcx, ex⟩ := slot_one hx rfl (by simp)
      have hcx' : cx = [β r] := hcx
      subst hcx'
      have ex' : a.eval x = β r := ex
      obtain ⟨ck, ok, ek⟩ := den0_slot S.roots hq (S.eval k)
      have ekv : a.eval k = keyV kt q.1 := by rw [ek]; exact own_key hkey ok
      obtain ⟨b, es, cl, hβ, hb, hB, hm⟩ := map_root S hr
      have hβ' : β r = .map (some b) := by simpa using hβ
      have hget : (getObj b).run P w = .ok (.map es cl) w := run_get hb
      have hrun : ∀ {es' w'}, (∀ r, (Instr.findKey tk (keyV kt q.1) es.toList).run P w = .ok r w → (match r with | some (i, _) => setObj b (.map (es.eraseIdxIfInBounds i) cl) | none => setObj b (.map es cl)).run P w = .ok () w') → (∃ r, (Instr.findKey tk (keyV kt q.1) es.toList).run P w = .ok r w) → w' = upd w b (.map es' cl) → (execOp a.eval o).run P w = .ok (.value (.tuple #[])) w' := by
       intro es' w' h1 h2 _
       obtain ⟨r, h2⟩ := h2
       have h3 := h1 r h2
       have e1 : execOp a.eval o = (do pure (Next.value (← Builtin.delete_ #[t, t2] o.type (Array.map a.eval #[x, k]))) : Sem Next) := by unfold execOp; rw [ho]; rfl
       have e2 : Array.map a.eval #[x, k] = #[a.eval x, a.eval k] := by simp
       rw [e1, e2, ex', hβ', ekv]
       refine run_v ?_
       unfold Builtin.delete_
       simp only [List.getElem?_toArray, List.getElem?_cons_zero, List.getElem?_cons_succ]
       show (Sem.bind _ _).run P w = _
       rw [run_bind_ok (run_under hu)]
       simp only []
       show (Sem.bind _ _).run P w = _
       rw [run_bind_ok hget]
       simp only []
       show (Sem.bind _ _).run P w = _
       rw [run_bind_ok (run_checkKey hkey htk)]
       show (Sem.bind _ _).run P w = _
       rw [run_bind_ok h2]
       cases r with
       | none => show (Sem.bind _ _).run P w = _; rw [run_bind_ok h3]; rfl
       | some p => show (Sem.bind _ _).run P w = _; rw [run_bind_ok h3]; rfl
      have hset : ∀ ob, (setObj b ob).run P w = .ok () (upd w b ob) := fun ob => by
       simp only [setObj, Sem.run]; rw [show w.heap[b]? = _ from hb]; rfl
      rcases find_run (w := w) hkey htk (fun c x o => own_key hkey o) hm q.1 with ⟨h1, h2⟩ | ⟨i, e, z, h1, h2, h3, h4, h5⟩
      ·have hr2 := hrun (es' := es) (w' := upd w b (.map es cl)) (fun r hr => by rw [h2] at hr; cases hr; exact hset _) ⟨_, h2⟩ rfl
       have e5 : real.mdel xs q.1 = xs := rdel_out h1
       rw [e5] at hk
       exact wp_drawn hr2 (map_change S hr hβ hb hB (fun h' hh => hm.move hh)) (v := .nilT) (.inl ⟨rfl, [], rfl, rfl⟩) hk
      ·have hi : i < es.size := (Array.getElem?_eq_some_iff.1 h1).1
       have hr2 := hrun (es' := es.eraseIdxIfInBounds i) (w' := upd w b (.map (es.eraseIdxIfInBounds i) cl)) (fun r hr => by rw [h5] at hr; cases hr; exact hset _) ⟨_, h5⟩ rfl
       have e5 : real.mdel xs q.1 = xs.eraseIdx i := rdel_at h2 h3 h4
       rw [e5] at hk
       exact wp_drawn hr2 (map_change S hr hβ hb hB (fun h' hh => (hm.move hh).erase hi)) (v := .nilT) (.inl ⟨rfl, [], rfl, rfl⟩) hk
     ·exact hk.elim
    ·exact hk.elim
   ·exact hk.elim
  ·exact hk.elim
 ·exact hk.elim
end
end Go.Proofs.YtmjeghlfmhbjdaaDoor.Eng

/- The engine: arrays, package variables, pointers that are only read. No condition. -/
namespace Go.Proofs.YtmjeghlfmhbjdaaDoor.Eng
open Go.RowKit
set_option linter.unusedVariables false
set_option linter.unusedSimpArgs false
def arrOf : Option Ty → Option (Nat × Ty)
 | some (.arr n e) => some (n, e)
 | _ => none
section
variable (M : Mth) (T : Tab) (Γ : Ctx) (d : Option Nat) (K : Ctx → Prop)
/-- A new array: its cells as a row, its address. -/
def opNewArr (n : Nat) (e : Ty) : Prop :=
 if has Γ.new Γ.roots = false ∧ e.hasSl = false ∧ Nat.ble n 100000 = true then ((Γ.map (kill Γ.new)).add Γ.new (.row 0 e (M.rep (M.ofN n) e.zero))).on d (.arp Γ.new e n) K else False
def opBoxArr (n : Nat) (e : Ty) (x : SV) : Prop :=
 match x with
 | .pv _ (.arr m f) ys => if m = n ∧ f = e then
   if has Γ.new Γ.roots = false ∧ f.hasSl = false ∧ Nat.ble m 100000 = true then ((Γ.map (kill Γ.new)).add Γ.new (.row 0 f ys)).on d (.arp Γ.new f m) K else False
  else False
 | _ => False
def opIndexArr (t : TypeId) (x i : SV) : Prop :=
 match T.ty t, x, i with
 | some (.arr m f), .arp r e n, .pv _ (.int _) k => if m = n ∧ f = e then M.le 0 k ∧ M.lt k (M.ofN n) ∧ Γ.on d (.ad r e k []) K else False
 | _, _, _ => False
def opLoadArr (t : TypeId) (x : SV) : Prop :=
 match T.ty t, x with
 | some (.arr m f), .arp r e n => if m = n ∧ f = e ∧ e.hasSl = false then match look r Γ.roots with
   | some (.row 0 g xs) => if g = e then Γ.on d (.pv [] (.arr n g) xs) K else False
   | _ => False
  else False
 | some (.arr m f), .fad dp e xs i [] => if f = e ∧ e.hasSl = false then M.le (M.add i (M.ofN m)) (M.ofN (M.len xs)) ∧ Γ.on d (.pv [] (.arr m e) (M.cut xs i (M.add i (M.ofN m)))) K else False
 | some (.arr m f), .ad r e i [] => if f = e ∧ e.hasSl = false then match look r Γ.roots with
   | some (.row 0 g xs) => if g = e then M.le 0 i ∧ M.lt i (M.ofN (M.len xs)) ∧ M.le (M.add i (M.ofN m)) (M.ofN (M.len xs)) ∧ Γ.on d (.pv [] (.arr m g) (M.cut xs i (M.add i (M.ofN m)))) K else False
   | _ => False
  else False
 | some .any, .gl g => match look g (findGl Γ.roots) with
  | some v => Γ.on d (.pv [] .any v) K
  | none => False
 | some u, .pv dp (.ptr e) x => if u = e then (M.isN x → False) ∧ Γ.on d (.pv (if e.hasSl then dp else []) e (M.val x e.zero)) K else False
 | _, _ => False
def opStoreArr (t : TypeId) (x v : SV) : Prop :=
 match T.ty t, x, v with
 | some (.arr m f), .arp r e n, .pv _ (.arr m' f') ys => if m = n ∧ f = e ∧ m' = n ∧ f' = e ∧ f'.hasSl = false then match look r Γ.roots with
   | some (.row 0 g xs) => if g = e then K ((Γ.map (killD r)).set r (.row 0 f' ys)) else False
   | _ => False
  else False
 | _, _, _ => False
def opSliceArr (t : TypeId) (x : SV) (lo hi : Option SV) : Prop :=
 match T.ty t, x with
 | some (.arr m f), .arp r e n => if m = n ∧ f = e then match lo, hi with
   | none, none => match look r Γ.roots with
    | some (.row _ g _) => if g = e then Γ.on d (.ref r) K else False
    | _ => False
   | lo, hi => match bound 0 lo, bound (M.ofN n) hi with
    | some l, some h => M.le 0 l ∧ M.le l h ∧ M.le h (M.ofN n) ∧ M.lt l (M.ofN n) ∧ Γ.on d (.vw r e l h) K
    | _, _ => False
  else False
 | _, _ => False
def opFieldPtr (t : TypeId) (x : SV) (n : Nat) : Prop :=
 match T.ty t, x with
 | some s, .pv dp (.ptr e) x => if s = e then match tyAt s [n] with
   | some u => if u.sz = 0 then False else (M.isN x → False) ∧ Γ.on d (.fad dp e [M.val x e.zero] 0 [n]) K
   | none => False
  else False
 | _, _ => False
def opArrPtr (t : TypeId) (x : SV) : Prop :=
 match T.ty t, x with
 | some (.arr m f), .pv dp (.sl e) xs => if f = e then M.le (M.ofN m) (M.ofN (M.len xs)) ∧ M.lt 0 (M.ofN (M.len xs)) ∧ Γ.on d (.fad dp e xs 0 []) K else False
 | some (.arr m f), .ref r => match look r Γ.roots with
  | some (.row 0 e xs) => if f = e then M.le (M.ofN m) (M.ofN (M.len xs)) ∧ M.lt 0 (M.ofN (M.len xs)) ∧ Γ.on d (.ad r e 0 []) K else False
  | _ => False
 | _, _ => False
end
section
variable {P : Program} {T : Tab} {Bb : Nat → Prop} {w0 : World} {O0 : List Nat} {av : List Value} {Γ Γ' : Ctx} {a : Act} {w w' : World} {β : Nat → Value} {F : Nat → List Nat} {K : Ctx → Prop} {o : Oper} {Q : Exit → Act → World → Prop}
theorem TyOk.array {n : Nat} {e : Ty} {t : TypeId} (h : TyOk P (.arr n e) t) : ∃ te, P.underlying t = some (.array n te) ∧ TyOk P e te := by
 obtain ⟨te, h1, h2, _⟩ := h; exact ⟨te, h1, h2⟩
/-- What an array's address says of its root. -/
theorem arp_slot {r n : Nat} {e : Ty} {x : Value} {h : Hp} {Zd : List Nat → Nat → Prop} (s : SlotR h Zd β (.arp r e n) x) : ∃ b, β r = .slice (some ⟨b, 0, none⟩) n n ∧ x = .pointer (some ⟨b, 0, none⟩) := by
 obtain ⟨cs, ⟨b, h1, rfl⟩, ex⟩ := slot_one s rfl (by simp)
 exact ⟨b, h1, ex⟩
theorem arp_root {r n : Nat} {e : Ty} {xs : List e.den} {b : Nat} (S : Sim Bb w0 O0 av Γ a w β F) (hr : look r Γ.roots = some (.row 0 e xs)) (hb : β r = .slice (some ⟨b, 0, none⟩) n n) :
  xs.length = n ∧ ∃ arr ty, w.heap[b]? = some (.cells arr ty (0, 0)) ∧ n * e.sz ≤ arr.size ∧ F r = [b] ∧ ∀ i x, xs[i]? = some x → Own (hp w) (ZdOf Bb F Γ.roots []) e 0 [] (seg arr.toList (i * e.sz) e.sz) x := by
 obtain ⟨A, c, e1, l1, l2, q⟩ := S.roots r _ (look_mem hr)
 rw [hb] at e1
 simp only [List.cons.injEq, Value.slice.injEq, and_true] at e1
 obtain ⟨rfl, rfl, rfl⟩ := e1
 refine ⟨rfl, ?_⟩
 rcases q with ⟨q, _⟩ | ⟨b', o', arr, ty, Bs, q1, q2, q3, q4, q5, q6⟩
 ·cases q
 ·simp only [Option.some.injEq, Addr.mk.injEq, and_true] at q1
  obtain ⟨rfl, rfl⟩ := q1
  have hB : Bs.flatten = [] := by
   rw [List.flatten_eq_nil_iff]
   intro l hl
   obtain ⟨i, hi, rfl⟩ := List.mem_iff_getElem.1 hl
   have hi' : i < xs.length := by omega
   exact (q6 i _ _ (List.getElem?_eq_getElem hi') (List.getElem?_eq_getElem hi)).b0
  refine ⟨arr, ty, q2, by omega, by rw [q4, hB], fun i x hx => ?_⟩
  have hi : i < Bs.length := by rw [q5]; exact (List.getElem?_eq_some_iff.1 hx).1
  have := q6 i x _ hx (List.getElem?_eq_getElem hi)
  have hb0 := this.b0
  rw [hb0] at this
  simpa using this
theorem run_alloc {t : TypeId} {u : Ty} (ht : TyOk P u t) {z : Value} (h : (Instr.box t (valOf u.agg u.zc)).run P w = .ok z w') : (Instr.alloc t true (.tuple #[])).run P w = .ok z w' := by
 unfold Instr.alloc
 show (Sem.bind _ _).run P w = _
 rw [run_bind_ok (run_zero ht.info)]
 exact h
theorem sound_newArr (hT : TabOk P T) (S : Sim Bb w0 O0 av Γ a w β F) {t : TypeId} {n : Nat} {e : Ty} (ho : o.op = .alloc t) (ht : T.ty t = some (.arr n e)) (hk : opNewArr real Γ o.dst K n e) : o.wp P a w (Nx Bb w0 O0 av K) Q := by
 unfold opNewArr at hk
 split at hk
 ·rename_i hc
  obtain ⟨hnew, hfl, hnb⟩ := hc
  have hnb' : n ≤ 100000 := Nat.le_of_ble_eq_true hnb
  generalize Γ.new = r at *
  have hty := hT.ty _ _ ht
  have hl : (List.replicate n e.zero).length = n := List.length_replicate
  have hrun : (execOp a.eval o).run P w = .ok (.value (.pointer (some ⟨w.heap.size, 0, none⟩))) { w with heap := w.heap.push (.cells (List.replicate n e.zc).flatten.toArray t) } := by
   unfold execOp; rw [ho]
   refine run_v (run_alloc hty ?_)
   show (Instr.box t (.agg (List.replicate n e.zc).flatten.toArray)).run P w = _
   rfl
  have e1 : real.rep (real.ofN n) e.zero = List.replicate n e.zero := by show List.replicate (n : Int).toNat e.zero = _; rw [Int.toNat_natCast]
  rw [e1] at hk
  have hc : Cells (hp w) (ZdOf Bb F Γ.roots []) e 0 (List.replicate n e.zero) (List.replicate n e.zc).flatten := by
   have := Own.zero (h := hp w) (Z := ZdOf Bb F Γ.roots []) (.arr n e) 0
   obtain ⟨_, h2, h3, h4⟩ := this
   exact ⟨by rw [hl]; exact h3, h4⟩
  have S2 := add_row (cap := n) (ty := t) S hnew (.inl rfl) hc (by rw [hl]; unfold maxL; omega) hl
  refine wp_drawn (v := .arp r e n) hrun S2 ?_ hk
  refine slot_c (v := .arp r e n) (cs := [.pointer (some ⟨w.heap.size, 0, none⟩)]) rfl ⟨w.heap.size, by rw [upF_at, hl], rfl⟩
 ·exact hk.elim
theorem sound_boxArr (hT : TabOk P T) (S : Sim Bb w0 O0 av Γ a w β F) {t : TypeId} {n : Nat} {e : Ty} {x : Operand} (ho : o.op = .box t x) (ht : T.ty t = some (.arr n e)) (hk : opBoxArr Γ o.dst K n e (Γ.eval x)) : o.wp P a w (Nx Bb w0 O0 av K) Q := by
 have hx := S.eval x
 unfold opBoxArr at hk
 split at hk
 ·rename_i dp m f ys hxe
  rw [hxe] at hx
  split at hk
  ·rename_i hc
   obtain ⟨rfl, rfl⟩ := hc
   split at hk
   ·rename_i hc
    obtain ⟨hnew, hfl, hnb⟩ := hc
    have hnb' : m ≤ 100000 := Nat.le_of_ble_eq_true hnb
    generalize Γ.new = r at *
    obtain ⟨cs, ⟨_, o1, o2, o3⟩, ex⟩ := slot_pv hx
    have ex' : a.eval x = .agg cs.toArray := ex
    have hrun : (execOp a.eval o).run P w = .ok (.value (.pointer (some ⟨w.heap.size, 0, none⟩))) { w with heap := w.heap.push (.cells cs.toArray t) } := by
     unfold execOp; rw [ho]
     refine run_v ?_
     rw [ex']
     show (Instr.box t (.agg cs.toArray)).run P w = _
     unfold Instr.box newVar; rfl
    have hc : Cells (hp w) (ZdOf Bb F Γ.roots []) f 0 ys cs := ⟨by rw [o1]; exact o2, fun i y hy => ((o3 i y hy).flat (m := 0) hfl).2 _ _⟩
    have S2 := add_row (cap := m) (ty := t) S hnew (.inl rfl) hc (by rw [o1]; unfold maxL; omega) o1
    refine wp_drawn (v := .arp r f m) hrun S2 ?_ hk
    refine slot_c (v := .arp r f m) (cs := [.pointer (some ⟨w.heap.size, 0, none⟩)]) rfl ⟨w.heap.size, by rw [upF_at, o1], rfl⟩
   ·exact hk.elim
  ·exact hk.elim
 ·exact hk.elim
theorem sound_indexArr (hT : TabOk P T) (S : Sim Bb w0 O0 av Γ a w β F) {t : TypeId} {x i : Operand} (ho : o.op = .indexAddr t x i) (hk : opIndexArr real T Γ o.dst K t (Γ.eval x) (Γ.eval i)) : Reads P o a w (Nx Bb w0 O0 av K) := by
 have hx := S.eval x
 have hi := S.eval i
 unfold opIndexArr at hk
 split at hk
 ·rename_i m f r e n dp kk k ht hxe hie
  rw [hxe] at hx
  rw [hie] at hi
  split at hk
  ·rename_i hc
   obtain ⟨rfl, rfl⟩ := hc
   obtain ⟨h0, h1, hk⟩ := hk
   have h0' : 0 ≤ k := h0
   have h1' : k < (m : Int) := h1
   obtain ⟨te, hu, he⟩ := (hT.ty _ _ ht).array
   obtain ⟨b, hb, ex⟩ := arp_slot hx
   obtain ⟨ei, _⟩ := slot_int hi
   have hrun : (execOp a.eval o).run P w = .ok (.value (.pointer (some ⟨b, k.toNat * f.sz, none⟩))) w := by
    unfold execOp; rw [ho]
    refine run_v ?_
    rw [ex, ei]
    unfold Instr.indexAt
    show (Sem.bind _ _).run P w = _
    rw [run_bind_ok (s := asIntOf (.int kk k)) (x := (kk, k)) rfl]
    show (Sem.bind _ _).run P w = _
    rw [run_bind_ok (run_under hu)]
    simp only []
    show (Sem.bind _ _).run P w = _
    rw [run_bind_ok (s := Instr.sureAddr _) (x := (⟨b, 0, none⟩ : Addr)) rfl]
    show (Sem.bind _ _).run P w = _
    rw [run_bind_ok (s := pure _) (x := (some (⟨b, 0, none⟩ : Addr), m, te)) rfl]
    show (Sem.bind _ _).run P w = _
    rw [run_bind_ok (run_under hu)]
    simp only [h0', h1', and_self, if_true]
    show (Sem.bind _ _).run P w = _
    rw [run_bind_ok (run_size he.info), add_none]
    simp
    first | rfl | skip
   exact go_value S hrun (slot_c (v := .ad r f k []) (cs := [.pointer (some ⟨b, k.toNat * f.sz, none⟩)]) rfl ⟨b, 0, by rw [hb]; rfl, by rw [offAt_nil]; simp⟩) hk
  ·exact hk.elim
 ·exact hk.elim
theorem arr_of {e : Ty} {n : Nat} {xs : List e.den} {h : Hp} {Z Z' : Nat → Prop} {cs : List Value} (hf : e.hasSl = false) (h1 : xs.length = n) (h2 : cs.length = n * e.sz) (h3 : ∀ i x, xs[i]? = some x → Own h Z e 0 [] (seg cs (i * e.sz) e.sz) x) : Own h Z' (.arr n e) 0 [] cs xs :=
 ⟨rfl, h1, h2, fun i x hi => ((h3 i x hi).flat (m := 0) hf).2 _ _⟩
/-- A stretch of a row, as an array. -/
theorem arr_cut {e : Ty} {m : Nat} {i : Int} {xs : List e.den} {h : Hp} {Z Z' : Nat → Prop} {l : List Value} {off : Nat} (hf : e.hasSl = false) (h0 : 0 ≤ i) (h1 : i + m ≤ xs.length) (hl : off + xs.length * e.sz ≤ l.length) (h3 : ∀ j x, xs[j]? = some x → Own h Z e 0 [] (seg l (off + j * e.sz) e.sz) x) :
  Own h Z' (.arr m e) 0 [] (seg l (off + i.toNat * e.sz) (m * e.sz)) (real.cut xs i (real.add i (real.ofN m))) ∧ off + i.toNat * e.sz + m * e.sz ≤ l.length := by
 have hcut : real.cut xs i (real.add i (real.ofN m)) = (xs.drop i.toNat).take m := by
  show (xs.drop i.toNat).take ((i + (m : Int)).toNat - i.toNat) = _
  congr 1; omega
 have hle : i.toNat + m ≤ xs.length := by omega
 have hmul : (i.toNat + m) * e.sz ≤ xs.length * e.sz := Nat.mul_le_mul_right _ hle
 rw [Nat.add_mul] at hmul
 refine ⟨?_, by omega⟩
 rw [hcut]
 refine arr_of (Z := Z) hf (by simp; omega) (seg_len (by omega)) (fun j x hj => ?_)
 rw [List.getElem?_take] at hj
 split at hj
 ·rename_i hjm
  rw [List.getElem?_drop] at hj
  have := h3 _ x hj
  rw [seg_seg (by have : (j + 1) * e.sz ≤ m * e.sz := Nat.mul_le_mul_right _ hjm
                  rw [Nat.add_mul] at this; omega)]
  rw [show off + i.toNat * e.sz + j * e.sz = off + (i.toNat + j) * e.sz by rw [Nat.add_mul]; omega]
  exact this
 ·cases hj
theorem sound_loadArr (hT : TabOk P T) (S : Sim Bb w0 O0 av Γ a w β F) {t : TypeId} {x : Operand} (ho : o.op = .load t x) (hk : opLoadArr real T Γ o.dst K t (Γ.eval x)) : Reads P o a w (Nx Bb w0 O0 av K) := by
 have hx := S.eval x
 have hrun : ∀ z, (Instr.loadAt t (a.eval x)).run P w = .ok z w → (execOp a.eval o).run P w = .ok (.value z) w := fun z hz => by unfold execOp; rw [ho]; exact run_v hz
 unfold opLoadArr at hk
 split at hk
 ·rename_i m f r e n ht hxe
  rw [hxe] at hx
  split at hk
  ·rename_i hc
   obtain ⟨rfl, rfl, hfl⟩ := hc
   split at hk
   ·rename_i g xs hr
    split at hk
    ·rename_i hg
     subst hg
     obtain ⟨b, hb, ex⟩ := arp_slot hx
     obtain ⟨hl, arr, ty, hbb, hsz, hB, hq⟩ := arp_root S hr hb
     have hty := hT.ty _ _ ht
     have hr2 := run_loadAt (P := P) (w := w) hty hbb (o := 0) (by show 0 + m * g.sz ≤ arr.size; omega)
     refine go_value S (hrun _ (by rw [ex]; exact hr2)) ?_ hk
     refine slot_c (v := .pv [] (.arr m g) xs) (cs := seg arr.toList 0 (m * g.sz)) rfl ?_
     refine arr_of (Z := ZdOf Bb F Γ.roots []) hfl hl (seg_len (by simpa using hsz)) (fun i y hy => ?_)
     have hi : i < m := by rw [← hl]; exact (List.getElem?_eq_some_iff.1 hy).1
     rw [seg_seg (by have : (i + 1) * g.sz ≤ m * g.sz := Nat.mul_le_mul_right _ hi
                     rw [Nat.add_mul] at this; omega), Nat.zero_add]
     exact hq i y hy
    ·exact hk.elim
   ·exact hk.elim
  ·exact hk.elim
 ·rename_i m f dp e xs i ht hxe
  rw [hxe] at hx
  split at hk
  ·rename_i hc
   obtain ⟨rfl, hfl⟩ := hc
   obtain ⟨h1, hk⟩ := hk
   have h1' : i + (m : Int) ≤ (xs.length : Int) := h1
   obtain ⟨cs, ⟨q1, q2, b, off, arr, ty, fz, z, hbb, hl, hq, rfl⟩, ex⟩ := slot_one hx rfl (by simp)
   have ex' : a.eval x = .pointer (some ⟨b, off + i.toNat * f.sz, none⟩) := by rw [ex]; simp [valOf, SV.isAgg, offAt_nil]
   have hty := hT.ty _ _ ht
   obtain ⟨k1, k2⟩ := arr_cut (Z' := ZdOf Bb F Γ.roots []) hfl q1 h1' (l := arr.toList) (by simpa using hl) hq
   have hr2 := run_loadAt (P := P) (w := w) hty hbb (o := off + i.toNat * f.sz) (by show off + i.toNat * f.sz + m * f.sz ≤ arr.size; simpa using k2)
   refine go_value S (hrun _ (by rw [ex']; exact hr2)) (slot_c (v := .pv [] (.arr m f) _) rfl k1) hk
  ·exact hk.elim
 ·rename_i m f r e i ht hxe
  rw [hxe] at hx
  split at hk
  ·rename_i hc
   obtain ⟨rfl, hfl⟩ := hc
   split at hk
   ·rename_i g xs hr
    split at hk
    ·rename_i hg
     subst hg
     obtain ⟨h0, h2, h1, hk⟩ := hk
     have h0' : 0 ≤ i := h0
     have h2' : i < (xs.length : Int) := h2
     have h1' : i + (m : Int) ≤ (xs.length : Int) := h1
     obtain ⟨cs, ⟨b, off, hb, rfl⟩, ex⟩ := slot_one hx rfl (by simp)
     obtain ⟨A, c, e1, l1, l2, q⟩ := S.roots r _ (look_mem hr)
     simp only [List.cons.injEq, and_true] at e1
     rcases q with ⟨_, _, q, _⟩ | ⟨b', off', arr, ty, Bs, rfl, hbb, hl, hB, hn, hq⟩
     ·exact absurd q (ne_nil_of_lt h0' h2')
     rw [e1] at hb
     simp only [baseA, Option.some.injEq, Prod.mk.injEq] at hb
     obtain ⟨rfl, rfl⟩ := hb
     have ex' : a.eval x = .pointer (some ⟨b', off' + i.toNat * g.sz, none⟩) := by rw [ex]; simp [valOf, SV.isAgg, offAt_nil]
     have hty := hT.ty _ _ ht
     have hl1 : off' + xs.length * g.sz ≤ arr.toList.length := by
      have := Nat.mul_le_mul_right g.sz l1
      simp; omega
     obtain ⟨k1, k2⟩ := arr_cut (Z := ZdOf Bb F Γ.roots []) (Z' := ZdOf Bb F Γ.roots []) (h := hp w) hfl h0' h1' (l := arr.toList) hl1 (fun j y hy => by
      have hj : j < Bs.length := by rw [hn]; exact (List.getElem?_eq_some_iff.1 hy).1
      have := hq j y _ hy (List.getElem?_eq_getElem hj)
      have hb0 := this.b0
      rw [hb0] at this; exact this)
     have hr2 := run_loadAt (P := P) (w := w) hty hbb (o := off' + i.toNat * g.sz) (by show off' + i.toNat * g.sz + m * g.sz ≤ arr.size; simpa using k2)
     refine go_value S (hrun _ (by rw [ex']; exact hr2)) (slot_c (v := .pv [] (.arr m g) _) rfl k1) hk
    ·exact hk.elim
   ·exact hk.elim
  ·exact hk.elim
 ·rename_i g ht hxe
  rw [hxe] at hx
  split at hk
  ·rename_i v hv
   obtain ⟨r, l, h1, h2⟩ := mem_findGl (look_mem hv)
   obtain ⟨_, h3⟩ := S.roots r _ h1
   obtain ⟨_, arr, ty, fz, h4, h5, h6⟩ := h3 _ h2
   obtain ⟨cs, rfl, ex⟩ := slot_one hx rfl (by simp)
   have ex' : a.eval x = .pointer (some ⟨g, 0, none⟩) := ex
   have hty := hT.ty _ _ ht
   have hsz : 0 < arr.size := (Array.getElem?_eq_some_iff.1 h5).1
   have hr2 := run_loadAt (P := P) (w := w) hty h4 (o := 0) (by show 0 + 1 ≤ arr.size; omega)
   have hs : seg arr.toList 0 1 = [v] := by
    unfold seg
    rw [List.drop_zero]
    have h7 : arr.toList[0]? = some v := by simpa using h5
    cases hl : arr.toList with
    | nil => rw [hl] at h7; cases h7
    | cons y l => rw [hl] at h7; simp only [List.getElem?_cons_zero, Option.some.injEq] at h7; subst h7; rfl
   have hr3 : (Instr.loadAt t (.pointer (some ⟨g, 0, none⟩))).run P w = .ok v w := by
    have e9 : valOf Ty.any.agg (seg arr.toList 0 Ty.any.sz) = v := by show valOf false (seg arr.toList 0 1) = v; rw [hs]; rfl
    rw [e9] at hr2; exact hr2
   exact go_value S (hrun _ (by rw [ex']; exact hr3)) (slot_c (v := .pv [] .any v) (cs := [v]) rfl ⟨rfl, rfl, h6.1⟩) hk
  ·exact hk.elim
 ·rename_i u dp e y ht hxe
  rw [hxe] at hx
  split at hk
  ·rename_i hc
   subst hc
   obtain ⟨h1, hk⟩ := hk
   obtain ⟨cs, oo, ex⟩ := slot_pv hx
   cases y with
   | none => exact (h1 rfl).elim
   | some y =>
    obtain ⟨_, b, off, arr, ty, fz, rfl, hz, hbb, hl, ho2⟩ := oo
    have ex' : a.eval x = .pointer (some ⟨b, off, none⟩) := ex
    have hty := hT.ty _ _ ht
    have hr2 := run_loadAt (P := P) (w := w) hty hbb hl
    refine go_value S (hrun _ (by rw [ex']; exact hr2)) (slot_c (v := .pv (if u.hasSl then dp else []) u y) rfl ?_) hk
    show Own _ _ u 0 [] _ y
    cases hs : u.hasSl with
    | true => exact ho2
    | false => exact (ho2.flat (m := 0) hs).2 _ _
  ·exact hk.elim
 ·exact hk.elim
/-- A row of plain elements is written anew, whole. -/
theorem row_change {r : Nat} {e : Ty} {xs ys : List e.den} {b : Nat} (S : Sim Bb w0 O0 av Γ a w β F) (hr : look r Γ.roots = some (.row 0 e xs)) {off cap : Nat} {arr arr' : Array Value} {ty : TypeId} (hβ : β r = .slice (some ⟨b, off, none⟩) xs.length cap) (hbb : w.heap[b]? = some (.cells arr ty (0, 0))) (hB : F r = [b])
  (hlen : ys.length = xs.length) (hcap : xs.length ≤ cap) (hmax : xs.length ≤ maxL) (hsz : off + cap * e.sz ≤ arr'.size)
  (hq : ∀ (h' : Hp) (Z' : Nat → Prop) i y, ys[i]? = some y → Own h' Z' e 0 [] (seg arr'.toList (off + i * e.sz) e.sz) y) :
  Sim Bb w0 O0 av ((Γ.map (killD r)).set r (.row 0 e ys)) a (upd w b (.cells arr' ty (0, 0))) β F := by
 have hin1 : r ∈ Γ.roots.map (·.1) := List.mem_map.2 ⟨_, look_mem hr, rfl⟩
 have S1 := S.soft (soft_killD r)
 refine S1.setRoot (c := .row 0 e ys) (FitG.of (fit_killD r) Γ) (fun _ _ => rfl) (fun _ _ => rfl) S.bone (mem_mapC_row (look_mem hr)) (F' := F) (fun q _ hq => upd_ne (fun e => hq (by rw [hB, e]; simp))) (by rw [upd_size]; exact Nat.le_refl _) rfl rfl rfl (fun _ _ => rfl) ⟨nodup_F hin1 S.nodup, fun q hq => ?_⟩ ?_
 ·rw [upd_size]; exact ⟨(S.own q (mem_allO.2 ⟨r, hin1, hq⟩)).1, .inl hq⟩
 ·show Own _ _ (.sl e) 1 (F r) [β r] ys
  refine ⟨some ⟨b, off, none⟩, cap, by rw [hβ, hlen], by omega, by omega, .inr ⟨b, off, arr', ty, List.replicate ys.length [], rfl, upd_get hbb, hsz, by rw [hB]; simp, by simp, fun i y Bi h1 h2 => ?_⟩⟩
  have h3 := List.mem_of_getElem? h2
  simp only [List.mem_replicate] at h3
  rw [h3.2]
  exact hq _ _ i y h1
theorem sound_storeArr (hT : TabOk P T) (S : Sim Bb w0 O0 av Γ a w β F) {t : TypeId} {x v : Operand} (ho : o.op = .store t x v) (hd : o.dst = none) (hk : opStoreArr T Γ K t (Γ.eval x) (Γ.eval v)) : o.wp P a w (Nx Bb w0 O0 av K) Q := by
 have hx := S.eval x
 have hv := S.eval v
 have hput : a.put o.dst undef = a := by rw [hd]; rfl
 unfold opStoreArr at hk
 split at hk
 ·rename_i m f r e n dp m' f' ys ht hxe hve
  rw [hxe] at hx
  rw [hve] at hv
  split at hk
  ·rename_i hc
   obtain ⟨rfl, rfl, rfl, rfl, hfl⟩ := hc
   split at hk
   ·rename_i g xs hr
    split at hk
    ·rename_i hg
     subst hg
     obtain ⟨b, hb, ex⟩ := arp_slot hx
     obtain ⟨hl, arr, ty, hbb, hsz, hB, hq⟩ := arp_root S hr hb
     obtain ⟨cs, ⟨_, o1, o2, o3⟩, ev⟩ := slot_pv hv
     have ev' : a.eval v = .agg cs.toArray := ev
     have hone : ∀ z ∈ cs, one z = true := Own.one (show Own (hp w) (ZdOf Bb F Γ.roots dp) (.arr m' g) 0 [] cs ys from ⟨rfl, o1, o2, o3⟩)
     have hr2 := run_storeAt (P := P) (w := w) (hT.ty _ _ ht) hbb (o := 0) (v := .agg cs.toArray) (cs := cs) (by simp [Value.cells]) o2 hone (by show 0 + m' * g.sz ≤ arr.size; omega)
     refine wp_skip' (by unfold execOp; rw [ho]; show (do Instr.storeAt t (a.eval x) (a.eval v); pure Next.skip : Sem Next).run P w = _; rw [ex, ev']; exact hr2) ?_
     rw [hput]
     have hsl : (splice arr.toList 0 cs).length = arr.toList.length := splice_len (by rw [o2]; simpa using hsz)
     refine ⟨_, β, F, hk, row_change S hr (by rw [hb, hl]) hbb hB (by rw [o1, hl]) (by omega) (by
      obtain ⟨_, _, _, _, l2, _⟩ := S.roots r _ (look_mem hr); exact l2) (by simp [hsl]; omega) (fun h' Z' i y hy => ?_)⟩
     have hi : i < m' := by rw [← o1]; exact (List.getElem?_eq_some_iff.1 hy).1
     have e1 : seg (splice arr.toList 0 cs) (0 + i * g.sz) g.sz = seg cs (i * g.sz) g.sz := by
      have hle : (i + 1) * g.sz ≤ m' * g.sz := Nat.mul_le_mul_right _ hi
      rw [Nat.add_mul] at hle
      apply List.ext_getElem?
      intro k
      rw [seg_get, seg_get]
      split
      ·rw [splice_get (by rw [o2]; simpa using hsz), if_neg (by omega), if_pos (by rw [o2]; omega)]
       congr 1; omega
      ·rfl
     show Own h' Z' g 0 [] (seg (splice arr.toList 0 cs).toArray.toList (0 + i * g.sz) g.sz) y
     rw [List.toList_toArray, e1]
     exact ((o3 i y hy).flat (m := 0) hfl).2 _ _
    ·exact hk.elim
   ·exact hk.elim
  ·exact hk.elim
 ·exact hk.elim
theorem sound_sliceArr (hT : TabOk P T) (S : Sim Bb w0 O0 av Γ a w β F) {t : TypeId} {x : Operand} {lo hi : Option Operand} (ho : o.op = .slice t x lo hi none) (hk : opSliceArr real T Γ o.dst K t (Γ.eval x) (lo.map Γ.eval) (hi.map Γ.eval)) : Reads P o a w (Nx Bb w0 O0 av K) := by
 have hx := S.eval x
 unfold opSliceArr at hk
 split at hk
 ·rename_i m f r e n ht hxe
  rw [hxe] at hx
  split at hk
  ·rename_i hc
   obtain ⟨rfl, rfl⟩ := hc
   obtain ⟨te, hu, he⟩ := (hT.ty _ _ ht).array
   obtain ⟨b, hb, ex⟩ := arp_slot hx
   have hrun : ∀ {l h : Nat}, (Instr.sliceBounds false m m (lo.map a.eval) (hi.map a.eval) none).run P w = .ok (l, h, m) w → l < m ∨ l = 0 → (execOp a.eval o).run P w = .ok (.value (.slice (some ⟨b, l * f.sz, none⟩) (h - l) (m - l))) w := by
    intro l h hb2 hlm
    have e1 : execOp a.eval o = (do pure (Next.value (← Instr.sliceAt t (a.eval x) (lo.map a.eval) (hi.map a.eval) none)) : Sem Next) := by
     unfold execOp; rw [ho]; rfl
    rw [e1, ex]
    refine run_v ?_
    unfold Instr.sliceAt
    show (Sem.bind _ _).run P w = _
    rw [run_bind_ok (run_under hu)]
    simp only []
    show (Sem.bind _ _).run P w = _
    rw [run_bind_ok (s := Instr.sureAddr _) (x := (⟨b, 0, none⟩ : Addr)) rfl]
    show (Sem.bind _ _).run P w = _
    rw [run_bind_ok hb2]
    show (Sem.bind _ _).run P w = _
    rw [run_bind_ok (run_size he.info)]
    rcases Nat.lt_or_ge l m with hlt | hge
    ·simp only [if_neg (show ¬ m = l by omega), add_none, Nat.zero_add]; rfl
    ·have h0 : l = 0 := by omega
     subst h0
     have hm : m = 0 := by omega
     subst hm
     simp
   split at hk
   ·rename_i hl hh
    have hlo : lo = none := by cases lo <;> simp_all
    have hhi : hi = none := by cases hi <;> simp_all
    subst hlo; subst hhi
    split at hk
    ·rename_i lvl g xs hr
     split at hk
     ·rename_i hg
      subst hg
      have hr2 := hrun (l := 0) (h := m) (by simp [Instr.sliceBounds, pure, Sem.run, bind, Sem.bind]) (.inr rfl)
      refine go_value S hr2 (slot_c (v := .ref r) (cs := [.slice (some ⟨b, 0 * g.sz, none⟩) (m - 0) (m - 0)]) rfl ?_) hk
      show _ = [β r]
      rw [hb]; simp
     ·exact hk.elim
    ·exact hk.elim
   ·split at hk
    ·rename_i l h hl hh
     obtain ⟨h0, h1, h2, h3, hk⟩ := hk
     have h0' : 0 ≤ l := h0
     have h1' : l ≤ h := h1
     have h2' : h ≤ (m : Int) := h2
     have h3' : l < (m : Int) := h3
     have hb2 := run_bounds (P := P) (w := w) (b := false) S hl hh h0' h1' h2' (Nat.le_refl m)
     have hr2 := hrun hb2 (.inl (by omega))
     refine go_value S hr2 (slot_c (v := .vw r f l h) (cs := [.slice (some ⟨b, l.toNat * f.sz, none⟩) (h.toNat - l.toNat) (m - l.toNat)]) rfl ⟨b, 0, m, m, hb, h0', h1', h2', Nat.le_refl _, ?_⟩) hk
     simp
    ·exact hk.elim
  ·exact hk.elim
 ·exact hk.elim
theorem sound_fieldPtr (hT : TabOk P T) (S : Sim Bb w0 O0 av Γ a w β F) {t : TypeId} {x : Operand} {n : Nat} (ho : o.op = .fieldAddr t x n) (hk : opFieldPtr real T Γ o.dst K t (Γ.eval x) n) : Reads P o a w (Nx Bb w0 O0 av K) := by
 have hx := S.eval x
 unfold opFieldPtr at hk
 split at hk
 ·rename_i s dp e y ht hxe
  rw [hxe] at hx
  split at hk
  ·rename_i hc
   subst hc
   split at hk
   ·rename_i u hu
    split at hk
    ·exact hk.elim
    ·rename_i hz
     obtain ⟨h1, hk⟩ := hk
     obtain ⟨cs, oo, ex⟩ := slot_pv hx
     cases y with
     | none => exact (h1 rfl).elim
     | some y =>
      obtain ⟨_, b, off, arr, ty, fz, rfl, hzd, hbb, hl, ho2⟩ := oo
      have ex' : a.eval x = .pointer (some ⟨b, off, none⟩) := ex
      have hrun : (execOp a.eval o).run P w = .ok (.value (.pointer (some ⟨b, off + offAt s [n], none⟩))) w := by
       unfold execOp; rw [ho]
       refine run_v ?_
       rw [ex']; exact run_field (hT.ty _ _ ht) hu hz
      refine go_value S hrun (slot_c (v := .fad dp s [real.val (some y) s.zero] 0 [n]) (cs := [.pointer (some ⟨b, off + offAt s [n], none⟩)]) rfl ?_) hk
      refine ⟨Int.le_refl 0, by show (0 : Int) < 1; decide, b, off, arr, ty, fz, hzd, hbb, by simpa using hl, fun j z hj => ?_, by simp⟩
      cases j with
      | zero => simp only [List.getElem?_cons_zero, Option.some.injEq] at hj; subst hj; show Own _ _ s 0 [] (seg arr.toList (off + 0 * s.sz) s.sz) y; rw [Nat.zero_mul, Nat.add_zero]; exact ho2
      | succ j => simp at hj
   ·exact hk.elim
  ·exact hk.elim
 ·exact hk.elim
theorem sound_arrPtr (hT : TabOk P T) (S : Sim Bb w0 O0 av Γ a w β F) {t : TypeId} {x : Operand} (ho : o.op = .sliceToArrayPointer t x) (hk : opArrPtr real T Γ o.dst K t (Γ.eval x)) : Reads P o a w (Nx Bb w0 O0 av K) := by
 have hx := S.eval x
 have hrun : ∀ {m : Nat} {te : TypeId} {A : Option Addr} {l c : Nat}, P.underlying t = some (.array m te) → a.eval x = .slice A l c → m ≤ l → (execOp a.eval o).run P w = .ok (.value (.pointer A)) w := by
  intro m te A l c hu ex hle
  unfold execOp; rw [ho]
  refine run_v ?_
  rw [ex]
  unfold Instr.arrayAt
  show (Sem.bind _ _).run P w = _
  rw [run_bind_ok (run_under hu)]
  simp only [if_neg (show ¬ l < m by omega)]; rfl
 unfold opArrPtr at hk
 split at hk
 ·rename_i m f dp e xs ht hxe
  rw [hxe] at hx
  split at hk
  ·rename_i hc
   subst hc
   obtain ⟨h1, h2, hk⟩ := hk
   have h1' : (m : Int) ≤ (xs.length : Int) := h1
   have h2' : (0 : Int) < (xs.length : Int) := h2
   obtain ⟨te, hu, _⟩ := (hT.ty _ _ ht).array
   obtain ⟨cs, ⟨A, c, rfl, l1, l2, _, hq⟩, ex⟩ := slot_pv hx
   have ex' : a.eval x = .slice A xs.length c := ex
   obtain ⟨b, off, arr, ty, fz, rfl, hz, hbb, hl, hr⟩ := hq (by rintro rfl; simp at h2')
   exact go_value S (hrun hu ex' (by omega)) (slot_c (v := .fad dp f xs 0 []) (cs := [.pointer (some ⟨b, off, none⟩)]) rfl ⟨Int.le_refl 0, h2', b, off, arr, ty, fz, hz, hbb, hl, hr, by simp [offAt_nil]⟩) hk
  ·exact hk.elim
 ·rename_i m f r ht hxe
  rw [hxe] at hx
  split at hk
  ·rename_i e xs hr
   split at hk
   ·rename_i hc
    subst hc
    obtain ⟨h1, h2, hk⟩ := hk
    have h1' : (m : Int) ≤ (xs.length : Int) := h1
    have h2' : (0 : Int) < (xs.length : Int) := h2
    obtain ⟨te, hu, _⟩ := (hT.ty _ _ ht).array
    obtain ⟨cs, hcs, ex⟩ := slot_one hx rfl (by simp)
    have hcs' : cs = [β r] := hcs
    subst hcs'
    obtain ⟨A, c, e1, l1, l2, q⟩ := S.roots r _ (look_mem hr)
    simp only [List.cons.injEq, and_true] at e1
    have ex' : a.eval x = .slice A xs.length c := by rw [ex]; exact e1
    rcases q with ⟨_, _, q, _⟩ | ⟨b, off, arr, ty, Bs, rfl, _⟩
    ·rw [q] at h2'; simp at h2'
    ·exact go_value S (hrun hu ex' (by omega)) (slot_c (v := .ad r f 0 []) (cs := [.pointer (some ⟨b, off, none⟩)]) rfl ⟨b, off, by rw [e1]; rfl, by simp [offAt_nil]⟩) hk
   ·exact hk.elim
  ·exact hk.elim
 ·exact hk.elim
end
end Go.Proofs.YtmjeghlfmhbjdaaDoor.Eng

/- The engine: interfaces, built arrays, views as arguments, writers of numbers. No condition. -/
namespace Go.Proofs.YtmjeghlfmhbjdaaDoor.Eng
open Go.RowKit
set_option linter.unusedVariables false
set_option linter.unusedSimpArgs false
def isIf : Ty → Bool
 | .any => true
 | .inil => true
 | .ialt _ _ _ => true
 | _ => false
def isA : SV → Bool
 | .arp _ _ _ => true
 | .gl _ => true
 | .pv _ (.ptr _) _ => true
 | _ => false
def isU : Ty → Bool
 | .unit => true
 | _ => false
def leafT : Ty → Bool
 | .int _ => true
 | .bool => true
 | .str => true
 | _ => false
/-- a struct of numbers, truth values and texts -/
def Ty.flatS : Ty → Bool
 | .unit => true
 | .pair a b => leafT a && b.flatS
 | _ => false
def isAT : Option Ty → Bool
 | some (.arr _ _) => true
 | _ => false
section
variable (M : Mth) (T : Tab) (C : FuncId → Option Con) (Γ : Ctx) (d : Option Nat) (K : Ctx → Prop)
def opEqNil (neg : Bool) (t : TypeId) (x : SV) : Prop :=
 match T.ty t, x with
 | some .any, .nilI => Γ.on d (.pv [] .bool (!neg)) K
 | some .any, .ifs _ _ _ => Γ.on d (.pv [] .bool neg) K
 | _, _ => False
def opEqArr (op : BinOp) (t : TypeId) (x y : SV) : Prop :=
 match T.ty t, x, y with
 | some (.arr m (.int k)), .pv _ (.arr n (.int k1)) xs, .pv _ (.arr n2 (.int k2)) ys => if n = m ∧ n2 = m ∧ k1 = k ∧ k2 = k then
   match op with
   | .eql => Γ.on d (.pv [] .bool (M.dec (M.same2 xs ys))) K
   | .neq => Γ.on d (.pv [] .bool (M.not (M.dec (M.same2 xs ys)))) K
   | _ => False
  else False
 | _, _, _ => False
def opEqStr (op : BinOp) (t : TypeId) (x y : SV) : Prop :=
 match T.ty t, x, y with
 | some τ, .pv _ u1 a, .pv _ u2 b => match as τ ⟨u1, a⟩, as τ ⟨u2, b⟩ with
  | some p, some q => if τ.flatS = true ∧ τ.agg = true ∧ isU τ = false then
    match op with
    | .eql => Γ.on d (.pv [] .bool (M.dec (M.same2 [p] [q]))) K
    | .neq => Γ.on d (.pv [] .bool (M.not (M.dec (M.same2 [p] [q])))) K
    | _ => False
   else False
  | _, _ => False
 | _, _, _ => False
def opMkIfc (t : TypeId) (x : SV) : Prop :=
 match T.ty t with
 | some u => if x.isAgg = u.agg ∧ x.tup = false ∧ noHole x = true ∧ isIf u = false then Γ.on d (.ifs t u x) K else False
 | none => False
def opAssert (x : SV) (u : TypeId) (ok : Bool) : Prop :=
 match T.ty u with
 | none => False
 | some τ => if isIf τ = true then False else match x, ok with
  | .ifs t b v, true => if t = u then (if v.isAgg = b.agg ∧ v.tup = false then Γ.on d (.consT v (.consT (.pv [] .bool true) .nilT)) K else False) else Γ.on d (.consT (zeroSV τ) (.consT (.pv [] .bool false) .nilT)) K
  | .ifs t b v, false => if t = u ∧ v.isAgg = b.agg ∧ v.tup = false then Γ.on d v K else False
  | .nilI, true => Γ.on d (.consT (zeroSV τ) (.consT (.pv [] .bool false) .nilT)) K
  | _, _ => False
def lay0 : SV → SV
 | .vw r e lo hi => match look r Γ.roots with
  | some (.row 0 f xs) => if f = e then .pv [r] (.sl f) (M.cut xs lo hi) else .vw r e lo hi
  | _ => .vw r e lo hi
 | v => v
def lays : List SV → List SV
 | [] => []
 | v :: l => lay0 M Γ v :: lays l
def opInvoke (name : String) (x : SV) (vs : List SV) : Prop :=
 match x with
 | .ifs t b v => match T.mth t name with
  | some f => match C f with
   | some c => if v.isAgg = b.agg ∧ v.tup = false then opCall Γ d K c (v :: vs) else False
   | none => False
  | none => False
 | _ => False
def opNilArr (x : SV) : Prop :=
 match x with
 | .arp r e n => Γ.on d (.arp r e n) K
 | .pv dp (.ptr e) y => (M.isN y → False) ∧ Γ.on d (.pv dp (.ptr e) y) K
 | _ => False
def buildM (e : Ty) : List e.den → List (Nat × SV) → Option (List e.den)
 | xs, [] => some xs
 | xs, (n, u) :: l => match den0 Γ.roots e u with
  | some y => buildM e (M.set xs (M.ofN n) y.1) l
  | none => none
def buildL2 (e : Ty) : List e.den → List (Nat × SV) → Option (List e.den)
 | xs, [] => some xs
 | xs, (n, u) :: l => match den0 Γ.roots e u with
  | some y => buildL2 e (xs.set n y.1) l
  | none => none
def opBuildArr (n : Nat) (e : Ty) (ps : List (Nat × SV)) : Prop :=
 if e.hasSl = false ∧ Nat.ble n 100000 = true then match buildM M Γ e (M.rep (M.ofN n) e.zero) ps with
  | some xs => Γ.on d (.pv [] (.arr n e) xs) K
  | none => False
 else False
def opWr (vs : List SV) : Prop :=
 match vs with
 | [.vw r e lo hi, .pv _ (.int .i64) v, .pv _ (.int .i64) n] => match look r Γ.roots with
   | some (.row 0 (.int .u8) xs) => if e = .int .u8 then M.le 0 n ∧ M.le n 8 ∧ M.le n (M.sub hi lo) ∧ Ctx.on ((Γ.map (killD r)).set r (.row 0 (.int .u8) (M.over xs lo (M.bytes v n)))) d .nilT K else False
   | _ => False
 | _ => False
/-- copy of a text into a stretch of an own row of bytes, where it fits -/
def opCopy (ts : List TypeId) (x y : SV) : Prop :=
 match ts, x, y with
 | [t, _], .vw r e lo hi, .pv _ .str s => match T.ty t, look r Γ.roots with
   | some (.sl (.int .u8)), some (.row 0 (.int .u8) xs) => if e = .int .u8 then M.le (M.sLen s) (M.sub hi lo) ∧ Ctx.on ((Γ.map (killD r)).set r (.row 0 (.int .u8) (M.over xs lo (M.toB s)))) d (.pv [] (.int .i64) (M.sLen s)) K else False
   | _, _ => False
 | _, _, _ => False
end
section
variable {P : Program} {T : Tab} {C : FuncId → Option Con} {Bb : Nat → Prop} {w0 : World} {O0 : List Nat} {av : List Value} {Γ Γ' : Ctx} {a : Act} {w w' : World} {β : Nat → Value} {F : Nat → List Nat} {K : Ctx → Prop} {o : Oper} {Q : Exit → Act → World → Prop}
theorem TyOk.ifc {t : TypeId} (h : TyOk P .any t) : ∃ m, P.underlying t = some (.interface m) := by
 obtain ⟨m, h1, _⟩ := h; exact ⟨m, h1⟩
theorem TyOk.notIfc {t : TypeId} {u : Ty} (h : TyOk P u t) (hu : isIf u = false) : ∃ d, P.underlying t = some d ∧ ∀ m, d ≠ .interface m := by
 cases u with
 | unit => obtain ⟨_, h1, _⟩ := h; exact ⟨_, h1, by simp⟩
 | int k => exact ⟨_, h.1, by simp⟩
 | bool => exact ⟨_, h.1, by simp⟩
 | str => exact ⟨_, h.1, by simp⟩
 | pair a b => obtain ⟨_, h1, _⟩ := h; exact ⟨_, h1, by simp⟩
 | sl e => obtain ⟨_, h1, _⟩ := h; exact ⟨_, h1, by simp⟩
 | any => cases hu
 | arr n e => obtain ⟨_, h1, _⟩ := h; exact ⟨_, h1, by simp⟩
 | mp k v => obtain ⟨_, _, h1, _⟩ := h; exact ⟨_, h1, by simp⟩
 | ptr e => obtain ⟨_, h1, _⟩ := h; exact ⟨_, h1, by simp⟩
 | inil => cases hu
 | ialt _ _ _ => cases hu
theorem slot_nilI {h : Hp} {Zd : List Nat → Nat → Prop} {x : Value} (s : SlotR h Zd β .nilI x) : x = .nilIface := by
 obtain ⟨cs, rfl, ex⟩ := slot_one s rfl (by simp); exact ex
theorem slot_ifs {h : Hp} {Zd : List Nat → Nat → Prop} {t : TypeId} {b : Ty} {v : SV} {x : Value} (s : SlotR h Zd β (.ifs t b v) x) : ∃ cs, x = .iface t (valOf b.agg cs) ∧ SVc h Zd β v cs := by
 obtain ⟨cs, ⟨cs', rfl, o⟩, ex⟩ := slot_one s rfl (by simp); exact ⟨cs', ex, o⟩
theorem sound_eqNil (hT : TabOk P T) (S : Sim Bb w0 O0 av Γ a w β F) {op : BinOp} {neg : Bool} {t ty : TypeId} {x : Operand} (hop : op = if neg then .neq else .eql) (ho : o.op = .binOp op t x (.const .nilIface) ty) (hk : opEqNil T Γ o.dst K neg t (Γ.eval x)) : Reads P o a w (Nx Bb w0 O0 av K) := by
 have hx := S.eval x
 have hrun : ∀ z, (do eqGuard op t x (.const .nilIface) (a.eval x) .nilIface; binOp op t (a.eval x) .nilIface : Sem Value).run P w = .ok z w → (execOp a.eval o).run P w = .ok (.value z) w := fun z hz => by
  unfold execOp; rw [ho]; exact run_v hz
 unfold opEqNil at hk
 split at hk
 ·rename_i ht hxe
  rw [hxe] at hx
  have ex := slot_nilI hx
  obtain ⟨m, hu⟩ := (hT.ty _ _ ht).ifc
  refine go_value S (hrun (.bool (!neg)) ?_) mk_bool hk
  rw [ex]
  have he : (Op.equal t .nilIface .nilIface).run P w = .ok true w := by
   unfold Op.equal Op.maxDepth Op.equalIn
   show (Sem.bind _ _).run P w = _
   rw [run_bind_ok (run_under hu)]; rfl
  cases neg with
  | true =>
   simp only [if_true] at hop; subst hop
   show (Sem.bind _ _).run P w = _
   rw [run_bind_ok (s := eqGuard _ _ _ _ _ _) (x := ()) (w' := w) (by cases x <;> rfl)]
   show (Sem.bind _ _).run P w = _
   rw [run_bind_ok he]; rfl
  | false =>
   simp only [Bool.false_eq_true, if_false] at hop; subst hop
   show (Sem.bind _ _).run P w = _
   rw [run_bind_ok (s := eqGuard _ _ _ _ _ _) (x := ()) (w' := w) (by cases x <;> rfl)]
   show (Sem.bind _ _).run P w = _
   rw [run_bind_ok he]; rfl
 ·rename_i u b v ht hxe
  rw [hxe] at hx
  obtain ⟨cs, ex, _⟩ := slot_ifs hx
  obtain ⟨m, hu⟩ := (hT.ty _ _ ht).ifc
  refine go_value S (hrun (.bool neg) ?_) mk_bool hk
  rw [ex]
  have he : (Op.equal t (.iface u (valOf b.agg cs)) .nilIface).run P w = .ok false w := by
   unfold Op.equal Op.maxDepth Op.equalIn
   show (Sem.bind _ _).run P w = _
   rw [run_bind_ok (run_under hu)]; rfl
  cases neg with
  | true =>
   simp only [if_true] at hop; subst hop
   show (Sem.bind _ _).run P w = _
   rw [run_bind_ok (s := eqGuard _ _ _ _ _ _) (x := ()) (w' := w) rfl]
   show (Sem.bind _ _).run P w = _
   rw [run_bind_ok he]; rfl
  | false =>
   simp only [Bool.false_eq_true, if_false] at hop; subst hop
   show (Sem.bind _ _).run P w = _
   rw [run_bind_ok (s := eqGuard _ _ _ _ _ _) (x := ()) (w' := w) rfl]
   show (Sem.bind _ _).run P w = _
   rw [run_bind_ok he]; rfl
 ·exact hk.elim
theorem run_all {g : Nat → Bool} {B : Nat → Option Bool × Unit → Sem (ForInStep (Option Bool × Unit))} : ∀ (n s : Nat), (∀ i, s ≤ i → i < s + n → (B i (none, ())).run P w = .ok (if g i then ForInStep.yield (none, ()) else ForInStep.done (some false, ())) w) →
  ((forIn (List.range' s n) (none, ()) B : Sem (Option Bool × Unit))).run P w = .ok (if (List.range' s n).all g then (none, ()) else (some false, ())) w
 | 0, s, h => rfl
 | n + 1, s, h => by
  rw [List.range'_succ, List.forIn_cons]
  show (Sem.bind _ _).run P w = _
  have h1 := h s (Nat.le_refl _) (by omega)
  rw [run_bind_ok h1]
  cases hg : g s with
  | true =>
   have := run_all (B := B) (g := g) n (s + 1) (fun i h2 h3 => h i (by omega) (by omega))
   simp only [List.all_cons, hg, Bool.true_and, if_true]
   exact this
  | false =>
   simp only [List.all_cons, hg, Bool.false_and]; rfl
/-- The cells of an array of numbers. -/
theorem arr_ints {h : Hp} {Z : Nat → Prop} {n : Nat} {k : IntKind} {xs : List Int} {cs : List Value} (ow : Own h Z (.arr n (.int k)) 0 [] cs xs) : xs.length = n ∧ cs.length = n ∧ ∀ (i : Nat) (x : Int), xs[i]? = some x → cs[i]? = some (Value.int k x) := by
 obtain ⟨_, h1, h2, h3⟩ := ow
 refine ⟨h1, by rw [h2]; show n * 1 = n; omega, fun i x hi => ?_⟩
 obtain ⟨_, h4, _⟩ := h3 i x hi
 have h4' : seg cs (i * 1) 1 = [Value.int k x] := h4
 have h5 : (seg cs (i * 1) 1)[0]? = some (Value.int k x) := by rw [h4']; rfl
 rw [seg_get] at h5
 simpa using h5
theorem run_part_int {t : TypeId} {k : IntKind} (h : P.underlying t = some (.int k)) {cs : Array Value} {i : Nat} {v : Value} (hi : cs[i]? = some v) : (part t cs i).run P w = .ok v w := by
 unfold part
 show (Sem.bind _ _).run P w = _
 rw [run_bind_ok (s := isAgg t) (x := false) (w' := w) (by
  unfold isAgg
  show (Sem.bind _ _).run P w = _
  rw [run_bind_ok (run_under h)]; rfl)]
 simp only [Bool.false_eq_true, if_false, hi]; rfl
theorem all_same : ∀ (n : Nat) (xs ys : List Int), xs.length = n → ys.length = n → ∀ s, ((List.range' s n).all (fun i => xs[i - s]?.getD 0 == ys[i - s]?.getD 0) = true ↔ xs = ys)
 | 0, xs, ys, h1, h2, s => by
  have := List.eq_nil_of_length_eq_zero h1; subst this
  have := List.eq_nil_of_length_eq_zero h2; subst this
  simp
 | n + 1, x :: xs, y :: ys, h1, h2, s => by
  have ih := all_same n xs ys (by simpa using h1) (by simpa using h2) (s + 1)
  rw [List.range'_succ, List.all_cons, Bool.and_eq_true, List.cons.injEq]
  have e : (List.range' (s + 1) n).all (fun i => (x :: xs)[i - s]?.getD 0 == (y :: ys)[i - s]?.getD 0) = (List.range' (s + 1) n).all (fun i => xs[i - (s + 1)]?.getD 0 == ys[i - (s + 1)]?.getD 0) := by
   rw [Bool.eq_iff_iff, List.all_eq_true, List.all_eq_true]
   refine forall_congr' fun i => forall_congr' fun hi => ?_
   rw [List.mem_range'_1] at hi
   rw [show i - s = (i - (s + 1)) + 1 by omega]
   simp
  rw [e, ih]
  simp
theorem equal_arr {t te : TypeId} {n : Nat} {k : IntKind} {xs ys : List Int} {c1 c2 : List Value} (hu : P.underlying t = some (.array n te)) (hue : P.underlying te = some (.int k)) (hi : InfoOk P (.int k) te) (l1 : xs.length = n) (l2 : ys.length = n)
  (g1 : ∀ (i : Nat) (x : Int), xs[i]? = some x → c1[i]? = some (Value.int k x)) (g2 : ∀ (i : Nat) (x : Int), ys[i]? = some x → c2[i]? = some (Value.int k x)) : (Op.equal t (.agg c1.toArray) (.agg c2.toArray)).run P w = .ok (real.dec (xs = ys)) w := by
 unfold Op.equal Op.maxDepth Op.equalIn
 show (Sem.bind _ _).run P w = _
 rw [run_bind_ok (run_under hu)]
 show (Sem.bind _ _).run P w = _
 rw [run_bind_ok (run_size hi)]
 simp only [Std.Legacy.Range.forIn_eq_forIn_range', Std.Legacy.Range.size, Nat.sub_zero, Nat.add_sub_cancel, Nat.div_one]
 show (Sem.bind _ _).run P w = _
 rw [run_bind_ok (run_all (g := fun i => xs[i - 0]?.getD 0 == ys[i - 0]?.getD 0) n 0 (fun i _ hi => ?_))]
 ·have := all_same n xs ys l1 l2 0
  have e : real.dec (xs = ys) = (List.range' 0 n).all (fun i => xs[i - 0]?.getD 0 == ys[i - 0]?.getD 0) := dec_eq this
  rw [e]
  cases (List.range' 0 n).all (fun i => xs[i - 0]?.getD 0 == ys[i - 0]?.getD 0) <;> rfl
 ·have hi1 : i < xs.length := by omega
  have hi2 : i < ys.length := by omega
  have e1 := g1 i xs[i] (List.getElem?_eq_getElem hi1)
  have e2 := g2 i ys[i] (List.getElem?_eq_getElem hi2)
  have hm : i * (Ty.int k).sz = i := Nat.mul_one i
  rw [hm]
  show (Sem.bind _ _).run P w = _
  rw [run_bind_ok (run_part_int hue (cs := c1.toArray) (v := .int k xs[i]) (by simpa using e1))]
  show (Sem.bind _ _).run P w = _
  rw [run_bind_ok (run_part_int hue (cs := c2.toArray) (v := .int k ys[i]) (by simpa using e2))]
  show (Sem.bind _ _).run P w = _
  rw [Nat.sub_zero, List.getElem?_eq_getElem hi1, List.getElem?_eq_getElem hi2]
  rw [run_bind_ok (run_equalIn_int w 9998 te k k _ _ hue)]
  show _ = Result.ok (if (xs[i] == ys[i]) = true then _ else _) w
  cases xs[i] == ys[i] <;> rfl
theorem sound_eqArr (hT : TabOk P T) (S : Sim Bb w0 O0 av Γ a w β F) {op : BinOp} {t ty : TypeId} {x y : Operand} (ho : o.op = .binOp op t x y ty) (hk : opEqArr real T Γ o.dst K op t (Γ.eval x) (Γ.eval y)) : Reads P o a w (Nx Bb w0 O0 av K) := by
 have hx := S.eval x
 have hy := S.eval y
 have hrun : ∀ z, (do eqGuard op t x y (a.eval x) (a.eval y); binOp op t (a.eval x) (a.eval y) : Sem Value).run P w = .ok z w → (execOp a.eval o).run P w = .ok (.value z) w := fun z hz => by
  unfold execOp; rw [ho]; exact run_v hz
 unfold opEqArr at hk
 split at hk
 ·rename_i m k d1 n k1 xs d2 n2 k2 ys ht hxe hye
  rw [hxe] at hx
  rw [hye] at hy
  split at hk
  ·rename_i hc
   obtain ⟨rfl, rfl, rfl, rfl⟩ := hc
   obtain ⟨c1, o1, ex⟩ := slot_pv hx
   obtain ⟨c2, o2, ey⟩ := slot_pv hy
   obtain ⟨l1, m1, g1⟩ := arr_ints o1
   obtain ⟨l2, m2, g2⟩ := arr_ints o2
   obtain ⟨te, hu, he⟩ := (hT.ty _ _ ht).array
   have hue : P.underlying te = some (.int k2) := he.1
   have hguard : P.eqGuardType P.depth t = false := by
    unfold Program.depth
    obtain ⟨q, hq⟩ : ∃ q, 2 * (P.types.size + Made.depth) + 2 = (q + 1) + 1 := ⟨2 * (P.types.size + Made.depth), rfl⟩
    rw [hq]
    unfold Program.eqGuardType
    rw [hu]
    show P.eqGuardType (q + 1) te = false
    unfold Program.eqGuardType
    rw [hue]
   have ex' : a.eval x = .agg c1.toArray := ex
   have ey' : a.eval y = .agg c2.toArray := ey
   have heq : (Op.equal t (.agg c1.toArray) (.agg c2.toArray)).run P w = .ok (real.dec (xs = ys)) w := by
    exact equal_arr hu hue he.info l1 l2 g1 g2
   split at hk
   ·refine go_value S (hrun (.bool (real.dec (real.same2 xs ys))) ?_) mk_bool hk
    rw [ex', ey']
    show (Sem.bind _ _).run P w = _
    rw [run_bind_ok (run_eqGuard_agg w _ _ _ _ _ _ hguard)]
    show (Sem.bind _ _).run P w = _
    rw [run_bind_ok heq]; rfl
   ·refine go_value S (hrun (.bool (real.not (real.dec (real.same2 xs ys)))) ?_) mk_bool hk
    rw [ex', ey']
    show (Sem.bind _ _).run P w = _
    rw [run_bind_ok (run_eqGuard_agg w _ _ _ _ _ _ hguard)]
    show (Sem.bind _ _).run P w = _
    rw [run_bind_ok heq]; rfl
   ·exact hk.elim
  ·exact hk.elim
 ·exact hk.elim
theorem run_part_leaf {τ : Ty} {t : TypeId} (h : TyOk P τ t) (ha : τ.agg = false) {cs : Array Value} {i : Nat} {v : Value} (hi : cs[i]? = some v) : (part t cs i).run P w = .ok v w := by
 unfold part
 show (Sem.bind _ _).run P w = _
 rw [run_bind_ok (TyOk.agg h), ha]
 simp only [Bool.false_eq_true, if_false, hi]; rfl
theorem eq_leaf {a : Ty} (hl : leafT a = true) {t : TypeId} (h : TyOk P a t) {h1 h2 : Hp} {Z1 Z2 : Nat → Prop} {c1 c2 : List Value} {x y : a.den} (o1 : Own h1 Z1 a 0 [] c1 x) (o2 : Own h2 Z2 a 0 [] c2 y) :
  ∃ v1 v2, c1 = [v1] ∧ c2 = [v2] ∧ ∀ (d : Nat) (w : World), (Op.equalIn (d + 1) t v1 v2).run P w = .ok (real.dec (x = y)) w := by
 cases a with
 | int k =>
  obtain ⟨_, rfl, _⟩ := o1
  obtain ⟨_, rfl, _⟩ := o2
  refine ⟨_, _, rfl, rfl, fun d w => ?_⟩
  rw [run_equalIn_int w d t k k _ _ h.1]
  congr 1
  exact (dec_eq (beq_iff_eq (a := (x : Int)) (b := (y : Int)))).symm
 | bool =>
  obtain ⟨_, rfl⟩ := o1
  obtain ⟨_, rfl⟩ := o2
  refine ⟨_, _, rfl, rfl, fun d w => ?_⟩
  rw [run_equalIn_bool w d t _ _ h.1]
  congr 1
  exact (dec_eq (beq_iff_eq (a := (x : Bool)) (b := (y : Bool)))).symm
 | str =>
  obtain ⟨_, rfl, _⟩ := o1
  obtain ⟨_, rfl, _⟩ := o2
  refine ⟨_, _, rfl, rfl, fun d w => ?_⟩
  rw [run_equalIn_string w d t _ _ h.1]
  congr 1
  refine (dec_eq ?_).symm
  rw [beq_iff_eq, ByteArray.toList_eq, ByteArray.toList_eq]
  exact ⟨fun e => ByteArray.ext (Array.toList_inj.1 e), fun e => by rw [e]⟩
 | _ => cases hl
theorem leaf_agg : ∀ {a : Ty}, leafT a = true → a.agg = false ∧ a.sz = 1
 | .int _, _ => ⟨rfl, rfl⟩
 | .bool, _ => ⟨rfl, rfl⟩
 | .str, _ => ⟨rfl, rfl⟩
theorem eqFields_ok {h1 h2 : Hp} {Z1 Z2 : Nat → Prop} (d : Nat) {xs ys : Array Value} : ∀ {τ : Ty} {fs : List Field} {off : Nat} {p1 p2 c1 c2 : List Value} {x y : τ.den}, τ.flatS = true → (TyF P τ).2 fs off → fs.all (fun f => f.name != "_") = true → Own h1 Z1 τ 0 [] c1 x → Own h2 Z2 τ 0 [] c2 y → xs.toList = p1 ++ c1 → ys.toList = p2 ++ c2 → p1.length = off → p2.length = off →
  ∀ w : World, (Op.eqFields (d + 1) xs ys fs).run P w = .ok (real.dec (x = y)) w
 | .unit, fs, off, p1, p2, c1, c2, x, y, _, hf, _, _, _, _, _, _, _, w => by
  have hf' : fs = [] := hf
  subst hf'
  have e : real.dec ((x : Unit) = y) = true := dec_iff.2 rfl
  show Result.ok true w = _
  rw [← e]
 | .pair a b, fs, off, p1, p2, c1, c2, x, y, hs, hf, hn, o1, o2, e1, e2, l1, l2, w => by
  have hs' : (leafT a && b.flatS) = true := hs
  simp only [Bool.and_eq_true] at hs'
  obtain ⟨f, l, rfl, ho, ht, hr⟩ := hf
  obtain ⟨B1, B2, u1, u2, _, rfl, oa1, ob1⟩ := o1
  obtain ⟨B3, B4, v1, v2, _, rfl, oa2, ob2⟩ := o2
  have k1 := oa1.b0; subst k1
  have k2 := ob1.b0; subst k2
  have k3 := oa2.b0; subst k3
  have k4 := ob2.b0; subst k4
  obtain ⟨z1, z2, rfl, rfl, he⟩ := eq_leaf hs'.1 ht oa1 oa2
  obtain ⟨hag, hsz⟩ := leaf_agg hs'.1
  simp only [List.all_cons, Bool.and_eq_true, bne_iff_ne, ne_eq] at hn
  have g1 : xs[f.offset]? = some z1 := by rw [← Array.getElem?_toList, e1, ho, List.getElem?_append_right (by omega), l1]; simp
  have g2 : ys[f.offset]? = some z2 := by rw [← Array.getElem?_toList, e2, ho, List.getElem?_append_right (by omega), l2]; simp
  have ih := eqFields_ok d hs'.2 hr hn.2 ob1 ob2 (p1 := p1 ++ [z1]) (p2 := p2 ++ [z2]) (by rw [e1]; simp) (by rw [e2]; simp) (by simp [l1, hsz]) (by simp [l2, hsz]) w
  unfold Op.eqFields
  rw [if_pos hn.1]
  show (Sem.bind _ _).run P w = _
  rw [run_bind_ok (run_part_leaf ht hag g1)]
  show (Sem.bind _ _).run P w = _
  rw [run_bind_ok (run_part_leaf ht hag g2)]
  show (Sem.bind _ _).run P w = _
  rw [run_bind_ok (he d w)]
  by_cases hxy : x.1 = y.1
  ·rw [dec_iff.2 hxy]
   show (Op.eqFields (d + 1) xs ys l).run P w = _
   rw [ih]
   congr 1
   exact dec_eq (dec_iff.trans ⟨fun h => congrArg (·.2) h, fun h => Prod.ext hxy h⟩)
  ·have q : real.dec (x.1 = y.1) = false := by
    cases hd : real.dec (x.1 = y.1) with
    | true => exact absurd (dec_iff.1 hd) hxy
    | false => rfl
   rw [q]
   show Result.ok false w = _
   congr 1
   exact (dec_eq ⟨fun h => by (cases h), fun h => absurd (congrArg (·.1) h) hxy⟩).symm
 | .int _, _, _, _, _, _, _, _, _, hs, _, _, _, _, _, _, _, _, _ => by cases hs
 | .bool, _, _, _, _, _, _, _, _, hs, _, _, _, _, _, _, _, _, _ => by cases hs
 | .str, _, _, _, _, _, _, _, _, hs, _, _, _, _, _, _, _, _, _ => by cases hs
 | .sl _, _, _, _, _, _, _, _, _, hs, _, _, _, _, _, _, _, _, _ => by cases hs
 | .any, _, _, _, _, _, _, _, _, hs, _, _, _, _, _, _, _, _, _ => by cases hs
 | .arr _ _, _, _, _, _, _, _, _, _, hs, _, _, _, _, _, _, _, _, _ => by cases hs
 | .mp _ _, _, _, _, _, _, _, _, _, hs, _, _, _, _, _, _, _, _, _ => by cases hs
 | .ptr _, _, _, _, _, _, _, _, _, hs, _, _, _, _, _, _, _, _, _ => by cases hs
 | .inil, _, _, _, _, _, _, _, _, hs, _, _, _, _, _, _, _, _, _ => by cases hs
 | .ialt _ _ _, _, _, _, _, _, _, _, _, hs, _, _, _, _, _, _, _, _, _ => by cases hs
theorem equal_str {h1 h2 : Hp} {Z1 Z2 : Nat → Prop} {τ : Ty} {t : TypeId} (hf : τ.flatS = true) (ht : TyOk P τ t) (he : EqSide P t) {c1 c2 : List Value} {x y : τ.den} (o1 : Own h1 Z1 τ 0 [] c1 x) (o2 : Own h2 Z2 τ 0 [] c2 y) (hp : ∃ a b, τ = .pair a b) :
  (Op.equal t (.agg c1.toArray) (.agg c2.toArray)).run P w = .ok (real.dec (real.same2 [x] [y])) w := by
 obtain ⟨a, b, rfl⟩ := hp
 obtain ⟨fs, hu, hr, _⟩ := ht
 have hfs : fs = P.fieldsOf t := by
  have := hu.symm.trans he.under
  simpa using this
 subst hfs
 show (Op.equalIn (9998 + 1 + 1) t (.agg c1.toArray) (.agg c2.toArray)).run P w = _
 rw [run_equalIn_struct w (9998 + 1) t _ _ he.under he.held]
 rw [eqFields_ok (xs := c1.toArray) (ys := c2.toArray) 9998 hf (off := 0) (p1 := []) (p2 := []) hr he.names o1 o2 rfl rfl rfl rfl w]
 congr 1
 exact dec_eq (dec_iff.trans ⟨fun h => (List.cons.inj (show [x] = [y] from h)).1, fun h => (show [x] = [y] by rw [h])⟩)
theorem sound_eqStr (hT : TabOk P T) (S : Sim Bb w0 O0 av Γ a w β F) {op : BinOp} {t ty : TypeId} {x y : Operand} (ho : o.op = .binOp op t x y ty) (hm : t ∈ T.eq) (hk : opEqStr real T Γ o.dst K op t (Γ.eval x) (Γ.eval y)) : Reads P o a w (Nx Bb w0 O0 av K) := by
 have hx := S.eval x
 have hy := S.eval y
 have hrun : ∀ z, (do eqGuard op t x y (a.eval x) (a.eval y); binOp op t (a.eval x) (a.eval y) : Sem Value).run P w = .ok z w → (execOp a.eval o).run P w = .ok (.value z) w := fun z hz => by
  unfold execOp; rw [ho]; exact run_v hz
 unfold opEqStr at hk
 split at hk
 ·rename_i τ d1 u1 p d2 u2 q ht hxe hye
  rw [hxe] at hx
  rw [hye] at hy
  split at hk
  ·rename_i p' q' hp hq
   have e1 := as_some hp
   have e2 := as_some hq
   simp only [Sigma.mk.injEq] at e1 e2
   obtain ⟨rfl, e1⟩ := e1
   obtain ⟨e0, e2⟩ := e2
   subst e0
   have e1' := eq_of_heq e1; subst e1'
   have e2' := eq_of_heq e2; subst e2'
   split at hk
   ·rename_i hc
    obtain ⟨hf, hag, hnu⟩ := hc
    obtain ⟨c1, o1, ex⟩ := slot_pv hx
    obtain ⟨c2, o2, ey⟩ := slot_pv hy
    rw [hag] at ex ey
    have ex' : a.eval x = .agg c1.toArray := ex
    have ey' : a.eval y = .agg c2.toArray := ey
    have hpair : ∃ g b, u2 = Ty.pair g b := by
     clear ht o1 o2 hx hy hxe hye hk
     cases u2 with
     | pair g b => exact ⟨g, b, rfl⟩
     | unit => cases hnu
     | _ => cases hf
    have heq := equal_str (w := w) hf (hT.ty _ _ ht) (hT.eq _ hm) o1 o2 hpair
    split at hk
    ·refine go_value S (hrun (.bool (real.dec (real.same2 [p] [q]))) ?_) mk_bool hk
     rw [ex', ey']
     show (Sem.bind _ _).run P w = _
     rw [run_bind_ok (run_eqGuard_agg w _ _ _ _ _ _ (hT.eq _ hm).guard)]
     show (Sem.bind _ _).run P w = _
     rw [run_bind_ok heq]; rfl
    ·refine go_value S (hrun (.bool (real.not (real.dec (real.same2 [p] [q])))) ?_) mk_bool hk
     rw [ex', ey']
     show (Sem.bind _ _).run P w = _
     rw [run_bind_ok (run_eqGuard_agg w _ _ _ _ _ _ (hT.eq _ hm).guard)]
     show (Sem.bind _ _).run P w = _
     rw [run_bind_ok heq]; rfl
    ·exact hk.elim
   ·exact hk.elim
  ·exact hk.elim
 ·exact hk.elim
theorem sound_mkIfc (hT : TabOk P T) (S : Sim Bb w0 O0 av Γ a w β F) {t : TypeId} {x : Operand} (ho : o.op = .makeInterface t x) (hk : opMkIfc T Γ o.dst K t (Γ.eval x)) : Reads P o a w (Nx Bb w0 O0 av K) := by
 have hx := S.eval x
 unfold opMkIfc at hk
 split at hk
 ·rename_i u ht
  split at hk
  ·rename_i hc
   obtain ⟨h1, h2, h3, h4⟩ := hc
   obtain ⟨cs, o1, ex⟩ := slot_one hx h2 (by rintro m hm; rw [hm] at h3; cases h3)
   obtain ⟨q, hu, hn⟩ := (hT.ty _ _ ht).notIfc h4
   refine go_value S (x := .iface t (a.eval x)) (v := .ifs t u (Γ.eval x)) ?_ (slot_c (v := .ifs t u (Γ.eval x)) (cs := [.iface t (a.eval x)]) rfl ⟨cs, by rw [ex, h1], o1⟩) hk
   unfold execOp; rw [ho]
   refine run_v ?_
   unfold Instr.makeInterface
   show (Sem.bind _ _).run P w = _
   rw [run_bind_ok (run_under hu)]
   cases q <;> first | rfl | (exact absurd rfl (hn _))
  ·exact hk.elim
 ·exact hk.elim
theorem slot_two {h : Hp} {Zd : List Nat → Nat → Prop} {u v : SV} {x y : Value} (h1 : Slot1 h Zd β u x) (h2 : Slot1 h Zd β v y) : SlotR h Zd β (.consT u (.consT v .nilT)) (.tuple #[x, y]) :=
 .inl ⟨rfl, [x, y], rfl, x, [y], rfl, h1, y, [], rfl, h2, rfl⟩
theorem sound_assert (hT : TabOk P T) (S : Sim Bb w0 O0 av Γ a w β F) {t u : TypeId} {x : Operand} {ok : Bool} (ho : o.op = .typeAssert x t u ok) (hk : opAssert T Γ o.dst K (Γ.eval x) u ok) : Reads P o a w (Nx Bb w0 O0 av K) := by
 have hx := S.eval x
 have hrun : ∀ z, (Instr.typeAssert (a.eval x) t u ok).run P w = .ok z w → (execOp a.eval o).run P w = .ok (.value z) w := fun z hz => by unfold execOp; rw [ho]; exact run_v hz
 have hb : ∀ b : Bool, Slot1 (hp w) (ZdOf Bb F Γ.roots) β (.pv [] .bool b) (.bool b) := fun b => .inr ⟨[.bool b], ⟨rfl, rfl⟩, rfl⟩
 unfold opAssert at hk
 split at hk
 ·exact hk.elim
 rename_i τ ht
 split at hk
 ·exact hk.elim
 rename_i hif
 have hty := hT.ty _ _ ht
 obtain ⟨q, hu, hn⟩ := hty.notIfc (by simpa using hif)
 have hz : Slot1 (hp w) (ZdOf Bb F Γ.roots) β (zeroSV τ) (valOf τ.agg τ.zc) := .inr ⟨τ.zc, zeroSV_ok τ, by rw [agg_zero]⟩
 have hzv : (zeroValue u).run P w = .ok (valOf τ.agg τ.zc) w := run_zero hty.info
 split at hk
 ·rename_i s b v hxe
  rw [hxe] at hx
  obtain ⟨cs, ex, o1⟩ := slot_ifs hx
  split at hk
  ·rename_i hsu
   subst hsu
   split at hk
   ·rename_i hc
    refine go_value S (hrun (.tuple #[valOf b.agg cs, .bool true]) ?_) (slot_two (.inr ⟨cs, o1, by rw [hc.1]⟩) (hb true)) hk
    rw [ex]
    unfold Instr.typeAssert
    show (Sem.bind _ _).run P w = _
    rw [run_bind_ok (run_under hu)]
    cases q <;> first | (simp only [if_true]; rfl) | (exact absurd rfl (hn _))
   ·exact hk.elim
  ·rename_i hsu
   refine go_value S (hrun (.tuple #[valOf τ.agg τ.zc, .bool false]) ?_) (slot_two hz (hb false)) hk
   rw [ex]
   unfold Instr.typeAssert
   show (Sem.bind _ _).run P w = _
   rw [run_bind_ok (run_under hu)]
   cases q <;> first | (exact absurd rfl (hn _)) | (simp only [hsu, if_false, if_true]; show (Sem.bind _ _).run P w = _; rw [run_bind_ok hzv]; rfl)
 ·rename_i s b v hxe
  rw [hxe] at hx
  obtain ⟨cs, ex, o1⟩ := slot_ifs hx
  split at hk
  ·rename_i hc
   obtain ⟨rfl, h1, h2⟩ := hc
   refine go_value S (hrun (valOf b.agg cs) ?_) (.inr ⟨h2, .inr ⟨cs, o1, by rw [h1]⟩⟩) hk
   rw [ex]
   unfold Instr.typeAssert
   show (Sem.bind _ _).run P w = _
   rw [run_bind_ok (run_under hu)]
   cases q <;> first | (simp only [if_true]; rfl) | (exact absurd rfl (hn _))
  ·exact hk.elim
 ·rename_i hxe
  rw [hxe] at hx
  have ex := slot_nilI hx
  refine go_value S (hrun (.tuple #[valOf τ.agg τ.zc, .bool false]) ?_) (slot_two hz (hb false)) hk
  rw [ex]
  unfold Instr.typeAssert
  show (Sem.bind _ _).run P w = _
  rw [run_bind_ok (run_under hu)]
  cases q <;> first | (exact absurd rfl (hn _)) | (simp only [if_true]; show (Sem.bind _ _).run P w = _; rw [run_bind_ok hzv]; rfl)
 ·exact hk.elim
theorem sound_nilArr (S : Sim Bb w0 O0 av Γ a w β F) {x : Operand} (ho : o.op = .nilCheck x) (hk : opNilArr real Γ o.dst K (Γ.eval x)) : Reads P o a w (Nx Bb w0 O0 av K) := by
 have hx := S.eval x
 have hrun : ∀ q : Addr, a.eval x = .pointer (some q) → (execOp a.eval o).run P w = .ok (.value (a.eval x)) w := fun q hq => by unfold execOp; rw [ho]; simp only [hq]; rfl
 unfold opNilArr at hk
 split at hk
 ·rename_i r e n hxe
  rw [hxe] at hx
  obtain ⟨b, _, ex⟩ := arp_slot hx
  exact go_value S (hrun _ ex) hx hk
 ·rename_i dp e y hxe
  rw [hxe] at hx
  obtain ⟨h1, hk⟩ := hk
  have hx0 := hx
  obtain ⟨cs, oo, ex⟩ := slot_pv hx
  cases y with
  | none => exact (h1 rfl).elim
  | some y =>
   obtain ⟨_, b, off, arr, ty, fz, rfl, hz, hbb, hl, ho2⟩ := oo
   exact go_value S (hrun _ ex) hx0 hk
 ·exact hk.elim
/-- A view of a row, as what is read out of it. -/
theorem lay0_ok (S : Sim Bb w0 O0 av Γ a w β F) {v : SV} {x : Value} (s : SlotR (hp w) (ZdOf Bb F Γ.roots) β v x) : SlotR (hp w) (ZdOf Bb F Γ.roots) β (lay0 real Γ v) x := by
 unfold lay0
 split
 ·rename_i r e lo hi
  split
  ·rename_i f xs hr
   split
   ·rename_i hfe
    subst hfe
    obtain ⟨cs, ⟨b, o, len, c, hb, h0, h1, h2, h3, rfl⟩, ex⟩ := slot_one s rfl (by simp)
    have hin := look_mem hr
    have hrow : Own (hp w) (ZdOf Bb F Γ.roots []) (.sl f) 1 (F r) [β r] xs := S.roots r _ hin
    have hrd : Own (hp w) (ZdOf Bb F Γ.roots [r]) (.sl f) 0 [] [β r] xs := by
     refine (hrow.weaken (fun b hb => zd_mono (by simp) hb)).freeze (fun b hb => hb) (fun b hb => ?_)
     exact .inr ⟨r, by simp, List.mem_map.2 ⟨_, hin, rfl⟩, hb⟩
    obtain ⟨A, c', e1, l1, l2, _, q⟩ := hrd
    rw [hb] at e1
    simp only [List.cons.injEq, Value.slice.injEq, and_true] at e1
    obtain ⟨rfl, rfl, rfl⟩ := e1
    have hlen : (real.cut xs lo hi).length = hi.toNat - lo.toNat := by
     show ((xs.drop lo.toNat).take (hi.toNat - lo.toNat)).length = _
     simp; omega
    refine .inr ⟨rfl, .inr ⟨_, ⟨some ⟨b, o + lo.toNat * f.sz, none⟩, c - lo.toNat, by rw [hlen], by rw [hlen]; omega, by rw [hlen]; omega, rfl, fun hne => ?_⟩, ex⟩⟩
    have hxs : xs ≠ [] := by
     rintro rfl
     apply hne
     show (List.drop _ []).take _ = []
     simp
    obtain ⟨b', o', arr, ty, fz, q1, q2, q3, q4, q5⟩ := q hxs
    simp only [Option.some.injEq, Addr.mk.injEq, and_true] at q1
    obtain ⟨rfl, rfl⟩ := q1
    have hmul : lo.toNat * f.sz + (real.cut xs lo hi).length * f.sz ≤ xs.length * f.sz := by
     rw [hlen, ← Nat.add_mul]
     exact Nat.mul_le_mul_right _ (by omega)
    refine ⟨b, o + lo.toNat * f.sz, arr, ty, fz, rfl, q2, q3, by omega, fun i y hy => ?_⟩
    have hy' : ((xs.drop lo.toNat).take (hi.toNat - lo.toNat))[i]? = some y := hy
    rw [List.getElem?_take] at hy'
    split at hy'
    ·rw [List.getElem?_drop] at hy'
     have := q5 _ y hy'
     rw [Nat.add_mul, ← Nat.add_assoc] at this
     exact this
    ·cases hy'
   ·exact s
  ·exact s
 ·exact s
theorem lays_ok (S : Sim Bb w0 O0 av Γ a w β F) : ∀ {vs : List SV} {xs : List Value}, SlotsR (hp w) (ZdOf Bb F Γ.roots) β vs xs → SlotsR (hp w) (ZdOf Bb F Γ.roots) β (lays real Γ vs) xs
 | [], _, s => s
 | v :: vs, _, .cons s1 s2 => .cons (lay0_ok S s1) (lays_ok S s2)
theorem sound_callL {f : FuncId} {c : Con} (he : Enters P f) (hf : FnOK P f c) (S : Sim Bb w0 O0 av Γ a w β F) {args : Array Operand} {tys : Array TypeId} (ho : o.op = .call { callee := .value (.func f), args := args, argTypes := tys })
  (hk : opCall Γ o.dst K c (lays real Γ (args.toList.map Γ.eval))) : o.wp P a w (Nx Bb w0 O0 av K) Q := by
 refine sound_enter hf S (lays_ok S (slotsR S args.toList)) ?_ hk
 rw [run_call he ho]
 have hargs : (args.toList.map a.eval).toArray = args.map a.eval := by rw [← Array.toList_map]
 rw [hargs]
theorem sound_invoke (hT : TabOk P T) (hC : ∀ f c, C f = some c → Enters P f ∧ FnOK P f c) (S : Sim Bb w0 O0 av Γ a w β F) {x : Operand} {name : String} {args : Array Operand} {tys : Array TypeId} (ho : o.op = .call { callee := .invoke x name, args := args, argTypes := tys })
  (hk : opInvoke T C Γ o.dst K name (Γ.eval x) (lays real Γ (args.toList.map Γ.eval))) : o.wp P a w (Nx Bb w0 O0 av K) Q := by
 have hx := S.eval x
 unfold opInvoke at hk
 split at hk
 ·rename_i t b v hxe
  rw [hxe] at hx
  obtain ⟨cs, ex, o1⟩ := slot_ifs hx
  split at hk
  ·rename_i f hf
   split at hk
   ·rename_i c hc
    split at hk
    ·rename_i hv
     obtain ⟨he, hok⟩ := hC _ _ hc
     refine sound_enter hok S (vs := v :: lays real Γ (args.toList.map Γ.eval)) (xs := valOf b.agg cs :: args.toList.map a.eval) (.cons (.inr ⟨hv.2, .inr ⟨cs, o1, by rw [hv.1]⟩⟩) (lays_ok S (slotsR S args.toList))) ?_ hk
     have e0 : execOp a.eval o = (do let d ← resolve a.eval { callee := .invoke x name, args := args, argTypes := tys } o.type; invoke d.target d.args) := by unfold execOp; rw [ho]
     rw [e0]
     show (Sem.bind _ _).run P w = _
     rw [run_bind_ok (s := resolve _ _ _) (x := { target := .fn (.method name) #[], args := #[a.eval x] ++ args.map a.eval }) (w' := w) rfl]
     have e2 : (#[a.eval x] ++ args.map a.eval).extract 1 (#[a.eval x] ++ args.map a.eval).size = args.map a.eval := by
      apply Array.toList_inj.1; rw [Array.toList_extract, Array.toList_append]; simp [List.extract]; rw [List.take_of_length_le (by simp)]
     have e3 : (#[a.eval x] ++ args.map a.eval)[0]? = some (.iface t (valOf b.agg cs)) := by rw [ex, Array.getElem?_append_left (by simp)]; rfl
     simp only [invoke, e3]
     rw [e2]
     show (callMethod (.iface t (valOf b.agg cs)) name (args.map a.eval)).run P w = _
     unfold callMethod
     show (Sem.bind _ _).run P w = _
     rw [run_bind_ok (s := program) (x := P) (w' := w) rfl]
     show (Sem.bind _ _).run P w = _
     rw [run_bind_ok (hT.mth _ _ _ hf _ _)]
     show (callFunc f _).run P w = _
     rw [he]
     have e4 : #[valOf b.agg cs] ++ args.map a.eval = (valOf b.agg cs :: args.toList.map a.eval).toArray := by apply Array.toList_inj.1; simp
     rw [e4]
    ·exact hk.elim
   ·exact hk.elim
  ·exact hk.elim
 ·exact hk.elim
theorem buildM_eq {e : Ty} : ∀ {ps : List (Nat × SV)} {xs : List e.den}, buildM real Γ e xs ps = buildL2 Γ e xs ps
 | [], xs => rfl
 | (n, u) :: l, xs => by
  unfold buildM buildL2
  split
  ·rename_i y hy
   have e1 : real.set xs (real.ofN n) y.1 = xs.set n y.1 := by show xs.set (n : Int).toNat y.1 = _; rw [Int.toNat_natCast]
   rw [e1]; exact buildM_eq
  ·rfl
theorem buildL2_eq {e : Ty} (hf : e.hasSl = false) : ∀ {ps : List (Nat × SV)} {xs : List e.den}, buildL2 Γ e xs ps = buildL Γ.roots e xs ps
 | [], xs => rfl
 | (n, u) :: l, xs => by
  unfold buildL2 buildL
  cases den0 Γ.roots e u with
  | some y =>
   have hn : ¬ (e.hasSl = true ∧ isD y.2 = false) := by rw [hf]; simp
   simp only [if_neg hn]
   exact buildL2_eq hf
  | none => rfl
theorem sound_buildArr (hT : TabOk P T) (S : Sim Bb w0 O0 av Γ a w β F) {t : TypeId} {n : Nat} {e : Ty} {ps : Array (Nat × Operand)} (ho : o.op = .build t ps) (ht : T.ty t = some (.arr n e)) (hn : ∀ p ∈ ps.toList, p.1 < n)
  (hk : opBuildArr real Γ o.dst K n e (ps.toList.map fun p => (p.1, Γ.eval p.2))) : Reads P o a w (Nx Bb w0 O0 av K) := by
 have hrun : ∀ z, (Instr.build t (ps.map fun (i, x) => (i, a.eval x))).run P w = .ok z w → (execOp a.eval o).run P w = .ok (.value z) w := fun z hz => by unfold execOp; rw [ho]; exact run_v hz
 unfold opBuildArr at hk
 split at hk
 ·rename_i hc
  obtain ⟨hf, _⟩ := hc
  split at hk
  ·rename_i xs hxs
   rw [buildM_eq, buildL2_eq hf] at hxs
   have e1 : real.rep (real.ofN n) e.zero = List.replicate n e.zero := by show List.replicate (n : Int).toNat e.zero = _; rw [Int.toNat_natCast]
   rw [e1] at hxs
   have hty := hT.ty _ _ ht
   obtain ⟨te, hu, he⟩ := hty.array
   have hc0 : Cells (hp w) (ZdOf Bb F Γ.roots []) e 0 (List.replicate n e.zero) (List.replicate n e.zc).flatten := by
    have := Own.zero (h := hp w) (Z := ZdOf Bb F Γ.roots []) (.arr n e) 0
    obtain ⟨_, h2, h3, h4⟩ := this
    exact ⟨by rw [List.length_replicate]; exact h3, h4⟩
   obtain ⟨cs', r1, r2, r3⟩ := buildL_ok S (lvl := 0) (.inl rfl) n ps.toList _ xs _ (by simp) hc0 hxs hn
   refine go_value S (hrun (.agg cs'.toArray) ?_) (slot_c (v := .pv [] (.arr n e) xs) (cs := cs') rfl ⟨rfl, r3, by rw [← r3]; exact r2.1, r2.2⟩) hk
   unfold Instr.build
   show (Sem.bind _ _).run P w = _
   rw [run_bind_ok (run_zero hty.info)]
   show (Sem.bind _ _).run P w = _
   rw [run_bind_ok (run_under hu)]
   show (Sem.bind _ _).run P w = _
   rw [run_bind_ok (run_size he.info)]
   have hz : (valOf (Ty.arr n e).agg (Ty.arr n e).zc).cells = (List.replicate n e.zc).flatten.toArray := rfl
   have hps : (ps.map fun (i, x) => (i, a.eval x)).toList = ps.toList.map fun p => (p.1, a.eval p.2) := by simp
   rw [hz, hps]
   simp only [r1]; rfl
  ·exact hk.elim
 ·exact hk.elim
theorem wrB_size (arr : Array Value) (o : Nat) (v : Int) : ∀ i, (wrB arr o v i).size = arr.size
 | 0 => rfl
 | i + 1 => by unfold wrB; simp [wrB_size arr o v i]
theorem wrB_get (arr : Array Value) (o : Nat) (v : Int) : ∀ (n j : Nat), o + n ≤ arr.size → (wrB arr o v n)[j]? = if o ≤ j ∧ j < o + n then some (.int .u8 (v / 2 ^ (8 * (j - o)) % 256)) else arr[j]?
 | 0, j, _ => by rw [if_neg (by omega)]; rfl
 | n + 1, j, h => by
  unfold wrB
  rw [Array.getElem?_setIfInBounds, wrB_size]
  by_cases h1 : o + n = j
  ·subst h1
   rw [if_pos rfl, if_pos (by omega), if_pos (by omega)]
   rw [show o + n - o = n by omega]
  ·rw [if_neg h1, wrB_get arr o v n j (by omega)]
   by_cases h2 : o ≤ j ∧ j < o + n
   ·rw [if_pos h2, if_pos (by omega)]
   ·rw [if_neg h2, if_neg (by omega)]
theorem over_get {α : Type} {xs ys : List α} {lo : Int} (h0 : 0 ≤ lo) (h : lo.toNat + ys.length ≤ xs.length) (i : Nat) : (real.over xs lo ys)[i]? = if i < lo.toNat then xs[i]? else if i < lo.toNat + ys.length then ys[i - lo.toNat]? else xs[i]? := by
 show (xs.take lo.toNat ++ ys ++ xs.drop (lo.toNat + ys.length))[i]? = _
 have hl : (xs.take lo.toNat).length = lo.toNat := by simp; omega
 by_cases h1 : i < lo.toNat
 ·rw [if_pos h1, List.getElem?_append_left (by simp; omega), List.getElem?_append_left (by omega), List.getElem?_take, if_pos h1]
 ·rw [if_neg h1]
  by_cases h2 : i < lo.toNat + ys.length
  ·rw [if_pos h2, List.getElem?_append_left (by simp; omega), List.getElem?_append_right (by omega), hl]
  ·rw [if_neg h2, List.getElem?_append_right (by simp; omega), List.getElem?_drop]
   congr 1
   simp; omega
theorem over_len {α : Type} {xs ys : List α} {lo : Int} (h0 : 0 ≤ lo) (h : lo.toNat + ys.length ≤ xs.length) : (real.over xs lo ys).length = xs.length := by
 show (xs.take lo.toNat ++ ys ++ xs.drop (lo.toNat + ys.length)).length = _
 simp; omega
theorem wr_core {f : FuncId} (hw : Writes P f) (S : Sim Bb w0 O0 av Γ a w β F) {r : Nat} {lo hi v n : Int} {xs : List Int} {z1 z2 z3 : Value} (hr : look r Γ.roots = some (.row 0 (.int .u8) xs)) (s1 : SlotR (hp w) (ZdOf Bb F Γ.roots) β (.vw r (.int .u8) lo hi) z1) (e2 : z2 = .int .i64 v) (e3 : z3 = .int .i64 n)
  (h1' : 0 ≤ n) (h2' : n ≤ 8) (h3' : n ≤ hi - lo) (hk : Ctx.on ((Γ.map (killD r)).set r (.row 0 (.int .u8) (real.over xs lo (real.bytes v n)))) o.dst .nilT K) (hrun : (execOp a.eval o).run P w = .ok (.enter f [z1, z2, z3].toArray) w) : o.wp P a w (Nx Bb w0 O0 av K) Q := by
 obtain ⟨_, hw⟩ := hw
 obtain ⟨cs, ⟨b, off, len, c, hb, q0, q1, q2, q3, rfl⟩, ex⟩ := slot_one s1 rfl (by simp)
 have hin := look_mem hr
 have hrow : Own (hp w) (ZdOf Bb F Γ.roots []) (.sl (.int .u8)) 1 (F r) [β r] xs := S.roots r _ hin
 obtain ⟨A, c', e1, l1, l2, q⟩ := hrow
 rw [hb] at e1
 simp only [List.cons.injEq, Value.slice.injEq, and_true] at e1
 obtain ⟨rfl, rfl, rfl⟩ := e1
 rcases q with ⟨q, _⟩ | ⟨b', o', arr, ty, Bs, q4, q5, q6, q7, q8, q9⟩
 ·cases q
 simp only [Option.some.injEq, Addr.mk.injEq, and_true] at q4
 obtain ⟨rfl, rfl⟩ := q4
 have hsz : (Ty.int .u8).sz = 1 := rfl
 have hB : Bs.flatten = [] := by
  rw [List.flatten_eq_nil_iff]
  intro l hl
  obtain ⟨i, hi, rfl⟩ := List.mem_iff_getElem.1 hl
  exact (q9 i _ _ (List.getElem?_eq_getElem (by omega)) (List.getElem?_eq_getElem hi)).b0
 have hcell : ∀ i x, xs[i]? = some x → arr[off + i]? = some (.int .u8 x) ∧ InK .u8 x := fun i x hx => by
  have hi : i < Bs.length := by rw [q8]; exact (List.getElem?_eq_some_iff.1 hx).1
  obtain ⟨_, h4, h5⟩ := q9 i x _ hx (List.getElem?_eq_getElem hi)
  have h4' : seg arr.toList (off + i * 1) 1 = [Value.int .u8 x] := h4
  have h6 : (seg arr.toList (off + i * 1) 1)[0]? = some (Value.int .u8 x) := by rw [h4']; rfl
  rw [seg_get] at h6
  exact ⟨by simpa using h6, h5⟩
 have hcall := hw w b (off + lo.toNat) (hi.toNat - lo.toNat) (c - lo.toNat) arr ty v n.toNat q5 (by rw [hsz] at q6; omega) (by omega) (by omega) (fun k hk' => by
  have hk2 : lo.toNat + k < xs.length := by omega
  have := hcell (lo.toNat + k) _ (List.getElem?_eq_getElem hk2)
  exact ⟨_, by rw [Nat.add_assoc]; exact this.1⟩)
 have e3' : z3 = .int .i64 (n.toNat : Int) := by rw [e3, Int.toNat_of_nonneg h1']
 have ex' : z1 = .slice (some ⟨b, off + lo.toNat, none⟩) (hi.toNat - lo.toNat) (c - lo.toNat) := by rw [ex, hsz]; simp [valOf, SV.isAgg]
 rw [e2, e3', ex'] at hrun
 unfold Oper.wp
 rw [hrun, Oper.upon_enter]
 refine hcall.mono ?_
 rintro e' w' ⟨rfl, rfl⟩
 show Nx Bb w0 O0 av K (a.put o.dst (.tuple #[])) _
 have hby : (real.bytes v n).length = n.toNat := by show (List.map _ (List.range n.toNat)).length = _; simp
 have hfit : lo.toNat + (real.bytes v n).length ≤ xs.length := by rw [hby]; omega
 have hwsz : off + lo.toNat + n.toNat ≤ arr.size := by rw [hsz] at q6; omega
 have S2 := row_change (e := .int .u8) (ys := real.over (α := Int) xs lo (real.bytes v n)) (arr' := wrB arr (off + lo.toNat) v n.toNat) S hr hb q5 (by rw [q7, hB]) (over_len q0 hfit) l1 l2 (by rw [wrB_size]; exact q6) (fun h' Z' i y hy => by
  rw [over_get q0 hfit] at hy
  have hval : (wrB arr (off + lo.toNat) v n.toNat)[off + i]? = some (.int .u8 y) ∧ InK .u8 y := by
   rw [wrB_get _ _ _ _ _ hwsz]
   split at hy
   ·rw [if_neg (by omega)]; exact hcell i y hy
   ·split at hy
    ·rename_i g1 g2
     rw [hby] at g2
     rw [if_pos (by omega)]
     have hy' : (List.map (fun i => v / 2 ^ (8 * i) % 256) (List.range n.toNat))[i - lo.toNat]? = some y := hy
     rw [List.getElem?_map, List.getElem?_range (by omega)] at hy'
     simp only [Option.map_some, Option.some.injEq] at hy'
     subst hy'
     refine ⟨by rw [show off + i - (off + lo.toNat) = i - lo.toNat by omega], ?_⟩
     unfold InK IntKind.min IntKind.max IntKind.signed IntKind.bits
     simp; omega
    ·rename_i g1 g2
     rw [hby] at g2
     rw [if_neg (by omega)]; exact hcell i y hy
  refine ⟨rfl, ?_, hval.2⟩
  show seg (wrB arr (off + lo.toNat) v n.toNat).toList (off + i * 1) 1 = [.int .u8 y]
  apply List.ext_getElem?
  intro k
  rw [seg_get]
  cases k with
  | zero => simpa using hval.1
  | succ k => simp)
 unfold Ctx.on at hk
 split at hk
 ·rename_i Γ' eΓ
  exact ⟨Γ', β, F, hk, S2.put (v := .nilT) (x := .tuple #[]) (.inl ⟨rfl, [], rfl, show TupR _ _ _ .nilT [] from rfl⟩) eΓ⟩
 ·exact hk.elim
theorem sound_wr (hT : TabOk P T) (S : Sim Bb w0 O0 av Γ a w β F) {f : FuncId} (hf : f ∈ T.wr) {args : Array Operand} {tys : Array TypeId} (ho : o.op = .call { callee := .value (.func f), args := args, argTypes := tys })
  (hk : opWr real Γ o.dst K (args.toList.map Γ.eval)) : o.wp P a w (Nx Bb w0 O0 av K) Q := by
 obtain ⟨he, hw⟩ := hT.wr f hf
 have hsl := slotsR S args.toList
 have hrun := run_call (a := a) (w := w) he ho
 have hargs : args.map a.eval = (args.toList.map a.eval).toArray := by rw [← Array.toList_map]
 rw [hargs] at hrun
 generalize args.toList.map a.eval = zs at *
 unfold opWr at hk
 split at hk
 ·rename_i r e lo hi d1 v d2 n hvs
  rw [hvs] at hsl
  obtain ⟨z1, z2, z3, rfl⟩ : ∃ z1 z2 z3, zs = [z1, z2, z3] := by
   cases hsl with | cons _ s2 => cases s2 with | cons _ s3 => cases s3 with | cons _ s4 => cases s4; exact ⟨_, _, _, rfl⟩
  cases hsl with | cons s1 s2 => ?_
  cases s2 with | cons s2 s3 => ?_
  cases s3 with | cons s3 s4 => ?_
  split at hk
  ·rename_i xs hr
   split at hk
   ·rename_i hfe
    subst hfe
    obtain ⟨h1, h2, h3, hk⟩ := hk
    exact wr_core (hT.wr f hf) S hr s1 (slot_int s2).1 (slot_int s3).1 h1 h2 h3 hk hrun
   ·exact hk.elim
  ·exact hk.elim
 ·exact hk.elim
theorem setRow_upd {w : World} {g : Nat} {old cs : Array Value} {t : TypeId} {fr : Nat × Nat} (hg : w.heap[g]? = some (.cells old t fr)) : w.setRow g cs = upd w g (.cells cs t fr) := by
 have hlt : g < w.heap.size := (Array.getElem?_eq_some_iff.1 hg).1
 have he : w.heap[g] = .cells old t fr := (Array.getElem?_eq_some_iff.1 hg).2
 unfold World.setRow upd
 congr 1
 apply Array.ext_getElem?
 intro i
 rw [Array.getElem?_modify, Array.getElem?_setIfInBounds]
 by_cases hi : g = i
 ·subst hi; simp [hlt, he]
 ·simp [hi]
theorem copy_core (hT : TabOk P T) (S : Sim Bb w0 O0 av Γ a w β F) {x y : Operand} {t t2 : TypeId} (ho : o.op = .call { callee := .builtin .copy, args := #[x, y], argTypes := #[t, t2] }) {r : Nat} {lo hi : Int} {xs : List Int} {s : ByteArray} {z1 z2 : Value}
  (ex1 : a.eval x = z1) (ex2 : a.eval y = z2) (hu : T.ty t = some (.sl (.int .u8))) (hr : look r Γ.roots = some (.row 0 (.int .u8) xs)) (s1 : SlotR (hp w) (ZdOf Bb F Γ.roots) β (.vw r (.int .u8) lo hi) z1) (e2 : z2 = .string s) (hsz : s.size ≤ maxL)
  (h1' : (s.size : Int) ≤ hi - lo) (hk : Ctx.on ((Γ.map (killD r)).set r (.row 0 (.int .u8) (real.over xs lo (real.toB s)))) o.dst (.pv [] (.int .i64) (s.size : Int)) K) : o.wp P a w (Nx Bb w0 O0 av K) Q := by
 obtain ⟨te, hut, hte⟩ := (hT.ty _ _ hu).slice
 have hse : (P.info? te).map (·.size) = some 1 := by
  obtain ⟨i, h1, h2, _⟩ := hte.info
  rw [h1]; simpa [Ty.sz] using h2
 obtain ⟨cs, ⟨b, off, len, c, hb, q0, q1, q2, q3, rfl⟩, ex⟩ := slot_one s1 rfl (by simp)
 have hin := look_mem hr
 have hrow : Own (hp w) (ZdOf Bb F Γ.roots []) (.sl (.int .u8)) 1 (F r) [β r] xs := S.roots r _ hin
 obtain ⟨A, c', e1, l1, l2, q⟩ := hrow
 rw [hb] at e1
 simp only [List.cons.injEq, Value.slice.injEq, and_true] at e1
 obtain ⟨rfl, rfl, rfl⟩ := e1
 rcases q with ⟨q, _⟩ | ⟨b', o', arr, ty, Bs, q4, q5, q6, q7, q8, q9⟩
 ·cases q
 simp only [Option.some.injEq, Addr.mk.injEq, and_true] at q4
 obtain ⟨rfl, rfl⟩ := q4
 have hsz1 : (Ty.int .u8).sz = 1 := rfl
 have hB : Bs.flatten = [] := by
  rw [List.flatten_eq_nil_iff]
  intro l hl
  obtain ⟨i, hi, rfl⟩ := List.mem_iff_getElem.1 hl
  exact (q9 i _ _ (List.getElem?_eq_getElem (by omega)) (List.getElem?_eq_getElem hi)).b0
 have hcell : ∀ i x, xs[i]? = some x → arr[off + i]? = some (.int .u8 x) ∧ InK .u8 x := fun i x hx => by
  have hi : i < Bs.length := by rw [q8]; exact (List.getElem?_eq_some_iff.1 hx).1
  obtain ⟨_, h4, h5⟩ := q9 i x _ hx (List.getElem?_eq_getElem hi)
  have h4' : seg arr.toList (off + i * 1) 1 = [Value.int .u8 x] := h4
  have h6 : (seg arr.toList (off + i * 1) 1)[0]? = some (Value.int .u8 x) := by rw [h4']; rfl
  rw [seg_get] at h6
  exact ⟨by simpa using h6, h5⟩
 have ex' : a.eval x = .slice (some ⟨b, off + lo.toNat, none⟩) (hi.toNat - lo.toNat) (c - lo.toNat) := by rw [ex1, ex, hsz1]; simp [valOf, SV.isAgg]
 have hwsz : off + lo.toNat + s.size ≤ arr.size := by rw [hsz1] at q6; omega
 have hcp := Lib.run_copy_row_string (P := P) w t t2 o.type te b (off + lo.toNat) (hi.toNat - lo.toNat) (c - lo.toNat) s arr ty hut hse q5 (by omega) hwsz
 rw [setRow_upd q5] at hcp
 have hrun : (execOp a.eval o).run P w = .ok (.value (goInt s.size)) (upd w b (.cells (arr.toList.take (off + lo.toNat) ++ Lib.byteCells s.data.toList ++ arr.toList.drop (off + lo.toNat + s.size)).toArray ty (0, 0))) := by
  have e1 : execOp a.eval o = (do pure (Next.value (← Builtin.copy_ #[t, t2] o.type (Array.map a.eval #[x, y]))) : Sem Next) := by unfold execOp; rw [ho]; rfl
  have e3 : Array.map a.eval #[x, y] = #[.slice (some ⟨b, off + lo.toNat, none⟩) (hi.toNat - lo.toNat) (c - lo.toNat), .string s] := by simp [ex', ex2, e2]
  rw [e1, e3]; exact run_v hcp
 unfold Oper.wp
 rw [hrun]
 have hlen : (Lib.byteCells s.data.toList).length = s.size := by rw [Lib.byteCells_length]; simp
 have hby : (real.toB s).length = s.size := by show (s.data.toList.map _).length = s.size; simp
 have hfit : lo.toNat + (real.toB s).length ≤ xs.length := by rw [hby]; omega
 have hAlen : (arr.toList.take (off + lo.toNat) ++ Lib.byteCells s.data.toList ++ arr.toList.drop (off + lo.toNat + s.size)).length = arr.size := by simp [hlen]; omega
 have S2 := row_change (e := .int .u8) (ys := real.over (α := Int) xs lo (real.toB s)) (arr' := (arr.toList.take (off + lo.toNat) ++ Lib.byteCells s.data.toList ++ arr.toList.drop (off + lo.toNat + s.size)).toArray) S hr hb q5 (by rw [q7, hB]) (over_len q0 hfit) l1 l2 (by rw [List.size_toArray, hAlen]; exact q6) (fun h' Z' i y hy => by
  rw [over_get q0 hfit] at hy
  have hval : (arr.toList.take (off + lo.toNat) ++ Lib.byteCells s.data.toList ++ arr.toList.drop (off + lo.toNat + s.size))[off + i]? = some (.int .u8 y) ∧ InK .u8 y := by
   split at hy
   ·rw [List.append_assoc, List.getElem?_append_left (by simp; omega), List.getElem?_take, if_pos (by omega)]
    simpa using hcell i y hy
   ·split at hy
    ·rename_i g1 g2
     rw [hby] at g2
     have hl1 : (arr.toList.take (off + lo.toNat)).length = off + lo.toNat := by simp; omega
     rw [List.getElem?_append_left (by rw [List.length_append, hl1, hlen]; omega), List.getElem?_append_right (by rw [hl1]; omega), hl1]
     have hy' : (s.data.toList.map fun b => (b.toNat : Int))[i - lo.toNat]? = some y := hy
     rw [List.getElem?_map, Option.map_eq_some_iff] at hy'
     obtain ⟨bb, hbb, rfl⟩ := hy'
     unfold Lib.byteCells
     rw [List.getElem?_map, show off + i - (off + lo.toNat) = i - lo.toNat by omega, hbb]
     refine ⟨rfl, ?_⟩
     have := bb.toNat_lt
     unfold InK IntKind.min IntKind.max IntKind.signed IntKind.bits
     simp; omega
    ·rename_i g1 g2
     rw [hby] at g2
     have hl1 : (arr.toList.take (off + lo.toNat)).length = off + lo.toNat := by simp; omega
     rw [List.getElem?_append_right (by rw [List.length_append, hl1, hlen]; omega), List.length_append, hl1, hlen, List.getElem?_drop]
     rw [show off + lo.toNat + s.size + (off + i - (off + lo.toNat + s.size)) = off + i by omega]
     simpa using hcell i y hy
  refine ⟨rfl, ?_, hval.2⟩
  show seg (arr.toList.take (off + lo.toNat) ++ Lib.byteCells s.data.toList ++ arr.toList.drop (off + lo.toNat + s.size)) (off + i * 1) 1 = [.int .u8 y]
  apply List.ext_getElem?
  intro k
  rw [seg_get]
  cases k with
  | zero => simpa using hval.1
  | succ k => simp)
 unfold Ctx.on at hk
 split at hk
 ·rename_i Γ' eΓ
  show Nx Bb w0 O0 av K (a.put o.dst (goInt s.size)) _
  exact ⟨Γ', β, F, hk, S2.put (v := .pv [] (.int .i64) (s.size : Int)) (x := .int .i64 (s.size : Int)) (mk_int (inK_len hsz)) eΓ⟩
 ·exact hk.elim
theorem sound_copy (hT : TabOk P T) (S : Sim Bb w0 O0 av Γ a w β F) {x y : Operand} {t t2 : TypeId} (ho : o.op = .call { callee := .builtin .copy, args := #[x, y], argTypes := #[t, t2] })
  (hk : opCopy real T Γ o.dst K [t, t2] (Γ.eval x) (Γ.eval y)) : o.wp P a w (Nx Bb w0 O0 av K) Q := by
 have hx := S.eval x
 have hy := S.eval y
 unfold opCopy at hk
 split at hk
 ·rename_i t' u r e lo hi d s hts hxe hye
  simp only [List.cons.injEq, and_true] at hts
  obtain ⟨rfl, rfl⟩ := hts
  rw [hxe] at hx; rw [hye] at hy
  split at hk
  ·rename_i xs hty hr
   split at hk
   ·rename_i he
    subst he
    obtain ⟨e2, hsz⟩ := slot_str hy
    exact copy_core hT S ho rfl rfl hty hr hx e2 hsz hk.1 hk.2
   ·exact hk.elim
  ·exact hk.elim
 ·exact hk.elim
end
end Go.Proofs.YtmjeghlfmhbjdaaDoor.Eng
