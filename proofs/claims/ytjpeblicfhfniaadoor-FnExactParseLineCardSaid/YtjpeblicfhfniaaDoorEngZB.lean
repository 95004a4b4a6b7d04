/- The engine: maps. No condition. -/
import Derived.Test.YtjpeblicfhfniaaDoorEngZ
namespace Go.Proofs.YtjpeblicfhfniaaDoor.Eng
open Go.RowKit
set_option linter.unusedVariables false
set_option linter.unusedSimpArgs false
/-! ### keys -/
def isKey : Ty → Bool
  | .int _ => true | .str => true | .bool => true | _ => false
def keyV : (t : Ty) → t.den → Value
  | .int k, x => .int k x
  | .str, s => .string s
  | .bool, b => .bool b
  | _, _ => undef
def keyD : Ty → TypeDesc
  | .int k => .int k | .str => .string | _ => .bool
section
variable (M : Mth) (T : Tab) (Γ : Ctx) (d : Option Nat) (K : Ctx → Prop)
def opMakeMap (t : TypeId) : Prop :=
  match T.ty t with
  | some (.mp k v) => match has Γ.new Γ.roots with
    | false => ((Γ.map (kill Γ.new)).add Γ.new (.mp k v [])).on d (.ref Γ.new) K
    | true => False
  | _ => False
def opInsert (t : TypeId) (x k v : SV) : Prop :=
  match T.ty t with
  | some (.mp kt vt) => match x with
    | .ref r => match look r Γ.roots with
      | some (.mp kt' vt' xs) => if kt' = kt ∧ vt' = vt ∧ isKey kt' = true then
          match den0 Γ.roots kt' k, den0 Γ.roots vt' v with
          | some q, some y => if vt'.hasSl = true ∧ isD y.2 = false then False else
              K ((Γ.map (killD r)).set r (.mp kt' vt' (M.mput xs q.1 y.1)))
          | _, _ => False
        else False
      | _ => False
    | _ => False
  | _ => False
def opDelete (t : TypeId) (x k : SV) : Prop :=
  match T.ty t with
  | some (.mp kt vt) => match x with
    | .ref r => match look r Γ.roots with
      | some (.mp kt' vt' xs) => if kt' = kt ∧ vt' = vt ∧ isKey kt' = true then
          match den0 Γ.roots kt' k with
          | some q => ((Γ.map (killD r)).set r (.mp kt' vt' (M.mdel xs q.1))).on d .nilT K
          | _ => False
        else False
      | _ => False
    | _ => False
  | _ => False
def opLookup (t : TypeId) (x k : SV) (commaOk : Bool) : Prop :=
  match T.ty t with
  | some (.mp kt vt) => match den0 Γ.roots (.mp kt vt) x, den0 Γ.roots kt k with
    | some m, some q => match m.1 with
      | none => False
      | some xs => if isKey kt = true then
          let v : SV := .pv (if vt.hasSl then m.2 else []) vt (M.mget xs q.1 vt.zero)
          match commaOk with
          | true => Γ.on d (.consT v (.consT (.pv [] .bool (M.dec (M.mhas xs q.1))) .nilT)) K
          | false => Γ.on d v K
        else False
    | _, _ => False
  | _ => False
end
/-! ### lists -/
section
variable {α γ : Type}
theorem rget_out {xs : List (α × γ)} {k : α} {d : γ} (h : k ∉ xs.map (·.1)) : rget xs k d = d := by
  induction xs with
  | nil => rfl
  | cons p l ih =>
    simp only [List.map_cons, List.mem_cons, not_or] at h
    unfold rget; rw [if_neg (fun e => h.1 e.symm)]; exact ih h.2
theorem rput_out {xs : List (α × γ)} {k : α} {v : γ} (h : k ∉ xs.map (·.1)) : rput xs k v = xs ++ [(k, v)] := by
  induction xs with
  | nil => rfl
  | cons p l ih =>
    simp only [List.map_cons, List.mem_cons, not_or] at h
    unfold rput; rw [if_neg (fun e => h.1 e.symm), ih h.2]; rfl
theorem rdel_out {xs : List (α × γ)} {k : α} (h : k ∉ xs.map (·.1)) : rdel xs k = xs := by
  induction xs with
  | nil => rfl
  | cons p l ih =>
    simp only [List.map_cons, List.mem_cons, not_or] at h
    unfold rdel; rw [if_neg (fun e => h.1 e.symm), ih h.2]
theorem rget_at {xs : List (α × γ)} {k : α} {d : γ} {i : Nat} {x : α × γ} (h1 : xs[i]? = some x) (h2 : x.1 = k) (h3 : ∀ j y, j < i → xs[j]? = some y → y.1 ≠ k) : rget xs k d = x.2 := by
  induction xs generalizing i with
  | nil => cases h1
  | cons p l ih =>
    unfold rget
    cases i with
    | zero => simp only [List.getElem?_cons_zero, Option.some.injEq] at h1; subst h1; rw [if_pos h2]
    | succ i =>
      rw [if_neg (h3 0 p (by omega) rfl)]
      exact ih (by simpa using h1) (fun j y hj hy => h3 (j + 1) y (by omega) (by simpa using hy))
theorem rput_at {xs : List (α × γ)} {k : α} {v : γ} {i : Nat} {x : α × γ} (h1 : xs[i]? = some x) (h2 : x.1 = k) (h3 : ∀ j y, j < i → xs[j]? = some y → y.1 ≠ k) : rput xs k v = xs.set i (k, v) := by
  induction xs generalizing i with
  | nil => cases h1
  | cons p l ih =>
    unfold rput
    cases i with
    | zero => simp only [List.getElem?_cons_zero, Option.some.injEq] at h1; subst h1; rw [if_pos h2]; rfl
    | succ i =>
      rw [if_neg (h3 0 p (by omega) rfl), ih (by simpa using h1) (fun j y hj hy => h3 (j + 1) y (by omega) (by simpa using hy))]; rfl
theorem rdel_at {xs : List (α × γ)} {k : α} {i : Nat} {x : α × γ} (h1 : xs[i]? = some x) (h2 : x.1 = k) (h3 : ∀ j y, j < i → xs[j]? = some y → y.1 ≠ k) : rdel xs k = xs.eraseIdx i := by
  induction xs generalizing i with
  | nil => cases h1
  | cons p l ih =>
    unfold rdel
    cases i with
    | zero => simp only [List.getElem?_cons_zero, Option.some.injEq] at h1; subst h1; rw [if_pos h2]; rfl
    | succ i =>
      rw [if_neg (h3 0 p (by omega) rfl), ih (by simpa using h1) (fun j y hj hy => h3 (j + 1) y (by omega) (by simpa using hy))]; rfl
end
section
variable {P : Program} {T : Tab} {Bb : Nat → Prop} {w0 : World} {O0 : List Nat} {av : List Value} {Γ Γ' : Ctx} {a : Act} {w w' : World} {β : Nat → Value} {F : Nat → List Nat} {K : Ctx → Prop} {o : Oper} {Q : Exit → Act → World → Prop}
theorem own_key {h : Hp} {Z : Nat → Prop} {t : Ty} {B : List Nat} {cs : List Value} {x : t.den} (hk : isKey t = true) (o : Own h Z t 0 B cs x) : valOf t.agg cs = keyV t x := by
  cases t <;> first | (cases hk; done) | skip
  · obtain ⟨_, rfl, _⟩ := o; rfl
  · obtain ⟨_, rfl⟩ := o; rfl
  · obtain ⟨_, rfl, _⟩ := o; rfl
theorem key_under {t : Ty} {n : TypeId} (hk : isKey t = true) (h : TyOk P t n) : P.underlying n = some (keyD t) := by
  cases t <;> first | (cases hk; done) | skip
  · exact h.1
  · exact h.1
  · exact h.1
theorem bytes_beq (x y : ByteArray) : (x == y) = true ↔ x = y := by
  constructor
  · intro h
    have h1 : (x.data == y.data) = true := h
    exact ByteArray.ext (beq_iff_eq.1 h1)
  · rintro rfl
    show (x.data == x.data) = true
    exact beq_iff_eq.2 rfl
theorem key_same {t : Ty} (hk : isKey t = true) (x y : t.den) : Instr.sameNow (keyD t) (keyV t x) (keyV t y) = some (@decide (x = y) (Classical.propDecidable _)) := by
  cases t <;> first | (cases hk; done) | skip
  · simp only [keyD, keyV, Instr.sameNow, if_true, Option.some.injEq]; rw [Bool.eq_iff_iff]; simp
  · simp only [keyD, keyV, Instr.sameNow, Option.some.injEq]; rw [Bool.eq_iff_iff]; simp
  · simp only [keyD, keyV, Instr.sameNow, Option.some.injEq]; rw [Bool.eq_iff_iff, @decide_eq_true_iff _ (Classical.propDecidable _)]; exact bytes_beq x y
theorem key_bits {t : Ty} (hk : isKey t = true) (x : t.den) (n : Nat) : Instr.sameBits n (keyV t x) (keyV t x) = true := by
  cases t <;> first | (cases hk; done) | skip
  · simp [keyV, Instr.sameBits]
  · simp [keyV, Instr.sameBits]
  · simp only [keyV, Instr.sameBits]; exact (bytes_beq x x).2 rfl
theorem run_checkKey {t : Ty} {n : TypeId} {b : Bool} {v : Value} (hk : isKey t = true) (h : TyOk P t n) : (Instr.checkKey b 10000 n v).run P w = .ok () w := by
  have hu := key_under hk h
  have e : (10000 : Nat) = 9999 + 1 := rfl
  rw [e]
  unfold Instr.checkKey
  show (Sem.bind _ _).run P w = _
  rw [run_bind_ok (run_under hu)]
  cases t <;> first | (cases hk; done) | rfl
/-- Where a key stands among the entries. -/
theorem find_run {kt : Ty} {γ : Type} {va : Bool} {RK : List Value → kt.den → Prop} {RV : List Value → γ → Prop} {es : Array MapEntry} {cl : Nat} {xs : List (kt.den × γ)} {tk : TypeId} (hk : isKey kt = true) (ht : TyOk P kt tk) (hR : ∀ c x, RK c x → valOf kt.agg c = keyV kt x) (m : MapR kt.agg va RK RV es cl xs) (k : kt.den) :
    (k ∉ xs.map (·.1) ∧ (Instr.findKey tk (keyV kt k) es.toList).run P w = .ok none w) ∨
    ∃ i e x, es[i]? = some e ∧ xs[i]? = some x ∧ x.1 = k ∧ (∀ j y, j < i → xs[j]? = some y → y.1 ≠ k) ∧ (Instr.findKey tk (keyV kt k) es.toList).run P w = .ok (some (i, e.val)) w := by
  have hkey : ∀ (i : Nat) e x, es.toList[i]? = some e → xs[i]? = some x → e.key = keyV kt x.1 := fun i e x h1 h2 => by
    obtain ⟨ck, h3, h4⟩ := m.key i e x (by simpa using h1) h2
    rw [h3]; exact hR _ _ h4
  have hrun : ∀ {r}, Instr.findNow (keyD kt) (keyV kt k) es.toList 0 = some r → (Instr.findKey tk (keyV kt k) es.toList).run P w = .ok r w := by
    intro r hr
    unfold Instr.findKey
    show (Sem.bind _ _).run P w = _
    rw [run_bind_ok (run_under (key_under hk ht)), hr]; rfl
  have hlen : es.toList.length = xs.length := by simpa using m.len
  have key : ∀ (l : List MapEntry) (ys : List (kt.den × γ)) (i : Nat), l.length = ys.length → (∀ (j : Nat) e y, l[j]? = some e → ys[j]? = some y → e.key = keyV kt y.1) →
      (k ∉ ys.map (·.1) ∧ Instr.findNow (keyD kt) (keyV kt k) l i = some none) ∨ ∃ j e x, l[j]? = some e ∧ ys[j]? = some x ∧ x.1 = k ∧ (∀ j' y, j' < j → ys[j']? = some y → y.1 ≠ k) ∧ Instr.findNow (keyD kt) (keyV kt k) l i = some (some (i + j, e.val)) := by
    intro l
    induction l with
    | nil =>
      intro ys i hl _
      cases ys with
      | nil => exact .inl ⟨by simp, rfl⟩
      | cons _ _ => cases hl
    | cons e l ih =>
      intro ys i hl hh
      cases ys with
      | nil => cases hl
      | cons y ys =>
        have he := hh 0 e y rfl rfl
        have hs := key_same hk k y.1
        by_cases hky : k = y.1
        · right
          refine ⟨0, e, y, rfl, rfl, hky.symm, fun j' _ hj => by omega, ?_⟩
          unfold Instr.findNow; rw [he, hs, @decide_eq_true _ (Classical.propDecidable _) hky]; rfl
        · have hf : Instr.findNow (keyD kt) (keyV kt k) (e :: l) i = Instr.findNow (keyD kt) (keyV kt k) l (i + 1) := by
            conv => lhs; unfold Instr.findNow
            rw [he, hs, @decide_eq_false _ (Classical.propDecidable _) hky]
          rcases ih ys (i + 1) (by simpa using hl) (fun j e' y' h1 h2 => hh (j + 1) e' y' h1 h2) with ⟨h1, h2⟩ | ⟨j, e', x, h1, h2, h3, h4, h5⟩
          · exact .inl ⟨by simp only [List.map_cons, List.mem_cons, not_or]; exact ⟨hky, h1⟩, hf.trans h2⟩
          · refine .inr ⟨j + 1, e', x, h1, h2, h3, fun j' z hj hz => ?_, ?_⟩
            · cases j' with
              | zero => simp only [List.getElem?_cons_zero, Option.some.injEq] at hz; subst hz; exact fun e => hky e.symm
              | succ j' => exact h4 j' z (by omega) (by simpa using hz)
            · rw [hf, h5, show i + (j + 1) = i + 1 + j by omega]
  rcases key es.toList xs 0 hlen hkey with ⟨h1, h2⟩ | ⟨j, e, x, h1, h2, h3, h4, h5⟩
  · exact .inl ⟨h1, hrun h2⟩
  · exact .inr ⟨j, e, x, by simpa using h1, h2, h3, h4, hrun (by rw [h5]; simp)⟩
/-! ### what an entry's change leaves -/
theorem MapR.push {α γ : Type} {ka va : Bool} {RK : List Value → α → Prop} {RV : List Value → γ → Prop} {es : Array MapEntry} {cl : Nat} {xs : List (α × γ)} (m : MapR ka va RK RV es cl xs) {ck cv : List Value} {k : α} {v : γ} (hk : RK ck k) (hv : RV cv v) :
    MapR ka va RK RV (es.push ⟨valOf ka ck, valOf va cv, cl⟩) (cl + 1) (xs ++ [(k, v)]) := by
  have at_ : ∀ (i : Nat) (e : MapEntry) (x : α × γ), (es.push ⟨valOf ka ck, valOf va cv, cl⟩)[i]? = some e → (xs ++ [(k, v)])[i]? = some x → (es[i]? = some e ∧ xs[i]? = some x) ∨ (e = ⟨valOf ka ck, valOf va cv, cl⟩ ∧ x = (k, v)) := by
    intro i e x h1 h2
    rw [Array.getElem?_push] at h1
    rw [List.getElem?_append] at h2
    split at h1
    · rename_i hi
      rw [m.len] at hi
      rw [if_neg (by omega), hi, Nat.sub_self] at h2
      cases h1; cases h2; exact .inr ⟨rfl, rfl⟩
    · rename_i hi
      have hlt : i < es.size := (Array.getElem?_eq_some_iff.1 h1).1
      rw [if_pos (by rw [← m.len]; exact hlt)] at h2
      exact .inl ⟨h1, h2⟩
  refine ⟨by simp [m.len], fun i e x h1 h2 => ?_, fun i e x h1 h2 => ?_, ?_, ?_⟩
  · rcases at_ i e x h1 h2 with ⟨h3, h4⟩ | ⟨rfl, rfl⟩
    · exact m.key i e x h3 h4
    · exact ⟨ck, rfl, hk⟩
  · rcases at_ i e x h1 h2 with ⟨h3, h4⟩ | ⟨rfl, rfl⟩
    · exact m.val i e x h3 h4
    · exact ⟨cv, rfl, hv⟩
  · simp only [Array.toList_push, List.map_append, List.map_cons, List.map_nil]
    rw [List.nodup_append]
    refine ⟨m.nodup, by simp, fun a ha b hb e => ?_⟩
    simp only [List.mem_singleton] at hb
    obtain ⟨x, hx, rfl⟩ := List.mem_map.1 ha
    have := m.born x hx
    omega
  · intro e he
    simp only [Array.toList_push, List.mem_append, List.mem_singleton] at he
    rcases he with he | rfl
    · have := m.born e he; omega
    · show cl < cl + 1; omega
theorem MapR.modify {α γ : Type} {ka va : Bool} {RK : List Value → α → Prop} {RV : List Value → γ → Prop} {es : Array MapEntry} {cl : Nat} {xs : List (α × γ)} (m : MapR ka va RK RV es cl xs) {ck cv : List Value} {k : α} {v : γ} (hk : RK ck k) (hv : RV cv v) {i : Nat} :
    MapR ka va RK RV (es.modify i fun e => { e with key := valOf ka ck, val := valOf va cv }) cl (xs.set i (k, v)) := by
  have at_ : ∀ (j : Nat) (e : MapEntry) (x : α × γ), (es.modify i fun e => { e with key := valOf ka ck, val := valOf va cv })[j]? = some e → (xs.set i (k, v))[j]? = some x → (es[j]? = some e ∧ xs[j]? = some x) ∨ (e.key = valOf ka ck ∧ e.val = valOf va cv ∧ x = (k, v)) := by
    intro j e x h1 h2
    rw [Array.getElem?_modify] at h1
    rw [List.getElem?_set] at h2
    split at h1
    · rename_i hij
      rw [if_pos hij] at h2
      split at h2
      · cases h2
        simp only [Option.map_eq_some_iff] at h1
        obtain ⟨e0, _, rfl⟩ := h1
        exact .inr ⟨rfl, rfl, rfl⟩
      · cases h2
    · rename_i hij
      rw [if_neg hij] at h2
      exact .inl ⟨h1, h2⟩
  have hb : (es.modify i fun e => { e with key := valOf ka ck, val := valOf va cv }).toList.map (·.born) = es.toList.map (·.born) := by
    apply List.ext_getElem?
    intro j
    simp only [List.getElem?_map, Array.getElem?_toList, Array.getElem?_modify]
    split
    · rw [Option.map_map]; rfl
    · rfl
  refine ⟨by simp [m.len], fun j e x h1 h2 => ?_, fun j e x h1 h2 => ?_, by rw [hb]; exact m.nodup, fun e he => ?_⟩
  · rcases at_ j e x h1 h2 with ⟨h3, h4⟩ | ⟨h3, _, rfl⟩
    · exact m.key j e x h3 h4
    · exact ⟨ck, h3, hk⟩
  · rcases at_ j e x h1 h2 with ⟨h3, h4⟩ | ⟨_, h3, rfl⟩
    · exact m.val j e x h3 h4
    · exact ⟨cv, h3, hv⟩
  · have : e.born ∈ es.toList.map (·.born) := by rw [← hb]; exact List.mem_map.2 ⟨e, he, rfl⟩
    obtain ⟨e0, h1, h2⟩ := List.mem_map.1 this
    rw [← h2]; exact m.born e0 h1
theorem MapR.erase {α γ : Type} {ka va : Bool} {RK : List Value → α → Prop} {RV : List Value → γ → Prop} {es : Array MapEntry} {cl : Nat} {xs : List (α × γ)} (m : MapR ka va RK RV es cl xs) {i : Nat} (hi : i < es.size) :
    MapR ka va RK RV (es.eraseIdxIfInBounds i) cl (xs.eraseIdx i) := by
  have e1 : (es.eraseIdxIfInBounds i).toList = es.toList.eraseIdx i := by
    unfold Array.eraseIdxIfInBounds; rw [dif_pos hi]; simp
  have at_ : ∀ (j : Nat) (e : MapEntry) (x : α × γ), (es.eraseIdxIfInBounds i)[j]? = some e → (xs.eraseIdx i)[j]? = some x → ∃ j' : Nat, es[j']? = some e ∧ xs[j']? = some x := by
    intro j e x h1 h2
    rw [← Array.getElem?_toList, e1, List.getElem?_eraseIdx] at h1
    rw [List.getElem?_eraseIdx] at h2
    split at h1
    · rename_i h; rw [if_pos h] at h2; exact ⟨j, by simpa using h1, h2⟩
    · rename_i h; rw [if_neg h] at h2; exact ⟨j + 1, by simpa using h1, h2⟩
  have hsub : (es.eraseIdxIfInBounds i).toList.Sublist es.toList := by rw [e1]; exact List.eraseIdx_sublist ..
  refine ⟨?_, fun j e x h1 h2 => ?_, fun j e x h1 h2 => ?_, (hsub.map _).nodup m.nodup, fun e he => m.born e (hsub.subset he)⟩
  · have e2 := congrArg List.length e1
    simp only [List.length_eraseIdx, Array.length_toList] at e2 ⊢
    rw [e2, m.len]
  · obtain ⟨j', h3, h4⟩ := at_ j e x h1 h2; exact m.key j' e x h3 h4
  · obtain ⟨j', h3, h4⟩ := at_ j e x h1 h2; exact m.val j' e x h3 h4
/-! ### the operations -/
theorem sound_makeMap (hT : TabOk P T) (S : Sim Bb w0 O0 av Γ a w β F) {t : TypeId} (ho : o.op = .makeMap t none) (hk : opMakeMap T Γ o.dst K t) : o.wp P a w (Nx Bb w0 O0 av K) Q := by
  unfold opMakeMap at hk
  split at hk
  · rename_i kt vt ht
    split at hk
    · rename_i hnew
      generalize Γ.new = r at *
      have hnr := has_false hnew
      have hids : ((Γ.map (kill r)).roots).map (·.1) = Γ.roots.map (·.1) := mapC_ids _ _
      have hr : (execOp a.eval o).run P w = .ok (.value (.map (some w.heap.size))) { w with heap := w.heap.push (.map #[] 0) } := by
        unfold execOp; rw [ho]
        refine run_v ?_
        simp [Instr.makeMap, newObj, Sem.run, bind, Sem.bind, pure]
      refine wp_drawn hr ((S.soft (soft_kill r)).addRoot (c := .mp kt vt []) (hdr := .map (some w.heap.size)) (B := [w.heap.size]) (FitG.of (fit_kill r) Γ) (by rw [hids]; exact hnr) (fun q hq => heap_push q hq) (by simp) rfl rfl rfl ⟨by simp, fun b hb => ?_⟩ rfl ?_) ?_ hk
      · simp only [List.mem_singleton] at hb; subst hb; simp
      · show Own _ _ (.mp kt vt) 1 _ [upF β r _ r] (some [])
        rw [upF_at]
        exact ⟨w.heap.size, #[], 0, rfl, heap_push_new, rfl, ⟨rfl, fun i e x h => by simp at h, fun i e x h => by simp at h, .nil, fun e he => by simp at he⟩⟩
      · exact slot_c (v := .ref r) (cs := [.map (some w.heap.size)]) rfl (by show _ = [upF β r _ r]; rw [upF_at])
    · exact hk.elim
  · exact hk.elim
/-- A map's content is changed. -/
theorem map_change {r : Nat} {kt vt : Ty} {xs ys : List (kt.den × vt.den)} (S : Sim Bb w0 O0 av Γ a w β F) (hr : look r Γ.roots = some (.mp kt vt xs)) {b : Nat} {es es' : Array MapEntry} {cl cl' : Nat} (hβ : [β r] = [.map (some b)]) (hb : hp w b = some (.map es cl)) (hB : F r = [b])
    (hm : ∀ (h' : Hp), (∀ c, ZdOf Bb F Γ.roots [] c → (hp w c).isSome → h' c = hp w c) → MapR kt.agg vt.agg (Own h' (ZdOf Bb F Γ.roots []) kt 0 []) (Own h' (ZdOf Bb F Γ.roots []) vt 0 []) es' cl' ys) :
    Sim Bb w0 O0 av ((Γ.map (killD r)).set r (.mp kt vt ys)) a (upd w b (.map es' cl')) β F := by
  have hin1 : r ∈ Γ.roots.map (·.1) := List.mem_map.2 ⟨_, look_mem hr, rfl⟩
  have S1 := S.soft (soft_killD r)
  have hzz : ZdOf Bb F (Γ.map (killD r)).roots = ZdOf Bb F Γ.roots := ZdOf_ids (mapC_ids _ _)
  refine S1.setRoot (c := .mp kt vt ys) (FitG.of (fit_killD r) Γ) (fun _ _ => rfl) (fun _ _ => rfl) S.bone (mem_mapC_mp (look_mem hr)) (F' := F) (fun q _ hq => upd_ne (fun e => hq (by rw [hB, e]; simp))) (by rw [upd_size]; exact Nat.le_refl _) rfl rfl rfl (fun _ _ => rfl) ⟨nodup_F hin1 S.nodup, fun q hq => ?_⟩ ?_
  · rw [upd_size]; exact ⟨(S.own q (mem_allO.2 ⟨r, hin1, hq⟩)).1, .inl hq⟩
  · show Own _ _ (.mp kt vt) 1 (F r) [β r] (some ys)
    rw [hzz, hβ]
    refine ⟨b, es', cl', rfl, upd_get hb, hB, hm _ (fun c hc _ => upd_ne (fun e => ?_))⟩
    subst e
    rcases hc with hc | ⟨_, hc, _⟩
    · exact hc.1 (mem_allO.2 ⟨r, hin1, by rw [hB]; simp⟩)
    · cases hc
theorem map_root {r : Nat} {kt vt : Ty} {xs : List (kt.den × vt.den)} (S : Sim Bb w0 O0 av Γ a w β F) (hr : look r Γ.roots = some (.mp kt vt xs)) : ∃ b es cl, [β r] = [.map (some b)] ∧ hp w b = some (.map es cl) ∧ F r = [b] ∧
    MapR kt.agg vt.agg (Own (hp w) (ZdOf Bb F Γ.roots []) kt 0 []) (Own (hp w) (ZdOf Bb F Γ.roots []) vt 0 []) es cl xs := S.roots r _ (look_mem hr)
theorem MapR.move {h h' : Hp} {Z : Nat → Prop} {kt vt : Ty} {es : Array MapEntry} {cl : Nat} {xs : List (kt.den × vt.den)} (m : MapR kt.agg vt.agg (Own h Z kt 0 []) (Own h Z vt 0 []) es cl xs) (hz : ∀ c, Z c → (h c).isSome → h' c = h c) :
    MapR kt.agg vt.agg (Own h' Z kt 0 []) (Own h' Z vt 0 []) es cl xs :=
  m.imp (fun _ _ o => o.mono (fun b hb hs => ⟨hz b hb hs, hb⟩) (fun _ m => by cases m)) (fun _ _ o => o.mono (fun b hb hs => ⟨hz b hb hs, hb⟩) (fun _ m => by cases m))
theorem sound_insert (hT : TabOk P T) (S : Sim Bb w0 O0 av Γ a w β F) {t : TypeId} {x k v : Operand} (ho : o.op = .insert t x k v ∨ o.op = .mapUpdate t x k v) (hd : o.dst = none) (hk : opInsert real T Γ K t (Γ.eval x) (Γ.eval k) (Γ.eval v)) : o.wp P a w (Nx Bb w0 O0 av K) Q := by
  have hx := S.eval x
  unfold opInsert at hk
  split at hk
  · rename_i kt0 vt0 ht
    split at hk
    · rename_i r hxe
      rw [hxe] at hx
      split at hk
      · rename_i kt vt xs hr
        split at hk
        · rename_i hc
          obtain ⟨rfl, rfl, hkey⟩ := hc
          split at hk
          · rename_i q y hq hy
            split at hk
            · exact hk.elim
            · rename_i hfl
              obtain ⟨tk, tv, hu, htk, htv, _⟩ := hT _ _ ht
              have htk : TyOk P kt tk := htk
              obtain ⟨cx, hcx, ex⟩ := slot_one hx rfl (by simp)
              have hcx' : cx = [β r] := hcx
              subst hcx'
              have ex' : a.eval x = β r := ex
              obtain ⟨ck, ok, ek⟩ := den0_slot S.roots hq (S.eval k)
              obtain ⟨cv, ov, ev⟩ := den0_slot S.roots hy (S.eval v)
              have ov' : Own (hp w) (ZdOf Bb F Γ.roots []) vt 0 [] cv y.1 := by
                cases hs : vt.hasSl with
                | false => exact (ov.flat (m := 0) hs).2 _ _
                | true =>
                  have : y.2 = [] := by
                    cases h2 : y.2 with
                    | nil => rfl
                    | cons q l => exact absurd ⟨hs, by rw [h2]; rfl⟩ hfl
                  rw [this] at ov; exact ov
              have hflat : kt.hasSl = false := by cases kt <;> first | rfl | cases hkey
              have ok' : ∀ (h : Hp) (Z : Nat → Prop), Own h Z kt 0 [] ck q.1 := (ok.flat (m := 0) hflat).2
              have ekv : a.eval k = keyV kt q.1 := by rw [ek]; exact own_key hkey ok
              obtain ⟨b, es, cl, hβ, hb, hB, hm⟩ := map_root S hr
              have hβ' : β r = .map (some b) := by simpa using hβ
              have hrun : ∀ {w'}, (Instr.mapUpdate t (.map (some b)) (keyV kt q.1) (valOf vt.agg cv)).run P w = .ok () w' → (execOp a.eval o).run P w = .ok .skip w' := by
                intro w' hz
                have e1 : execOp a.eval o = (do Instr.mapUpdate t (a.eval x) (a.eval k) (a.eval v); pure Next.skip : Sem Next) := by
                  unfold execOp
                  rcases ho with ho | ho <;> rw [ho]
                rw [e1, ex', hβ', ekv, ev]
                show (Sem.bind _ _).run P w = _
                rw [run_bind_ok hz]; rfl
              have hput : ∀ (a' : Act), a'.put none undef = a' := fun _ => rfl
              rcases find_run (w := w) hkey htk (fun c x o => own_key hkey o) hm q.1 with ⟨h1, h2⟩ | ⟨i, e, z, h1, h2, h3, h4, h5⟩
              · have hr2 : (Instr.mapUpdate t (.map (some b)) (keyV kt q.1) (valOf vt.agg cv)).run P w = .ok () (upd w b (.map (es.push ⟨keyV kt q.1, valOf vt.agg cv, cl⟩) (cl + 1))) := by
                  unfold Instr.mapUpdate
                  show (Sem.bind _ _).run P w = _
                  rw [run_bind_ok (run_under hu)]
                  simp only []
                  show (Sem.bind _ _).run P w = _
                  rw [run_bind_ok (s := getObj b) (x := .map es cl) (w' := w) (by unfold getObj; simp only [Sem.run]; rw [show w.heap[b]? = _ from hb])]
                  simp only []
                  show (Sem.bind _ _).run P w = _
                  rw [run_bind_ok (run_checkKey hkey htk)]
                  show (Sem.bind _ _).run P w = _
                  rw [run_bind_ok h2]
                  simp only [setObj, Sem.run]; rw [show w.heap[b]? = _ from hb]; rfl
                refine wp_skip' (hrun hr2) ?_
                rw [hd, hput]
                refine ⟨_, β, F, hk, ?_⟩
                have e5 : real.mput xs q.1 y.1 = xs ++ [(q.1, y.1)] := rput_out h1
                rw [e5]
                refine map_change S hr hβ hb hB (fun h' hh => ?_)
                have := (hm.move hh).push (ck := ck) (cv := cv) (k := q.1) (v := y.1) (ok' _ _) (ov'.mono (fun c hc hs => ⟨hh c hc hs, hc⟩) (fun _ m => by cases m))
                rw [own_key hkey (ok' (hp w) (ZdOf Bb F Γ.roots []))] at this
                exact this
              · have hkk : e.key = keyV kt q.1 := by
                  obtain ⟨c2, h6, h7⟩ := hm.key i e z h1 h2
                  rw [h6, own_key hkey h7, h3]
                have hr2 : (Instr.mapUpdate t (.map (some b)) (keyV kt q.1) (valOf vt.agg cv)).run P w = .ok () (upd w b (.map (es.modify i fun e => { e with key := keyV kt q.1, val := valOf vt.agg cv }) cl)) := by
                  unfold Instr.mapUpdate
                  show (Sem.bind _ _).run P w = _
                  rw [run_bind_ok (run_under hu)]
                  simp only []
                  show (Sem.bind _ _).run P w = _
                  rw [run_bind_ok (s := getObj b) (x := .map es cl) (w' := w) (by unfold getObj; simp only [Sem.run]; rw [show w.heap[b]? = _ from hb])]
                  simp only []
                  show (Sem.bind _ _).run P w = _
                  rw [run_bind_ok (run_checkKey hkey htk)]
                  show (Sem.bind _ _).run P w = _
                  rw [run_bind_ok h5]
                  simp only [h1, Option.map_some, Option.getD_some, hkk]
                  show (Sem.bind _ _).run P w = _
                  rw [run_bind_ok (s := Instr.keyThatStays _ _) (x := keyV kt q.1) (w' := w) (by unfold Instr.keyThatStays; rw [if_pos (key_bits hkey q.1 _)]; rfl)]
                  simp only [setObj, Sem.run]; rw [show w.heap[b]? = _ from hb]; rfl
                refine wp_skip' (hrun hr2) ?_
                rw [hd, hput]
                refine ⟨_, β, F, hk, ?_⟩
                have e5 : real.mput xs q.1 y.1 = xs.set i (q.1, y.1) := rput_at h2 h3 h4
                rw [e5]
                refine map_change S hr hβ hb hB (fun h' hh => ?_)
                have := (hm.move hh).modify (ck := ck) (cv := cv) (k := q.1) (v := y.1) (ok' _ _) (ov'.mono (fun c hc hs => ⟨hh c hc hs, hc⟩) (fun _ m => by cases m)) (i := i)
                rw [own_key hkey (ok' (hp w) (ZdOf Bb F Γ.roots []))] at this
                exact this
          · exact hk.elim
        · exact hk.elim
      · exact hk.elim
    · exact hk.elim
  · exact hk.elim
theorem run_get {b : Nat} {es : Array MapEntry} {cl : Nat} (hb : w.heap[b]? = some (.map es cl)) : (getObj b).run P w = .ok (.map es cl) w := by
  unfold getObj
  simp only [Sem.run]
  rw [hb]
theorem sound_lookup (hT : TabOk P T) (S : Sim Bb w0 O0 av Γ a w β F) {t : TypeId} {x k : Operand} {ok : Bool} (ho : o.op = .lookup t x k ok) (hk : opLookup real T Γ o.dst K t (Γ.eval x) (Γ.eval k) ok) : Reads P o a w (Nx Bb w0 O0 av K) := by
  unfold opLookup at hk
  split at hk
  · rename_i kt vt ht
    split at hk
    · rename_i m q hm hq
      split at hk
      · exact hk.elim
      · rename_i xs hxs
        split at hk
        · rename_i hkey
          obtain ⟨tk, tv, hu, htk, htv, _⟩ := hT _ _ ht
          have htk : TyOk P kt tk := htk
          have htv : TyOk P vt tv := htv
          obtain ⟨cx, ox, ex⟩ := den0_slot S.roots hm (S.eval x)
          obtain ⟨ck, ok', ek⟩ := den0_slot S.roots hq (S.eval k)
          have ekv : a.eval k = keyV kt q.1 := by rw [ek]; exact own_key hkey ok'
          rw [hxs] at ox
          obtain ⟨b, es, cl, rfl, hb, hz, hmr⟩ := ox
          have ex' : a.eval x = .map (some b) := ex
          have hget : (getObj b).run P w = .ok (.map es cl) w := run_get hb
          -- the value found
          have hval : ∃ cv, Own (hp w) (ZdOf Bb F Γ.roots m.2) vt 0 [] cv (real.mget xs q.1 vt.zero) ∧ (Instr.lookup t (.map (some b)) (keyV kt q.1) ok).run P w = .ok (if ok then .tuple #[valOf vt.agg cv, .bool (real.dec (real.mhas xs q.1))] else valOf vt.agg cv) w := by
            have run1 : ∀ {r : Option (Nat × Value)} {z : Value} {bb : Bool}, (Instr.findKey tk (keyV kt q.1) es.toList).run P w = .ok r w → (match r with | some (_, v) => v = z ∧ bb = true | none => (zeroValue tv).run P w = .ok z w ∧ bb = false) →
                (Instr.lookup t (.map (some b)) (keyV kt q.1) ok).run P w = .ok (if ok then .tuple #[z, .bool bb] else z) w := by
              intro r z bb h1 h2
              unfold Instr.lookup
              show (Sem.bind _ _).run P w = _
              rw [run_bind_ok (run_under hu)]
              simp only []
              show (Sem.bind _ _).run P w = _
              rw [run_bind_ok hget]
              show (Sem.bind _ _).run P w = _
              rw [run_bind_ok (s := pure es) (x := es) (w' := w) rfl]
              show (Sem.bind _ _).run P w = _
              rw [run_bind_ok (run_checkKey hkey htk)]
              show (Sem.bind _ _).run P w = _
              rw [run_bind_ok h1]
              cases r with
              | none =>
                obtain ⟨h3, rfl⟩ := h2
                show (Sem.bind _ _).run P w = _
                rw [run_bind_ok h3]
                cases ok <;> rfl
              | some p =>
                obtain ⟨h3, rfl⟩ := h2
                subst h3
                cases ok <;> rfl
            rcases find_run (w := w) hkey htk (fun c x o => own_key hkey o) hmr q.1 with ⟨h1, h2⟩ | ⟨i, e, z, h1, h2, h3, h4, h5⟩
            · refine ⟨vt.zc, ?_, ?_⟩
              · rw [show real.mget xs q.1 vt.zero = vt.zero from rget_out h1]; exact Own.zero vt 0
              · have hd : real.dec (real.mhas xs q.1) = false := by
                  cases hdd : real.dec (real.mhas xs q.1) with
                  | false => rfl
                  | true => exact absurd (dec_iff.1 hdd) h1
                rw [hd]
                exact run1 h2 ⟨run_zero htv.info, rfl⟩
            · obtain ⟨cv, h6, h7⟩ := hmr.val i e z h1 h2
              refine ⟨cv, ?_, ?_⟩
              · rw [show real.mget xs q.1 vt.zero = z.2 from rget_at h2 h3 h4]; exact h7
              · have hd : real.dec (real.mhas xs q.1) = true := dec_iff.2 (List.mem_map.2 ⟨z, List.mem_of_getElem? h2, h3⟩)
                rw [hd]
                exact run1 h5 ⟨h6, rfl⟩
          obtain ⟨cv, ov, hr⟩ := hval
          have hrun : (execOp a.eval o).run P w = .ok (.value (if ok then .tuple #[valOf vt.agg cv, .bool (real.dec (real.mhas xs q.1))] else valOf vt.agg cv)) w := by
            unfold execOp; rw [ho]
            refine run_v ?_
            rw [ex', ekv]; exact hr
          have hv : SVc (hp w) (ZdOf Bb F Γ.roots) β (.pv (if vt.hasSl then m.2 else []) vt (real.mget xs q.1 vt.zero)) cv := by
            cases hs : vt.hasSl with
            | true => exact ov
            | false => exact (ov.flat (m := 0) hs).2 _ _
          cases ok with
          | true =>
            refine go_value S hrun ?_ hk
            exact .inl ⟨rfl, [valOf vt.agg cv, .bool (real.dec (real.mhas xs q.1))], rfl, _, _, rfl, .inr ⟨cv, hv, rfl⟩, _, _, rfl, slot1_bool, rfl⟩
          | false => exact go_value S hrun (slot_c rfl hv) hk
        · exact hk.elim
    · exact hk.elim
  · exact hk.elim
theorem sound_delete (hT : TabOk P T) (S : Sim Bb w0 O0 av Γ a w β F) {t t2 : TypeId} {x k : Operand} (ho : o.op = .call { callee := .builtin .delete, args := #[x, k], argTypes := #[t, t2] }) (hk : opDelete real T Γ o.dst K t (Γ.eval x) (Γ.eval k)) : o.wp P a w (Nx Bb w0 O0 av K) Q := by
  have hx := S.eval x
  unfold opDelete at hk
  split at hk
  · rename_i kt0 vt0 ht
    split at hk
    · rename_i r hxe
      rw [hxe] at hx
      split at hk
      · rename_i kt vt xs hr
        split at hk
        · rename_i hc
          obtain ⟨rfl, rfl, hkey⟩ := hc
          split at hk
          · rename_i q hq
            obtain ⟨tk, tv, hu, htk, htv, _⟩ := hT _ _ ht
            have htk : TyOk P kt tk := htk
            obtain ⟨cx, hcx, ex⟩ := slot_one hx rfl (by simp)
            have hcx' : cx = [β r] := hcx
            subst hcx'
            have ex' : a.eval x = β r := ex
            obtain ⟨ck, ok, ek⟩ := den0_slot S.roots hq (S.eval k)
            have ekv : a.eval k = keyV kt q.1 := by rw [ek]; exact own_key hkey ok
            obtain ⟨b, es, cl, hβ, hb, hB, hm⟩ := map_root S hr
            have hβ' : β r = .map (some b) := by simpa using hβ
            have hget : (getObj b).run P w = .ok (.map es cl) w := run_get hb
            have hrun : ∀ {es' w'}, (∀ r, (Instr.findKey tk (keyV kt q.1) es.toList).run P w = .ok r w → (match r with | some (i, _) => setObj b (.map (es.eraseIdxIfInBounds i) cl) | none => setObj b (.map es cl)).run P w = .ok () w') → (∃ r, (Instr.findKey tk (keyV kt q.1) es.toList).run P w = .ok r w) → w' = upd w b (.map es' cl) → (execOp a.eval o).run P w = .ok (.value (.tuple #[])) w' := by
              intro es' w' h1 h2 _
              obtain ⟨r, h2⟩ := h2
              have h3 := h1 r h2
              have e1 : execOp a.eval o = (do pure (Next.value (← Builtin.delete_ #[t, t2] o.type (Array.map a.eval #[x, k]))) : Sem Next) := by unfold execOp; rw [ho]; rfl
              have e2 : Array.map a.eval #[x, k] = #[a.eval x, a.eval k] := by simp
              rw [e1, e2, ex', hβ', ekv]
              refine run_v ?_
              unfold Builtin.delete_
              simp only [List.getElem?_toArray, List.getElem?_cons_zero, List.getElem?_cons_succ]
              show (Sem.bind _ _).run P w = _
              rw [run_bind_ok (run_under hu)]
              simp only []
              show (Sem.bind _ _).run P w = _
              rw [run_bind_ok hget]
              simp only []
              show (Sem.bind _ _).run P w = _
              rw [run_bind_ok (run_checkKey hkey htk)]
              show (Sem.bind _ _).run P w = _
              rw [run_bind_ok h2]
              cases r with
              | none => show (Sem.bind _ _).run P w = _; rw [run_bind_ok h3]; rfl
              | some p => show (Sem.bind _ _).run P w = _; rw [run_bind_ok h3]; rfl
            have hset : ∀ ob, (setObj b ob).run P w = .ok () (upd w b ob) := fun ob => by
              simp only [setObj, Sem.run]; rw [show w.heap[b]? = _ from hb]; rfl
            rcases find_run (w := w) hkey htk (fun c x o => own_key hkey o) hm q.1 with ⟨h1, h2⟩ | ⟨i, e, z, h1, h2, h3, h4, h5⟩
            · have hr2 := hrun (es' := es) (w' := upd w b (.map es cl)) (fun r hr => by rw [h2] at hr; cases hr; exact hset _) ⟨_, h2⟩ rfl
              have e5 : real.mdel xs q.1 = xs := rdel_out h1
              rw [e5] at hk
              exact wp_drawn hr2 (map_change S hr hβ hb hB (fun h' hh => hm.move hh)) (v := .nilT) (.inl ⟨rfl, [], rfl, rfl⟩) hk
            · have hi : i < es.size := (Array.getElem?_eq_some_iff.1 h1).1
              have hr2 := hrun (es' := es.eraseIdxIfInBounds i) (w' := upd w b (.map (es.eraseIdxIfInBounds i) cl)) (fun r hr => by rw [h5] at hr; cases hr; exact hset _) ⟨_, h5⟩ rfl
              have e5 : real.mdel xs q.1 = xs.eraseIdx i := rdel_at h2 h3 h4
              rw [e5] at hk
              exact wp_drawn hr2 (map_change S hr hβ hb hB (fun h' hh => (hm.move hh).erase hi)) (v := .nilT) (.inl ⟨rfl, [], rfl, rfl⟩) hk
          · exact hk.elim
        · exact hk.elim
      · exact hk.elim
    · exact hk.elim
  · exact hk.elim
end
end Go.Proofs.YtjpeblicfhfniaaDoor.Eng
