/- The plain law of nodes: what is laid down piece by piece is what is appended piece by piece. -/
import Derived.Test.YtmjeghlfmhbjdaaDoorNT
import Derived.Test.YtmjeghlfmhbjdaaDoorT2
namespace Go.Proofs.YtmjeghlfmhbjdaaDoor.EngTab
open Go.Proofs.YtmjeghlfmhbjdaaDoor.Eng
set_option linter.unusedVariables false
theorem txt_full {t : ByteArray} {n : Nat} (h : t.size ≤ n) : txt t n = toBy t ++ List.replicate (n - t.size) 0 := by
 unfold txt
 rw [List.take_of_length_le (by rw [toBy_len]; omega)]
theorem set_pad {p : List Int} {m a : Nat} {v : Int} (ha : a = p.length) (h : 1 ≤ m) : (p ++ List.replicate m 0).set a v = (p ++ [v]) ++ List.replicate (m - 1) 0 := by
 subst ha
 obtain ⟨m, rfl⟩ : ∃ k, m = k + 1 := ⟨m - 1, by omega⟩
 rw [List.set_append_right _ _ (Nat.le_refl _), Nat.sub_self, List.replicate_succ]
 simp
theorem putText {p : List Int} {m a : Nat} {b : Int} {t : ByteArray} {n : Nat} (ha : a = p.length) (hb : b = p.length + 1) (h : t.size ≤ n) (hm : n + 1 ≤ m) :
  ovr ((p ++ List.replicate m 0).set a ((t.size : Int) % 256)) b (toBy t) = (p ++ textB t n) ++ List.replicate (m - (n + 1)) 0 := by
 rw [set_pad ha (by omega), ovr_pad (by rw [hb]; simp) (by rw [toBy_len]; omega), toBy_len]
 unfold textB
 rw [txt_full h]
 simp only [List.append_assoc, List.cons_append, List.nil_append]
 congr 3
 rw [List.replicate_append_replicate]
 congr 1
 omega
theorem putKey_eq {p : List Int} {m i : Nat} {e : EntD} (hp : p.length = 4 + 24 * i) (he : e.1.size ≤ 12) (hm : 24 ≤ m) : putKey (p ++ List.replicate m 0) i e = (p ++ textB e.1 12) ++ List.replicate (m - 13) 0 := by
 unfold putKey
 exact putText (n := 12) hp.symm (by rw [hp]; omega) he (by omega)
theorem putLeaf_eq {p : List Int} {m i : Nat} {e : EntD} (hp : p.length = 4 + 24 * i) (he : e.1.size ≤ 12) (hv : e.2.1.size ≤ 10) (hm : 24 ≤ m) : putLeaf (p ++ List.replicate m 0) i e = (p ++ entL e) ++ List.replicate (m - 24) 0 := by
 unfold putLeaf
 rw [putKey_eq hp he hm, putText (n := 10) (by rw [List.length_append, hp, textB_len]; omega) (by rw [List.length_append, hp, textB_len]; omega) hv (by omega)]
 unfold entL
 rw [List.append_assoc p, show m - 13 - (10 + 1) = m - 24 by omega]
theorem putInner_eq {p : List Int} {m i : Nat} {e : EntD} (hp : p.length = 4 + 24 * i) (he : e.1.size ≤ 12) (hm : 24 ≤ m) : putInner (p ++ List.replicate m 0) i e = (p ++ entI e) ++ List.replicate (m - 24) 0 := by
 unfold putInner
 rw [putKey_eq hp he hm, ovr_pad (by rw [List.length_append, hp, textB_len]; omega) (by rw [numB_len]; omega), numB_len]
 unfold entI
 have e7 : numB 0 7 = List.replicate 7 0 := by decide
 have e2 : numB 0 2 = List.replicate 2 0 := by decide
 rw [e7, e2]
 simp only [List.append_assoc, List.replicate_append_replicate]
 congr 4
 omega
def hdN (k : Int) (n : Nat) : List Int := [k % 256, (n : Int) % 256, 0, 0]
theorem begN (k : Int) (n : Nat) : begB k n = hdN k n ++ List.replicate 124 0 := rfl
theorem layLs_eq {k : Int} {es : List EntD} (h : leafOK es) : ∀ i, i ≤ es.length → layLs (begB k es.length) es i = (hdN k es.length ++ entsB 1 es i) ++ List.replicate (124 - 24 * i) 0
 | 0, _ => by simp [layLs, entsB, begN]
 | i + 1, hi => by
  have h5 := h.1
  unfold layLs
  rw [layLs_eq h i (by omega), putLeaf_eq (by rw [List.length_append, entsB_len]; rfl) (h.2.2 i (by omega)).1 (h.2.1 i (by omega)).2 (by omega)]
  have er : entsB 1 es (i + 1) = entsB 1 es i ++ entL (entAt es i) := rfl
  rw [er, ← List.append_assoc, show 124 - 24 * i - 24 = 124 - 24 * (i + 1) by omega]
theorem layIs_eq {k : Int} {es : List EntD} (h : innerOK es) : ∀ i, i ≤ es.length → layIs (begB k es.length) es i = (hdN k es.length ++ entsB 2 es i) ++ List.replicate (124 - 24 * i) 0
 | 0, _ => by simp [layIs, entsB, begN]
 | i + 1, hi => by
  have h5 := h.2.1
  unfold layIs
  rw [layIs_eq h i (by omega), putInner_eq (by rw [List.length_append, entsB_len]; rfl) (h.2.2.2 i (by omega)).1 (by omega)]
  have er : entsB 2 es (i + 1) = entsB 2 es i ++ entI (entAt es i) := rfl
  rw [er, ← List.append_assoc, show 124 - 24 * i - 24 = 124 - 24 * (i + 1) by omega]
theorem encN_leaf {es : List EntD} (h : leafOK es) : sumB (layL 1 es.length es) = encN 1 es := by
 have h5 := h.1
 unfold layL encN
 rw [layLs_eq h _ (Nat.le_refl _), if_pos (.inl ⟨rfl, h⟩)]
 have hl : (hdN 1 es.length ++ entsB 1 es es.length).length = 4 + 24 * es.length := by rw [List.length_append, entsB_len]; rfl
 rw [show 124 - 24 * es.length = 128 - (hdN 1 es.length ++ entsB 1 es es.length).length by rw [hl]; omega]
 exact sum_seal (by rw [hl]; omega)
theorem encN_inner {es : List EntD} (h : innerOK es) : sumB (layI 2 es.length es) = encN 2 es := by
 have h5 := h.2.1
 unfold layI encN
 rw [layIs_eq h _ (Nat.le_refl _), if_pos (.inr ⟨rfl, h⟩)]
 have hl : (hdN 2 es.length ++ entsB 2 es es.length).length = 4 + 24 * es.length := by rw [List.length_append, entsB_len]; rfl
 rw [show 124 - 24 * es.length = 128 - (hdN 2 es.length ++ entsB 2 es es.length).length by rw [hl]; omega]
 exact sum_seal (by rw [hl]; omega)
end Go.Proofs.YtmjeghlfmhbjdaaDoor.EngTab
