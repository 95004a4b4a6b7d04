/- What decode reads, against the specification's DecodeNode. -/
import Derived.Test.YtmjeghlfmhbjdaaDoorR7
import Derived.Test.YtmjeghlfmhbjdaaDoorS3
namespace Go.Proofs.YtmjeghlfmhbjdaaDoor.EngTab
open Go.Proofs.YtmjeghlfmhbjdaaDoor.Eng
set_option maxRecDepth 100000
set_option linter.unusedVariables false
set_option linter.unusedSimpArgs false
/-- impl.DecodeNode's answer, out of what decode gives. -/
noncomputable def implN (g : Sen) : Form4 × ErrD → (Int × List EntD × Unit) × Int
 | (_, .inl e) => ((0, [], ()), codeB g (.inl e))
 | (.inr (.inr (.inl f)), .inr _) => ((f.1.1.1, f.1.2.1, ()), 0)
 | (.inr (.inr (.inr (.inl f))), .inr _) => ((f.1.1.1, f.1.2.1, ()), 0)
 | (_, .inr _) => ((0, [], ()), 5)
theorem getD_app1 {a c : List Int} {i : Nat} (h : a.length ≤ i) : (a ++ c).getD i 0 = c.getD (i - a.length) 0 := by
 simp [List.getD, List.getElem?_append_right h]
theorem entsB_key {k : Int} {es : List EntD} : ∀ n i, i < n → (entsB k es n).getD (24 * i) 0 = ((entAt es i).1.size : Int) % 256
 | 0, i, h => absurd h (by omega)
 | n + 1, i, h => by
  show (entsB k es n ++ entB k (entAt es n)).getD (24 * i) 0 = _
  by_cases hi : i < n
  ·rw [getD_app0 (by rw [entsB_len]; omega)]
   exact entsB_key n i hi
  ·obtain rfl : i = n := by omega
   rw [getD_app1 (by rw [entsB_len]; omega), entsB_len, Nat.sub_self]
   unfold entB entL entI textB
   split <;> rfl
theorem entsB_val {es : List EntD} : ∀ n i, i < n → (entsB 1 es n).getD (13 + 24 * i) 0 = ((entAt es i).2.1.size : Int) % 256
 | 0, i, h => absurd h (by omega)
 | n + 1, i, h => by
  show (entsB 1 es n ++ entB 1 (entAt es n)).getD (13 + 24 * i) 0 = _
  by_cases hi : i < n
  ·rw [getD_app0 (by rw [entsB_len]; omega)]
   exact entsB_val n i hi
  ·obtain rfl : i = n := by omega
   rw [getD_app1 (by rw [entsB_len]; omega), entsB_len, show 13 + 24 * i - 24 * i = 13 by omega]
   unfold entB entL
   rw [if_pos rfl, getD_app1 (by rw [textB_len]; omega), textB_len]
   rfl
theorem encN_b {k : Int} {es : List EntD} (h : nodeOK k es) : (encN k es).getD 0 0 = k ∧ (encN k es).getD 1 0 = es.length ∧ (∀ i, i < es.length → (encN k es).getD (4 + 24 * i) 0 = ((entAt es i).1.size : Int)) ∧ (k = 1 → ∀ i, i < es.length → (encN k es).getD (17 + 24 * i) 0 = ((entAt es i).2.1.size : Int)) := by
 obtain ⟨hk, h5, -, hE⟩ := nodeOK_iff.1 h
 have hp : ∀ j, j < 4 + 24 * es.length → (encN k es).getD j 0 = ([k % 256, (es.length : Int) % 256, 0, 0] ++ entsB k es es.length).getD j 0 := fun j hj => by
  unfold encN
  rw [if_pos h]
  unfold specN sealB fillB
  rw [getD_app0 (by simp [entsB_len]; omega), getD_app0 (by simp [entsB_len]; omega)]
 have hq : ∀ j, ([k % 256, (es.length : Int) % 256, 0, 0] ++ entsB k es es.length).getD (4 + j) 0 = (entsB k es es.length).getD j 0 := fun j => by
  rw [getD_app1 (by simp), show 4 + j - [k % 256, (es.length : Int) % 256, 0, 0].length = j by simp]
 refine ⟨?_, ?_, fun i hi => ?_, fun k1 i hi => ?_⟩
 ·rw [hp 0 (by omega)]
  show k % 256 = k
  omega
 ·rw [hp 1 (by omega)]
  show (es.length : Int) % 256 = es.length
  omega
 ·rw [hp _ (by omega), hq, entsB_key _ _ hi]
  have := (hE i hi).1.1
  omega
 ·rw [hp _ (by omega), show 17 + 24 * i = 4 + (13 + 24 * i) by omega, hq]
  have h10 := ((hE i hi).2.1 k1).2
  subst k1
  rw [entsB_val _ _ hi]
  omega
theorem ent_cut {b : List Int} {i : Nat} (hk : b.getD 0 0 = 1 ∨ b.getD 0 0 = 2) : readEnt b i = readCut b i := by
 unfold readEnt readCut
 rcases hk with hk | hk
 ·rw [if_neg (by omega), if_neg (by omega), if_pos hk, if_pos hk]
 ·rw [if_pos hk, if_pos hk, if_neg (by omega), if_neg (by omega)]
theorem ents_cuts {b : List Int} (hk : b.getD 0 0 = 1 ∨ b.getD 0 0 = 2) (n : Nat) : readEnts b n = readCuts b n := by
 unfold readEnts readCuts
 congr 1
 funext i
 exact ent_cut hk
open Classical in
theorem implN_decF {g : Sen} (hgood : g.good) {b : List Int} (hB : ∀ x ∈ b, 0 ≤ x ∧ x ≤ 255) : implN g (decF g b) = decN b := by
 obtain ⟨n1, n2, n3⟩ := good_ne hgood
 have hb1 := byte_of hB 1
 unfold decN
 by_cases h1 : b.length = 128
 ·by_cases h2 : nm b 124 4 = crcV (b.take 124)
  ·have hs : sumC b = 0 := by unfold sumC; rw [if_neg (fun e => e h1), if_neg (fun e => e h2)]
   rw [if_neg (fun e => e hs)]
   by_cases hT : nodeOK (b.getD 0 0) (readCuts b (cnt b 5)) ∧ encN (b.getD 0 0) (readCuts b (cnt b 5)) = b
   ·rw [if_pos hT]
    obtain ⟨hK, hE⟩ := hT
    obtain ⟨q0, q1, q2, q3⟩ := encN_b hK
    have hO := nodeOK_iff.1 hK
    have hk := hO.1
    have hO4 := hO.2.2.2
    rw [hE] at q1 q2 q3
    rw [readCuts_len] at q1 q2 q3 hO4
    have hc : cnt b 5 = (b.getD 1 0).toNat := by omega
    have hle : ¬ 5 < b.getD 1 0 := by unfold cnt at hc; omega
    rw [hc] at hK hE q2 q3 hO4 ⊢
    have hall : ∀ i, i < (b.getD 1 0).toNat → entOf b i := fun i hi => by
     refine ⟨?_, ?_⟩
     ·rw [q2 i hi]
      have := (hO4 i hi).1.1
      omega
     ·rcases hk with hk | hk
      ·refine .inr ?_
       rw [q3 hk i hi]
       have := ((hO4 i hi).2.1 hk).2
       omega
      ·exact .inl hk
    have hes := ents_cuts hk (b.getD 1 0).toNat
    rw [← hes] at hK hE ⊢
    rcases hK with ⟨k1, hL⟩ | ⟨k2, hL⟩
    ·have hF : (Sum.inr (Sum.inr (Sum.inl (((b.getD 0 0, b.getD 1 0, ()), readEnts b (b.getD 1 0).toNat, ()), ()))) : Form4) = readF b := by
      unfold readF readNod
      rw [if_pos (.inl k1), if_neg hle, if_pos hall, if_neg (by omega)]
     have hS : sumB (layL (b.getD 0 0) (b.getD 1 0) (readEnts b (b.getD 1 0).toNat)) = b := by
      rw [k1] at hE ⊢
      exact (again_leaf hb1.1 hL).trans hE
     rw [decF_ok h1 h2 hF (by unfold nilF; simp) hL hS]
     rfl
    ·have hF : (Sum.inr (Sum.inr (Sum.inr (Sum.inl (((b.getD 0 0, b.getD 1 0, ()), readEnts b (b.getD 1 0).toNat, ()), ())))) : Form4) = readF b := by
      unfold readF readNod
      rw [if_pos (.inr k2), if_neg hle, if_pos hall, if_pos k2]
     have hS : sumB (layI (b.getD 0 0) (b.getD 1 0) (readEnts b (b.getD 1 0).toNat)) = b := by
      rw [k2] at hE ⊢
      exact (again_inner hb1.1 hL).trans hE
     rw [decF_ok h1 h2 hF (by unfold nilF; simp) hL hS]
     rfl
   ·rw [if_neg hT]
    have five : ∀ f : Form4, f = readF b → implN g (if f = nilF then (nilF, .inl (some (0, g.form, ()))) else if f4OK f then (if sumB (f4Lay f) = b then (f, .inr ()) else (nilF, .inl (some (1, g.form, ())))) else (nilF, .inl (some (-1, g.form, ())))) = ((0, [], ()), 5) := by
     intro f hf
     have c0 : ∀ k : Int, codeB g (.inl (some (k, g.form, ()))) = 5 := fun k => by unfold codeB; simp [n2, n3]
     have tie : ∀ f : Form4, (match f with | .inr (.inr (.inl _)) => True | .inr (.inr (.inr (.inl _))) => True | _ => False) → f = readF b → (b.getD 0 0 = 1 ∨ b.getD 0 0 = 2) ∧ f = readNod b := fun f hm hf => by
      unfold readF at hf
      split at hf
      ·rename_i hk; exact ⟨hk, hf⟩
      ·exfalso
       unfold readTab readSup nilF at hf
       repeat' split at hf
       all_goals (subst hf; exact hm)
     split
     ·show (_, codeB g _) = _; rw [c0]
     ·rename_i hn
      split
      ·rename_i ho
       split
       ·rename_i ha
        rcases f with f | f | f | f | f
        ·rfl
        ·rfl
        ·exfalso
         apply hT
         obtain ⟨⟨⟨k, c, ⟨⟩⟩, es, ⟨⟩⟩, ⟨⟩⟩ := f
         obtain ⟨hk, ht⟩ := tie _ True.intro hf
         unfold readNod nilF at ht
         split at ht
         ·cases ht
         split at ht
         ·split at ht
          ·cases ht
          ·rename_i hle hall hk2
           cases ht
           have hk1 : b.getD 0 0 = 1 := by rcases hk with h | h; exact h; exact absurd h hk2
           have hc : cnt b 5 = (b.getD 1 0).toNat := by unfold cnt; omega
           rw [hc, ← ents_cuts hk]
           have hL : leafOK (readEnts b (b.getD 1 0).toNat) := ho
           have ha' : sumB (layL (b.getD 0 0) (b.getD 1 0) (readEnts b (b.getD 1 0).toNat)) = b := ha
           refine ⟨.inl ⟨hk1, hL⟩, ?_⟩
           rw [hk1] at ha' ⊢
           exact (again_leaf hb1.1 hL).symm.trans ha'
         ·cases ht
        ·exfalso
         apply hT
         obtain ⟨⟨⟨k, c, ⟨⟩⟩, es, ⟨⟩⟩, ⟨⟩⟩ := f
         obtain ⟨hk, ht⟩ := tie _ True.intro hf
         unfold readNod nilF at ht
         split at ht
         ·cases ht
         split at ht
         ·split at ht
          ·rename_i hle hall hk2
           cases ht
           have hc : cnt b 5 = (b.getD 1 0).toNat := by unfold cnt; omega
           rw [hc, ← ents_cuts hk]
           have hL : innerOK (readEnts b (b.getD 1 0).toNat) := ho
           have ha' : sumB (layI (b.getD 0 0) (b.getD 1 0) (readEnts b (b.getD 1 0).toNat)) = b := ha
           refine ⟨.inr ⟨hk2, hL⟩, ?_⟩
           rw [hk2] at ha' ⊢
           exact (again_inner hb1.1 hL).symm.trans ha'
          ·cases ht
         ·cases ht
        ·rfl
       ·show (_, codeB g _) = _; rw [c0]
      ·show (_, codeB g _) = _; rw [c0]
    unfold decF
    rw [if_neg (fun e => e h1), if_neg (fun e => e h2)]
    exact five _ rfl
  ·have hs : sumC b = 6 := by unfold sumC; rw [if_neg (fun e => e h1), if_pos h2]
   rw [hs, if_pos (by decide)]
   unfold decF
   rw [if_neg (fun e => e h1), if_pos h2]
   show (_, codeB g (.inl (some (124, g.sum, ())))) = _
   unfold codeB
   simp [n1]
 ·have hs : sumC b = 3 := by unfold sumC; rw [if_pos h1]
  rw [hs, if_pos (by decide)]
  unfold decF
  rw [if_pos h1]
  show (_, codeB g (.inl (some ((b.length : Int), g.size, ())))) = _
  unfold codeB
  simp
def c7 (g : Sen) : Con := { ps := [(false, 0, tyB)], rs := [(1, tyNode), (0, .int .i64)], pre := fun x => x.1.length ≤ 1048576, post := fun x y _ => (y.1, y.2.1) = decN x.1, gl := g.gl4 }
theorem ok7 (g : Sen) (hgood : g.good) : FnOK Tryd.prog 7 (c7 g) := by
 refine FnOK.of_vc mixed tabM4Ok (.cons en31 (ok31 g) (.cons (by exact .mk Tryd.func30 (by rfl) rfl) (ok30b g hgood) .nil)) Tryd.func7 rfl (by show 1 ≤ Tryd.f7.ntmps; decide) lv7 hd7 ?_
 rintro ⟨(b : List Int), ⟨⟩⟩ hl hwf
 have hl : b.length ≤ 1048576 := hl
 have hB : ∀ x ∈ b, 0 ≤ x ∧ x ≤ 255 := inB hwf.1
 have hI := implN_decF hgood hB
 generalize hM : real = M
 cbv
 refine ⟨fun _ => hl, ?_⟩
 rintro ⟨(f : Form4), (er : ErrD), ⟨⟩⟩ x' (hy : (f, er) = decF g b) - -
 rw [← hy] at hI
 have hfa : faultOK g er := by
  have := decF_fault g b
  rw [← hy] at this
  exact this
 rcases er with er | er
 ·rcases f with f | f | f | f | f <;> cbv
  all_goals
   refine ⟨fun _ => hfa, ?_⟩
   rintro ⟨(y : Int), ⟨⟩⟩ x'' (hc : y = codeB g (.inl er)) - -
   cbv
   rintro -
   show ((0, [], ()), y) = decN b
   rw [hc]
   exact hI
 ·rcases f with f | f | f | f | f
  rotate_left 2
  ·obtain ⟨⟨⟨k, c, ⟨⟩⟩, es, ⟨⟩⟩, ⟨⟩⟩ := f
   cbv
   rintro -
   exact hI
  ·obtain ⟨⟨⟨k, c, ⟨⟩⟩, es, ⟨⟩⟩, ⟨⟩⟩ := f
   cbv
   rintro -
   exact hI
  all_goals
   cbv
   rintro -
   exact hI
end Go.Proofs.YtmjeghlfmhbjdaaDoor.EngTab
