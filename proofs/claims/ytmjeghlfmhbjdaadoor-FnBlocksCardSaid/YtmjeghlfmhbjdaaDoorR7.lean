/- What decode reads, against the specification's DecodeTable. -/
import Derived.Test.YtmjeghlfmhbjdaaDoorR6
import Derived.Test.YtmjeghlfmhbjdaaDoorIc
namespace Go.Proofs.YtmjeghlfmhbjdaaDoor.EngTab
open Go.Proofs.YtmjeghlfmhbjdaaDoor.Eng
set_option maxRecDepth 100000
set_option linter.unusedVariables false
set_option linter.unusedSimpArgs false
/-- impl.DecodeTable's answer, out of what decode gives. -/
noncomputable def implT (g : Sen) : Form4 × ErrD → (Int × List RunD × Unit) × Int
 | (_, .inl e) => ((0, [], ()), codeB g (.inl e))
 | (.inl f, .inr _) => ((f.2.1.1, f.2.1.2.1, ()), 0)
 | (.inr _, .inr _) => ((0, [], ()), 5)
theorem good_ne {g : Sen} (h : g.good) : g.sum ≠ g.size ∧ g.form ≠ g.size ∧ g.form ≠ g.sum := by
 obtain ⟨a, b, c, e1, e2, e3, n1, n2, n3⟩ := h
 rw [e1, e2, e3]
 refine ⟨?_, ?_, ?_⟩ <;> intro h <;> simp at h
 ·exact n1 h.symm
 ·exact n2 h.symm
 ·exact n3 h.symm
theorem getD_app0 {a c : List Int} {i : Nat} (h : i < a.length) : (a ++ c).getD i 0 = a.getD i 0 := by
 simp [List.getD, List.getElem?_append_left h]
theorem encT_b {nx : Int} {rs : List RunD} (h : tabOK nx rs) : (encT nx rs).getD 0 0 = 3 ∧ (encT nx rs).getD 1 0 = rs.length := by
 unfold encT
 rw [if_pos h]
 unfold specT sealB fillB
 have := h.2.1
 constructor <;> simp
 omega
open Classical in
theorem implT_decF {g : Sen} (hgood : g.good) {b : List Int} (hB : ∀ x ∈ b, 0 ≤ x ∧ x ≤ 255) : implT g (decF g b) = decT b := by
 obtain ⟨n1, n2, n3⟩ := good_ne hgood
 have hb1 := byte_of hB 1
 unfold decT
 by_cases h1 : b.length = 128
 ·by_cases h2 : nm b 124 4 = crcV (b.take 124)
  ·have hs : sumC b = 0 := by unfold sumC; rw [if_neg (fun e => e h1), if_neg (fun e => e h2)]
   rw [if_neg (fun e => e hs)]
   by_cases hT : tabOK (nm b 2 2) (readRuns b (cnt b 20)) ∧ encT (nm b 2 2) (readRuns b (cnt b 20)) = b
   ·rw [if_pos hT]
    obtain ⟨hK, hE⟩ := hT
    obtain ⟨q0, q1⟩ := encT_b hK
    rw [hE] at q0 q1
    rw [readRuns_len] at q1
    have hc : cnt b 20 = (b.getD 1 0).toNat := by omega
    have hle : ¬ 20 < b.getD 1 0 := by unfold cnt at hc; omega
    rw [hc] at hK hE ⊢
    have hF : (Sum.inl ((3, b.getD 1 0, ()), (nm b 2 2, readRuns b (b.getD 1 0).toNat, ()), ()) : Form4) = readF b := by
     unfold readF readTab
     rw [if_neg (by omega), if_pos q0, if_neg hle]
    have hS := again_tab hb1.1 hK
    rw [decF_ok h1 h2 hF (by unfold nilF; simp) hK (hS.trans hE)]
    rfl
   ·rw [if_neg hT]
    have five : ∀ f : Form4, f = readF b → implT g (if f = nilF then (nilF, .inl (some (0, g.form, ()))) else if f4OK f then (if sumB (f4Lay f) = b then (f, .inr ()) else (nilF, .inl (some (1, g.form, ())))) else (nilF, .inl (some (-1, g.form, ())))) = ((0, [], ()), 5) := by
     intro f hf
     have c0 : ∀ k : Int, codeB g (.inl (some (k, g.form, ()))) = 5 := fun k => by unfold codeB; simp [n2, n3]
     split
     ·show (_, codeB g _) = _; rw [c0]
     ·rename_i hn
      split
      ·rename_i ho
       split
       ·rename_i ha
        rcases f with f | f
        ·exfalso
         apply hT
         obtain ⟨⟨k, c, ⟨⟩⟩, ⟨nx, rs, ⟨⟩⟩, ⟨⟩⟩ := f
         have ht : (Sum.inl ((k, c, PUnit.unit), (nx, rs, PUnit.unit), PUnit.unit) : Form4) = readTab b := by
          rw [hf]
          unfold readF readNod readSup nilF at hf ⊢
          repeat' (first | rfl | split at hf)
          all_goals (first | cases hf; done | (simp_all; done) | skip)
         unfold readTab nilF at ht
         split at ht
         ·cases ht
         ·rename_i hle
          cases ht
          have hc : cnt b 20 = (b.getD 1 0).toNat := by unfold cnt; omega
          rw [hc]
          have hK : tabOK (nm b 2 2) (readRuns b (b.getD 1 0).toNat) := ho
          exact ⟨hK, (again_tab hb1.1 hK).symm.trans ha⟩
        ·rfl
       ·show (_, codeB g _) = _; rw [c0]
      ·show (_, codeB g _) = _; rw [c0]
    unfold decF
    rw [if_neg (fun e => e h1), if_neg (fun e => e h2)]
    exact five _ rfl
  ·have hs : sumC b = 6 := by unfold sumC; rw [if_neg (fun e => e h1), if_pos h2]
   rw [hs, if_pos (by decide)]
   unfold decF
   rw [if_neg (fun e => e h1), if_pos h2]
   show (_, codeB g (.inl (some (124, g.sum, ())))) = _
   unfold codeB
   simp [n1]
 ·have hs : sumC b = 3 := by unfold sumC; rw [if_pos h1]
  rw [hs, if_pos (by decide)]
  unfold decF
  rw [if_pos h1]
  show (_, codeB g (.inl (some ((b.length : Int), g.size, ())))) = _
  unfold codeB
  simp
theorem decF_fault (g : Sen) (b : List Int) : faultOK g (decF g b).2 := by
 unfold decF
 repeat' split
 all_goals first | exact .inl rfl | exact .inr (.inl rfl) | exact .inr (.inr rfl) | exact True.intro
def c12 (g : Sen) : Con := { ps := [(false, 0, tyB)], rs := [(1, tyTab), (0, .int .i64)], pre := fun x => x.1.length ≤ 1048576, post := fun x y _ => (y.1, y.2.1) = decT x.1, gl := g.gl4 }
theorem ok12 (g : Sen) (hgood : g.good) : FnOK Tryd.prog 12 (c12 g) := by
 refine FnOK.of_vc mixed tabM4Ok (.cons en31 (ok31 g) (.cons (by exact .mk Tryd.func30 (by rfl) rfl) (ok30b g hgood) .nil)) Tryd.func12 rfl (by show 1 ≤ Tryd.f12.ntmps; decide) lv12 hd12 ?_
 rintro ⟨(b : List Int), ⟨⟩⟩ hl hwf
 have hl : b.length ≤ 1048576 := hl
 have hB : ∀ x ∈ b, 0 ≤ x ∧ x ≤ 255 := inB hwf.1
 have hI := implT_decF hgood hB
 generalize hM : real = M
 cbv
 refine ⟨fun _ => hl, ?_⟩
 rintro ⟨(f : Form4), (er : ErrD), ⟨⟩⟩ x' (hy : (f, er) = decF g b) - -
 rw [← hy] at hI
 have hfa : faultOK g er := by
  have := decF_fault g b
  rw [← hy] at this
  exact this
 rcases er with er | er
 ·rcases f with f | f | f | f | f <;> cbv
  all_goals
   refine ⟨fun _ => hfa, ?_⟩
   rintro ⟨(y : Int), ⟨⟩⟩ x'' (hc : y = codeB g (.inl er)) - -
   cbv
   rintro -
   show ((0, [], ()), y) = decT b
   rw [hc]
   exact hI
 ·rcases f with f | f | f | f | f
  ·obtain ⟨⟨k, c, ⟨⟩⟩, ⟨nx, rs, ⟨⟩⟩, ⟨⟩⟩ := f
   cbv
   rintro -
   exact hI
  all_goals
   cbv
   rintro -
   exact hI
end Go.Proofs.YtmjeghlfmhbjdaaDoor.EngTab
