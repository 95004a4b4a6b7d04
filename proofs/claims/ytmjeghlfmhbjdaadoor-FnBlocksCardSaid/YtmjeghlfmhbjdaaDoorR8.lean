/- What decode reads, against the specification's DecodeSuper. -/
import Derived.Test.YtmjeghlfmhbjdaaDoorR7
import Derived.Test.YtmjeghlfmhbjdaaDoorS2
namespace Go.Proofs.YtmjeghlfmhbjdaaDoor.EngTab
open Go.Proofs.YtmjeghlfmhbjdaaDoor.Eng
set_option maxRecDepth 100000
set_option linter.unusedVariables false
set_option linter.unusedSimpArgs false
/-- impl.DecodeSuper's answer, out of what decode gives. -/
noncomputable def implS (g : Sen) : Form4 × ErrD → (Int × Int × Int × Int × List RootD × Unit) × Int
 | (_, .inl e) => (zS, codeB g (.inl e))
 | (.inr (.inl f), .inr _) => (f.2.1, 0)
 | (_, .inr _) => (zS, 5)
theorem encS_b {bl ge ne ta : Int} {rs : List RootD} (h : supOK bl ge ne ta rs) : (encS bl ge ne ta rs).getD 0 0 = 4 ∧ (encS bl ge ne ta rs).getD 1 0 = rs.length := by
 unfold encS
 rw [if_pos h]
 unfold specS sealB fillB hdS
 have := h.2.2.1.2
 constructor <;> simp
 omega
open Classical in
theorem implS_decF {g : Sen} (hgood : g.good) {b : List Int} (hB : ∀ x ∈ b, 0 ≤ x ∧ x ≤ 255) : implS g (decF g b) = decS b := by
 obtain ⟨n1, n2, n3⟩ := good_ne hgood
 have hb1 := byte_of hB 1
 unfold decS
 by_cases h1 : b.length = 128
 ·by_cases h2 : nm b 124 4 = crcV (b.take 124)
  ·have hs : sumC b = 0 := by unfold sumC; rw [if_neg (fun e => e h1), if_neg (fun e => e h2)]
   rw [if_neg (fun e => e hs)]
   by_cases hT : supOK (nm b 2 2) (nm b 4 8) (nm b 12 2) (nm b 14 2) (readRoots b (cnt b 16)) ∧ encS (nm b 2 2) (nm b 4 8) (nm b 12 2) (nm b 14 2) (readRoots b (cnt b 16)) = b
   ·rw [if_pos hT]
    obtain ⟨hK, hE⟩ := hT
    obtain ⟨q0, q1⟩ := encS_b hK
    rw [hE] at q0 q1
    rw [readRoots_len] at q1
    have hc : cnt b 16 = (b.getD 1 0).toNat := by omega
    have hle : ¬ 16 < b.getD 1 0 := by unfold cnt at hc; omega
    unfold supR
    rw [hc] at hK hE ⊢
    have hF : (Sum.inr (Sum.inl ((4, b.getD 1 0, ()), (nm b 2 2, nm b 4 8, nm b 12 2, nm b 14 2, readRoots b (b.getD 1 0).toNat, ()), ())) : Form4) = readF b := by
     unfold readF readSup
     rw [if_neg (by omega), if_neg (by omega), if_pos q0, if_neg hle]
    have hS := again_sup hb1.1 hK
    rw [decF_ok h1 h2 hF (by unfold nilF; simp) hK (hS.trans hE)]
    rfl
   ·rw [if_neg hT]
    have five : ∀ f : Form4, f = readF b → implS g (if f = nilF then (nilF, .inl (some (0, g.form, ()))) else if f4OK f then (if sumB (f4Lay f) = b then (f, .inr ()) else (nilF, .inl (some (1, g.form, ())))) else (nilF, .inl (some (-1, g.form, ())))) = (zS, 5) := by
     intro f hf
     have c0 : ∀ k : Int, codeB g (.inl (some (k, g.form, ()))) = 5 := fun k => by unfold codeB; simp [n2, n3]
     split
     ·show (_, codeB g _) = _; rw [c0]
     ·rename_i hn
      split
      ·rename_i ho
       split
       ·rename_i ha
        rcases f with f | f | f | f
        ·rfl
        ·exfalso
         apply hT
         obtain ⟨⟨k, c, ⟨⟩⟩, ⟨bl, ge, ne, ta, rs, ⟨⟩⟩, ⟨⟩⟩ := f
         have ht : (Sum.inr (Sum.inl ((k, c, PUnit.unit), (bl, ge, ne, ta, rs, PUnit.unit), PUnit.unit)) : Form4) = readSup b := by
          rw [hf]
          unfold readF readNod readTab nilF at hf ⊢
          repeat' (first | rfl | split at hf)
          all_goals (first | cases hf; done | (simp_all; done) | skip)
         unfold readSup nilF at ht
         split at ht
         ·cases ht
         ·rename_i hle
          cases ht
          have hc : cnt b 16 = (b.getD 1 0).toNat := by unfold cnt; omega
          rw [hc]
          have hK : supOK (nm b 2 2) (nm b 4 8) (nm b 12 2) (nm b 14 2) (readRoots b (b.getD 1 0).toNat) := ho
          exact ⟨hK, (again_sup hb1.1 hK).symm.trans ha⟩
        ·rfl
        ·rfl
       ·show (_, codeB g _) = _; rw [c0]
      ·show (_, codeB g _) = _; rw [c0]
    unfold decF
    rw [if_neg (fun e => e h1), if_neg (fun e => e h2)]
    exact five _ rfl
  ·have hs : sumC b = 6 := by unfold sumC; rw [if_neg (fun e => e h1), if_pos h2]
   rw [hs, if_pos (by decide)]
   unfold decF
   rw [if_neg (fun e => e h1), if_pos h2]
   show (_, codeB g (.inl (some (124, g.sum, ())))) = _
   unfold codeB
   simp [n1]
 ·have hs : sumC b = 3 := by unfold sumC; rw [if_pos h1]
  rw [hs, if_pos (by decide)]
  unfold decF
  rw [if_pos h1]
  show (_, codeB g (.inl (some ((b.length : Int), g.size, ())))) = _
  unfold codeB
  simp
def c17 (g : Sen) : Con := { ps := [(false, 0, tyB)], rs := [(1, tySup), (0, .int .i64)], pre := fun x => x.1.length ≤ 1048576, post := fun x y _ => (y.1, y.2.1) = decS x.1, gl := g.gl4 }
theorem ok17 (g : Sen) (hgood : g.good) : FnOK Tryd.prog 17 (c17 g) := by
 refine FnOK.of_vc mixed tabM4Ok (.cons en31 (ok31 g) (.cons (by exact .mk Tryd.func30 (by rfl) rfl) (ok30b g hgood) .nil)) Tryd.func17 rfl (by show 1 ≤ Tryd.f17.ntmps; decide) lv17 hd17 ?_
 rintro ⟨(b : List Int), ⟨⟩⟩ hl hwf
 have hl : b.length ≤ 1048576 := hl
 have hB : ∀ x ∈ b, 0 ≤ x ∧ x ≤ 255 := inB hwf.1
 have hI := implS_decF hgood hB
 generalize hM : real = M
 cbv
 refine ⟨fun _ => hl, ?_⟩
 rintro ⟨(f : Form4), (er : ErrD), ⟨⟩⟩ x' (hy : (f, er) = decF g b) - -
 rw [← hy] at hI
 have hfa : faultOK g er := by
  have := decF_fault g b
  rw [← hy] at this
  exact this
 rcases er with er | er
 ·rcases f with f | f | f | f | f <;> cbv
  all_goals
   refine ⟨fun _ => hfa, ?_⟩
   rintro ⟨(y : Int), ⟨⟩⟩ x'' (hc : y = codeB g (.inl er)) - -
   cbv
   rintro -
   show (zS, y) = decS b
   rw [hc]
   exact hI
 ·rcases f with f | f | f | f | f
  rotate_left
  ·obtain ⟨⟨k, c, ⟨⟩⟩, ⟨bl, ge, ne, ta, rs, ⟨⟩⟩, ⟨⟩⟩ := f
   cbv
   rintro -
   exact hI
  all_goals
   cbv
   rintro -
   exact hI
end Go.Proofs.YtmjeghlfmhbjdaaDoor.EngTab
