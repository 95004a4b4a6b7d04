/- Contracts: impl.decode. -/
import Derived.Test.YtmjeghlfmhbjdaaDoorR5
import Derived.Test.YtmjeghlfmhbjdaaDoorNP
namespace Go.Proofs.YtmjeghlfmhbjdaaDoor.EngTab
open Go.Proofs.YtmjeghlfmhbjdaaDoor.Eng
open PUnit (unit)
set_option maxRecDepth 100000
set_option linter.unusedVariables false
set_option linter.unusedSimpArgs false
noncomputable def readF (b : List Int) : Form4 := if b.getD 0 0 = 1 ∨ b.getD 0 0 = 2 then readNod b else if b.getD 0 0 = 3 then readTab b else if b.getD 0 0 = 4 then readSup b else nilF
open Classical in
noncomputable def decF (g : Sen) (b : List Int) : Form4 × ErrD :=
 if b.length ≠ 128 then (nilF, .inl (some ((b.length : Int), g.size, ())))
 else if nm b 124 4 ≠ crcV (b.take 124) then (nilF, .inl (some (124, g.sum, ())))
 else if readF b = nilF then (nilF, .inl (some (0, g.form, ())))
 else if f4OK (readF b) then (if sumB (f4Lay (readF b)) = b then (readF b, .inr ()) else (nilF, .inl (some (1, g.form, ()))))
 else (nilF, .inl (some (-1, g.form, ())))
theorem seal_len {p : List Int} (h : p.length ≤ 124) : (sealB p).length = 128 := by
 unfold sealB fillB
 simp [numB_len]; omega
theorem encT_128 {nx : Int} {rs : List RunD} (h : tabOK nx rs) : (encT nx rs).length = 128 := by
 unfold encT
 rw [if_pos h]
 exact seal_len (by simp [numB_len, runsB_len]; have := h.2.1; omega)
theorem encS_128 {bl ge ne ta : Int} {rs : List RootD} (h : supOK bl ge ne ta rs) : (encS bl ge ne ta rs).length = 128 := by
 unfold encS
 rw [if_pos h]
 exact seal_len (by rw [List.length_append, hdS_len, rootsB_len]; have := h.2.2.1.2; omega)
theorem encN_128 {k : Int} {es : List EntD} (h : nodeOK k es) : (encN k es).length = 128 := by
 unfold encN
 rw [if_pos h]
 exact seal_len (by have := (nodeOK_iff.1 h).2.1; simp [entsB_len]; omega)
/-- The read form, laid down again. -/
theorem again_tab {b : List Int} (hb : 0 ≤ b.getD 1 0) (h : tabOK (nm b 2 2) (readRuns b (b.getD 1 0).toNat)) : sumB (layT 3 (b.getD 1 0) (nm b 2 2) (readRuns b (b.getD 1 0).toNat)) = encT (nm b 2 2) (readRuns b (b.getD 1 0).toNat) := by
 have := encT_sum h
 rw [readRuns_len, Int.toNat_of_nonneg hb] at this
 exact this
theorem again_sup {b : List Int} (hb : 0 ≤ b.getD 1 0) (h : supOK (nm b 2 2) (nm b 4 8) (nm b 12 2) (nm b 14 2) (readRoots b (b.getD 1 0).toNat)) : sumB (layS 4 (b.getD 1 0) (nm b 2 2) (nm b 4 8) (nm b 12 2) (nm b 14 2) (readRoots b (b.getD 1 0).toNat)) = encS (nm b 2 2) (nm b 4 8) (nm b 12 2) (nm b 14 2) (readRoots b (b.getD 1 0).toNat) := by
 have := encS_sum h
 rw [readRoots_len, Int.toNat_of_nonneg hb] at this
 exact this
theorem again_leaf {b : List Int} (hb : 0 ≤ b.getD 1 0) (h : leafOK (readEnts b (b.getD 1 0).toNat)) : sumB (layL 1 (b.getD 1 0) (readEnts b (b.getD 1 0).toNat)) = encN 1 (readEnts b (b.getD 1 0).toNat) := by
 have := encN_leaf h
 rw [readEnts_len, Int.toNat_of_nonneg hb] at this
 exact this
theorem again_inner {b : List Int} (hb : 0 ≤ b.getD 1 0) (h : innerOK (readEnts b (b.getD 1 0).toNat)) : sumB (layI 2 (b.getD 1 0) (readEnts b (b.getD 1 0).toNat)) = encN 2 (readEnts b (b.getD 1 0).toNat) := by
 have := encN_inner h
 rw [readEnts_len, Int.toNat_of_nonneg hb] at this
 exact this
/-- What is read is of a small size, and, laid down, a block. -/
theorem readF_good {b : List Int} (hB : ∀ x ∈ b, 0 ≤ x ∧ x ≤ 255) : readF b = nilF ∨ (f4Sz (readF b) ∧ (f4OK (readF b) → (sumB (f4Lay (readF b))).length = 128)) := by
 have h1 := byte_of hB 1
 unfold readF
 split
 ·rename_i hk
  unfold readNod
  split
  ·exact .inl rfl
  ·split
   ·split
    ·rename_i h5 _ h2
     refine .inr ⟨by show (readEnts b _).length ≤ 1048576; rw [readEnts_len]; omega, fun h => ?_⟩
     have h' : innerOK (readEnts b (b.getD 1 0).toNat) := h
     show (sumB (layI (b.getD 0 0) (b.getD 1 0) (readEnts b (b.getD 1 0).toNat))).length = 128
     rw [h2, again_inner h1.1 h']
     exact encN_128 (.inr ⟨rfl, h'⟩)
    ·rename_i h5 _ h2
     have hk1 : b.getD 0 0 = 1 := by rcases hk with h | h; exact h; exact absurd h h2
     refine .inr ⟨by show (readEnts b _).length ≤ 1048576; rw [readEnts_len]; omega, fun h => ?_⟩
     have h' : leafOK (readEnts b (b.getD 1 0).toNat) := h
     show (sumB (layL (b.getD 0 0) (b.getD 1 0) (readEnts b (b.getD 1 0).toNat))).length = 128
     rw [hk1, again_leaf h1.1 h']
     exact encN_128 (.inl ⟨rfl, h'⟩)
   ·exact .inl rfl
 ·split
  ·unfold readTab
   split
   ·exact .inl rfl
   ·refine .inr ⟨by show (readRuns b _).length ≤ 1048576; rw [readRuns_len]; omega, fun h => ?_⟩
    have h' : tabOK (nm b 2 2) (readRuns b (b.getD 1 0).toNat) := h
    show (sumB (layT 3 (b.getD 1 0) (nm b 2 2) (readRuns b (b.getD 1 0).toNat))).length = 128
    rw [again_tab h1.1 h']
    exact encT_128 h'
  ·split
   ·unfold readSup
    split
    ·exact .inl rfl
    ·refine .inr ⟨by show (readRoots b _).length ≤ 1048576; rw [readRoots_len]; omega, fun h => ?_⟩
     have h' : supOK (nm b 2 2) (nm b 4 8) (nm b 12 2) (nm b 14 2) (readRoots b (b.getD 1 0).toNat) := h
     show (sumB (layS 4 (b.getD 1 0) (nm b 2 2) (nm b 4 8) (nm b 12 2) (nm b 14 2) (readRoots b (b.getD 1 0).toNat))).length = 128
     rw [again_sup h1.1 h']
     exact encS_128 h'
   ·exact .inl rfl
section
variable {g : Sen} {b : List Int} (h1 : b.length = 128) (h2 : nm b 124 4 = crcV (b.take 124))
include h1 h2
theorem decF_nil (h : readF b = nilF) : decF g b = (nilF, .inl (some (0, g.form, ()))) := by
 unfold decF
 rw [if_neg (by omega), if_neg (fun e => e h2), if_pos h]
theorem decF_ok {f : Form4} (hf : f = readF b) (hn : f ≠ nilF) (ho : f4OK f) (ha : sumB (f4Lay f) = b) : decF g b = (f, .inr ()) := by
 unfold decF
 rw [if_neg (by omega), if_neg (fun e => e h2), ← hf, if_neg hn, if_pos ho, if_pos ha]
theorem decF_ne {f : Form4} (hf : f = readF b) (hn : f ≠ nilF) (ho : f4OK f) (ha : sumB (f4Lay f) ≠ b) : decF g b = (nilF, .inl (some (1, g.form, ()))) := by
 unfold decF
 rw [if_neg (by omega), if_neg (fun e => e h2), ← hf, if_neg hn, if_pos ho, if_neg ha]
theorem decF_bad {f : Form4} (hf : f = readF b) (hn : f ≠ nilF) (ho : ¬ f4OK f) : decF g b = (nilF, .inl (some (-1, g.form, ()))) := by
 unfold decF
 rw [if_neg (by omega), if_neg (fun e => e h2), ← hf, if_neg hn, if_neg ho]
end
def c31 (g : Sen) : Con := { ps := [(false, 0, tyB)], rs := [(1, tyF4), (0, tyErr)], pre := fun x => x.1.length ≤ 1048576, post := fun x y _ => (y.1, y.2.1) = decF g x.1, gl := g.gl }
set_option maxHeartbeats 16000000 in
theorem ok31 (g : Sen) : FnOK Tryd.prog 31 (c31 g) := by
 refine FnOK.of_vc mixed tabM4Ok (.cons en47 ok47 (.cons en44 ok44 (.cons en48 ok48 (.cons en49 ok49 (.cons en50 ok50 (.cons en29 (ok29b g) .nil)))))) Tryd.func31 rfl (by show 1 ≤ Tryd.f31.ntmps; decide) lv31 hd31 ?_
 rintro ⟨(b : List Int), ⟨⟩⟩ hl hwf
 have hl : b.length ≤ 1048576 := hl
 have hB : ∀ x ∈ b, 0 ≤ x ∧ x ≤ 255 := inB hwf.1
 have hby0 := byte_of hB 0
 have hgood := readF_good hB
 generalize hM : real = M
 cbv
 refine splM (fun h => ?_) (fun h => ?_) <;> cbv
 ·have hne : b.length ≠ 128 := by
   (try subst hM); (try simp only [jqn] at *); (try simp only [jqi] at *); (try simp only [real, jq1, jq2, jq3, jq4, jq5, jq6, sEq_dec, Bool.not_true, Bool.not_false, gt_iff_lt, ge_iff_le] at *)
   omega
  refine ⟨ot31_2, (fun _ => by kernel_rfl), ?_⟩
  cbv
  repeat' (first | exact True.intro | (refine And.intro ?_ ?_))
  all_goals
   rintro -
   subst hM
   show ((nilF, Sum.inl (some ((b.length : Int), g.size, ()))) : Form4 × ErrD) = decF g b
   unfold decF
   rw [if_pos hne]
 have h128 : b.length = 128 := by
  (try subst hM); (try simp only [jqn] at *); (try simp only [jqi] at *); (try simp only [real, jq1, jq2, jq3, jq4, jq5, jq6, sEq_dec, Bool.not_true, Bool.not_false, gt_iff_lt, ge_iff_le] at *)
  omega
 clear h
 refine ⟨ot31_3, (fun _ => by kernel_rfl), ?_⟩
 cbv
 have hX : real.cut b 124 (real.ofN (real.len b)) = b.drop 124 := cut_all b 124
 repeat' (first
  | exact True.intro
  | (refine And.intro ?_ True.intro)
  | (fail_if_success have := hv1
     refine And.intro (fun _ => by subst hM; show (real.cut b 124 (real.ofN (real.len b))).length ≤ 1048576 ∧ (0 : Int) ≤ 4 ∧ (4 : Int) ≤ 8 ∧ (4 : Int) ≤ ((real.cut b 124 (real.ofN (real.len b))).length : Int); rw [hX, List.length_drop, h128]; omega) ?_
     rintro ⟨(v1 : Int), ⟨⟩⟩ q1 hv1 - -
     cbv)
  | (fail_if_success have := hv2
     refine And.intro (fun _ => by subst hM; show (real.cut b 0 124).length ≤ 1048576; show ((b.drop _).take _).length ≤ 1048576; simp; omega) ?_
     rintro ⟨(s : Int), ⟨⟩⟩ q2 hv2 hw -
     have hk2 : 0 ≤ s ∧ s ≤ 4294967295 := (show InK .u32 s from hw.1)
     cbv)
  | (refine And.intro (by (try subst hM); (try simp only [jqn] at *); (try simp only [jqi] at *); (try simp only [real, jq1, jq2, jq3, jq4, jq5, jq6, sEq_dec, Bool.not_true, Bool.not_false, gt_iff_lt, ge_iff_le] at *); omega) ?_)
  | (refine And.intro ?_ ?_))
 all_goals
  have k1 : v1 = nm b 124 4 := by
   subst hM
   have h : v1 = nm (real.cut b 124 (real.ofN (real.len b))) 0 4 := hv1
   rw [h, hX, nm_drop]
  have k2 : s = crcV (b.take 124) := by
   subst hM
   have h : s = crcV (real.cut b 0 124) := hv2
   rw [h]; rfl
  have hs2 : M.wrap .i64 s = s := by subst hM; exact wrap_crc' _ hk2
  clear hv1 hv2 hw
  refine splM (fun h => ?_) (fun h => ?_) <;> cbv
  ·have hne : nm b 124 4 ≠ crcV (b.take 124) := by
    intro e
    subst hM
    rw [hs2, k1, k2, e, eqSelf'] at h
    cases h
   refine ⟨ot31_4, (fun _ => by kernel_rfl), ?_⟩
   cbv
   repeat' (first | exact True.intro | (refine And.intro ?_ ?_))
   all_goals
    rintro -
    subst hM
    show ((nilF, Sum.inl (some ((124 : Int), g.sum, ()))) : Form4 × ErrD) = decF g b
    unfold decF
    rw [if_neg (by omega), if_pos hne]
  have heq : nm b 124 4 = crcV (b.take 124) := by
   subst hM
   rw [hs2] at h
   rw [← k1, ← k2]
   by_cases hc : v1 = s
   ·exact hc
   ·exfalso
    have : real.dec (real.eq v1 s) = false := by
     cases hd : real.dec (real.eq v1 s) with
     | true => exact absurd (dec_iff.1 hd) hc
     | false => rfl
    rw [this] at h
    cases h
  clear h k1 k2 hs2
  have b1 : (0 : Int) < (b.length : Int) := by omega
  have deq : ∀ z : Int, M.dec (M.eq (M.get b 0 0) z) = true → b.getD 0 0 = z := fun z hz => by subst hM; exact dec_iff.1 hz
  have dne : ∀ z : Int, M.dec (M.eq (M.get b 0 0) z) = false → b.getD 0 0 ≠ z := fun z hz e => by
   subst hM
   have : real.dec (real.eq (real.get b 0 0) z) = true := dec_iff.2 e
   exact absurd (this.symm.trans hz) (by decide)
  refine ⟨by subst hM; exact Int.le_refl _, by subst hM; exact b1, ?_⟩
  have hsame : ∀ X Y : List Int, M.not (M.dec (M.same2 X Y)) = true → X ≠ Y := fun X Y h e => by
   subst hM
   rw [show real.dec (real.same2 X Y) = true from dec_iff.2 e] at h
   cases h
  have hdiff : ∀ X Y : List Int, M.not (M.dec (M.same2 X Y)) = false → X = Y := fun X Y h => by
   subst hM
   by_cases e : X = Y
   ·exact e
   ·exfalso
    have hd : real.dec (real.same2 X Y) = false := by
     cases hd : real.dec (real.same2 X Y) with
     | true => exact absurd (dec_iff.1 hd) e
     | false => rfl
    rw [hd] at h
    cases h
  have hcut : ∀ X : List Int, X.length = 128 → M.cut X 0 (M.add 0 (M.ofN 128)) = X := fun X h => by
   subst hM
   show (X.drop _).take _ = X
   exact List.take_of_length_le (by simp [h]; show 128 ≤ ((0 : Int) + ((128 : Nat) : Int)).toNat; decide)
  refine splM (fun hk1 => ?_) (fun hk1 => ?_) <;> cbv
  ·have e1 : b.getD 0 0 = 1 := deq 1 hk1
   refine splM (fun _ => ?_) (fun hc => absurd (hk1.symm.trans hc) (by decide)) <;> cbv
   refine ⟨fun _ => h128, ?_⟩
   rintro ⟨(f : Form4), ⟨⟩⟩ q5 (hf : f = readNod b) - -
   have hfF : f = readF b := by rw [hf]; unfold readF; rw [if_pos (.inl e1)]
   rcases f with f | f | f | f | f
   ·(exfalso; unfold readNod nilF at hf; split at hf <;> (try split at hf) <;> (try split at hf) <;> cases hf; done)
   ·(exfalso; unfold readNod nilF at hf; split at hf <;> (try split at hf) <;> (try split at hf) <;> cases hf; done)
   ·obtain ⟨⟨⟨k, c, ⟨⟩⟩, es, ⟨⟩⟩, ⟨⟩⟩ := f
    have hF : (Sum.inr (Sum.inr (Sum.inl ((((k, c, unit), es, unit), unit)))) : Form4) = readF b := hfF
    have hn : (Sum.inr (Sum.inr (Sum.inl ((((k, c, unit), es, unit), unit)))) : Form4) ≠ nilF := by unfold nilF; simp
    obtain ⟨hsz, hlen⟩ : f4Sz (Sum.inr (Sum.inr (Sum.inl ((((k, c, unit), es, unit), unit)))) : Form4) ∧ (f4OK (Sum.inr (Sum.inr (Sum.inl ((((k, c, unit), es, unit), unit)))) : Form4) → (sumB (f4Lay (Sum.inr (Sum.inr (Sum.inl ((((k, c, unit), es, unit), unit)))) : Form4))).length = 128) := by
     rcases hgood with hg | hg
     ·exact absurd (hF.trans hg) hn
     ·rw [← hF] at hg; exact hg
    cbv
    refine ⟨fun _ => hsz, ?_⟩
    rintro ⟨(ag : List Int), (er : ErrD), ⟨⟩⟩ x9 ⟨(h1 : f4OK (Sum.inr (Sum.inr (Sum.inl ((((k, c, unit), es, unit), unit)))) : Form4) → ag = sumB (f4Lay (Sum.inr (Sum.inr (Sum.inl ((((k, c, unit), es, unit), unit)))) : Form4)) ∧ er = .inr ()), (h2 : ¬ f4OK (Sum.inr (Sum.inr (Sum.inl ((((k, c, unit), es, unit), unit)))) : Form4) → ag = [] ∧ er = .inl (some (-1, g.form, ())))⟩ - -
    by_cases hOK : f4OK (Sum.inr (Sum.inr (Sum.inl ((((k, c, unit), es, unit), unit)))) : Form4)
    ·obtain ⟨hag, rfl⟩ := h1 hOK
     have hagl : ag.length = 128 := by rw [hag]; exact hlen hOK
     clear h1 h2
     cbv
     refine ⟨ot31_19, (fun _ => by kernel_rfl), ?_⟩
     cbv
     repeat' (first | exact True.intro | (refine And.intro ?_ ?_) | ((try subst hM); (try simp only [jqn] at *); (try simp only [jqi] at *); (try simp only [real, jq1, jq2, jq3, jq4, jq5, jq6, sEq_dec, Bool.not_true, Bool.not_false, gt_iff_lt, ge_iff_le] at *); omega))
     all_goals
      refine splM (fun hq => ?_) (fun hq => ?_) <;> cbv
      ·have hx : sumB (f4Lay (Sum.inr (Sum.inr (Sum.inl ((((k, c, unit), es, unit), unit)))) : Form4)) ≠ b := by
        have := hsame _ _ hq
        have e1 : M.cut ag 0 (M.add 0 (M.ofN 128)) ≠ M.cut b 0 (M.add 0 (M.ofN 128)) := this
        rw [hcut ag hagl, hcut b h128] at e1
        rw [← hag]; exact e1
       refine ⟨ot31_20, (fun _ => by kernel_rfl), ?_⟩
       cbv
       repeat' (first | exact True.intro | (refine And.intro ?_ ?_))
       all_goals
        rintro -
        exact (decF_ne h128 heq hF hn hOK hx).symm
      ·have hx : sumB (f4Lay (Sum.inr (Sum.inr (Sum.inl ((((k, c, unit), es, unit), unit)))) : Form4)) = b := by
        have := hdiff _ _ hq
        have e1 : M.cut ag 0 (M.add 0 (M.ofN 128)) = M.cut b 0 (M.add 0 (M.ofN 128)) := this
        rw [hcut ag hagl, hcut b h128] at e1
        rw [← hag]; exact e1
       rintro -
       exact (decF_ok h128 heq hF hn hOK hx).symm
    ·obtain ⟨hag, rfl⟩ := h2 hOK
     clear h1 h2
     cbv
     rintro -
     exact (decF_bad h128 heq hF hn hOK).symm
   ·obtain ⟨⟨⟨k, c, ⟨⟩⟩, es, ⟨⟩⟩, ⟨⟩⟩ := f
    have hF : (Sum.inr (Sum.inr (Sum.inr (Sum.inl ((((k, c, unit), es, unit), unit))))) : Form4) = readF b := hfF
    have hn : (Sum.inr (Sum.inr (Sum.inr (Sum.inl ((((k, c, unit), es, unit), unit))))) : Form4) ≠ nilF := by unfold nilF; simp
    obtain ⟨hsz, hlen⟩ : f4Sz (Sum.inr (Sum.inr (Sum.inr (Sum.inl ((((k, c, unit), es, unit), unit))))) : Form4) ∧ (f4OK (Sum.inr (Sum.inr (Sum.inr (Sum.inl ((((k, c, unit), es, unit), unit))))) : Form4) → (sumB (f4Lay (Sum.inr (Sum.inr (Sum.inr (Sum.inl ((((k, c, unit), es, unit), unit))))) : Form4))).length = 128) := by
     rcases hgood with hg | hg
     ·exact absurd (hF.trans hg) hn
     ·rw [← hF] at hg; exact hg
    cbv
    refine ⟨fun _ => hsz, ?_⟩
    rintro ⟨(ag : List Int), (er : ErrD), ⟨⟩⟩ x9 ⟨(h1 : f4OK (Sum.inr (Sum.inr (Sum.inr (Sum.inl ((((k, c, unit), es, unit), unit))))) : Form4) → ag = sumB (f4Lay (Sum.inr (Sum.inr (Sum.inr (Sum.inl ((((k, c, unit), es, unit), unit))))) : Form4)) ∧ er = .inr ()), (h2 : ¬ f4OK (Sum.inr (Sum.inr (Sum.inr (Sum.inl ((((k, c, unit), es, unit), unit))))) : Form4) → ag = [] ∧ er = .inl (some (-1, g.form, ())))⟩ - -
    by_cases hOK : f4OK (Sum.inr (Sum.inr (Sum.inr (Sum.inl ((((k, c, unit), es, unit), unit))))) : Form4)
    ·obtain ⟨hag, rfl⟩ := h1 hOK
     have hagl : ag.length = 128 := by rw [hag]; exact hlen hOK
     clear h1 h2
     cbv
     refine ⟨ot31_19, (fun _ => by kernel_rfl), ?_⟩
     cbv
     repeat' (first | exact True.intro | (refine And.intro ?_ ?_) | ((try subst hM); (try simp only [jqn] at *); (try simp only [jqi] at *); (try simp only [real, jq1, jq2, jq3, jq4, jq5, jq6, sEq_dec, Bool.not_true, Bool.not_false, gt_iff_lt, ge_iff_le] at *); omega))
     all_goals
      refine splM (fun hq => ?_) (fun hq => ?_) <;> cbv
      ·have hx : sumB (f4Lay (Sum.inr (Sum.inr (Sum.inr (Sum.inl ((((k, c, unit), es, unit), unit))))) : Form4)) ≠ b := by
        have := hsame _ _ hq
        have e1 : M.cut ag 0 (M.add 0 (M.ofN 128)) ≠ M.cut b 0 (M.add 0 (M.ofN 128)) := this
        rw [hcut ag hagl, hcut b h128] at e1
        rw [← hag]; exact e1
       refine ⟨ot31_20, (fun _ => by kernel_rfl), ?_⟩
       cbv
       repeat' (first | exact True.intro | (refine And.intro ?_ ?_))
       all_goals
        rintro -
        exact (decF_ne h128 heq hF hn hOK hx).symm
      ·have hx : sumB (f4Lay (Sum.inr (Sum.inr (Sum.inr (Sum.inl ((((k, c, unit), es, unit), unit))))) : Form4)) = b := by
        have := hdiff _ _ hq
        have e1 : M.cut ag 0 (M.add 0 (M.ofN 128)) = M.cut b 0 (M.add 0 (M.ofN 128)) := this
        rw [hcut ag hagl, hcut b h128] at e1
        rw [← hag]; exact e1
       rintro -
       exact (decF_ok h128 heq hF hn hOK hx).symm
    ·obtain ⟨hag, rfl⟩ := h2 hOK
     clear h1 h2
     cbv
     rintro -
     exact (decF_bad h128 heq hF hn hOK).symm
   ·have hF : readF b = nilF := hfF.symm
    clear hf hfF
    cbv
    refine ⟨ot31_15, (fun _ => by kernel_rfl), ?_⟩
    cbv
    repeat' (first | exact True.intro | (refine And.intro ?_ ?_))
    all_goals
     rintro -
     exact (decF_nil h128 heq hF).symm
  have n1 : b.getD 0 0 ≠ 1 := dne 1 hk1
  refine splM (fun hk2 => ?_) (fun hk2 => ?_) <;> cbv
  ·have e2 : b.getD 0 0 = 2 := deq 2 hk2
   refine ⟨fun _ => h128, ?_⟩
   rintro ⟨(f : Form4), ⟨⟩⟩ q5 (hf : f = readNod b) - -
   have hfF : f = readF b := by rw [hf]; unfold readF; rw [if_pos (.inr e2)]
   rcases f with f | f | f | f | f
   ·(exfalso; unfold readNod nilF at hf; split at hf <;> (try split at hf) <;> (try split at hf) <;> cases hf; done)
   ·(exfalso; unfold readNod nilF at hf; split at hf <;> (try split at hf) <;> (try split at hf) <;> cases hf; done)
   ·obtain ⟨⟨⟨k, c, ⟨⟩⟩, es, ⟨⟩⟩, ⟨⟩⟩ := f
    have hF : (Sum.inr (Sum.inr (Sum.inl ((((k, c, unit), es, unit), unit)))) : Form4) = readF b := hfF
    have hn : (Sum.inr (Sum.inr (Sum.inl ((((k, c, unit), es, unit), unit)))) : Form4) ≠ nilF := by unfold nilF; simp
    obtain ⟨hsz, hlen⟩ : f4Sz (Sum.inr (Sum.inr (Sum.inl ((((k, c, unit), es, unit), unit)))) : Form4) ∧ (f4OK (Sum.inr (Sum.inr (Sum.inl ((((k, c, unit), es, unit), unit)))) : Form4) → (sumB (f4Lay (Sum.inr (Sum.inr (Sum.inl ((((k, c, unit), es, unit), unit)))) : Form4))).length = 128) := by
     rcases hgood with hg | hg
     ·exact absurd (hF.trans hg) hn
     ·rw [← hF] at hg; exact hg
    cbv
    refine ⟨fun _ => hsz, ?_⟩
    rintro ⟨(ag : List Int), (er : ErrD), ⟨⟩⟩ x9 ⟨(h1 : f4OK (Sum.inr (Sum.inr (Sum.inl ((((k, c, unit), es, unit), unit)))) : Form4) → ag = sumB (f4Lay (Sum.inr (Sum.inr (Sum.inl ((((k, c, unit), es, unit), unit)))) : Form4)) ∧ er = .inr ()), (h2 : ¬ f4OK (Sum.inr (Sum.inr (Sum.inl ((((k, c, unit), es, unit), unit)))) : Form4) → ag = [] ∧ er = .inl (some (-1, g.form, ())))⟩ - -
    by_cases hOK : f4OK (Sum.inr (Sum.inr (Sum.inl ((((k, c, unit), es, unit), unit)))) : Form4)
    ·obtain ⟨hag, rfl⟩ := h1 hOK
     have hagl : ag.length = 128 := by rw [hag]; exact hlen hOK
     clear h1 h2
     cbv
     refine ⟨ot31_19, (fun _ => by kernel_rfl), ?_⟩
     cbv
     repeat' (first | exact True.intro | (refine And.intro ?_ ?_) | ((try subst hM); (try simp only [jqn] at *); (try simp only [jqi] at *); (try simp only [real, jq1, jq2, jq3, jq4, jq5, jq6, sEq_dec, Bool.not_true, Bool.not_false, gt_iff_lt, ge_iff_le] at *); omega))
     all_goals
      refine splM (fun hq => ?_) (fun hq => ?_) <;> cbv
      ·have hx : sumB (f4Lay (Sum.inr (Sum.inr (Sum.inl ((((k, c, unit), es, unit), unit)))) : Form4)) ≠ b := by
        have := hsame _ _ hq
        have e1 : M.cut ag 0 (M.add 0 (M.ofN 128)) ≠ M.cut b 0 (M.add 0 (M.ofN 128)) := this
        rw [hcut ag hagl, hcut b h128] at e1
        rw [← hag]; exact e1
       refine ⟨ot31_20, (fun _ => by kernel_rfl), ?_⟩
       cbv
       repeat' (first | exact True.intro | (refine And.intro ?_ ?_))
       all_goals
        rintro -
        exact (decF_ne h128 heq hF hn hOK hx).symm
      ·have hx : sumB (f4Lay (Sum.inr (Sum.inr (Sum.inl ((((k, c, unit), es, unit), unit)))) : Form4)) = b := by
        have := hdiff _ _ hq
        have e1 : M.cut ag 0 (M.add 0 (M.ofN 128)) = M.cut b 0 (M.add 0 (M.ofN 128)) := this
        rw [hcut ag hagl, hcut b h128] at e1
        rw [← hag]; exact e1
       rintro -
       exact (decF_ok h128 heq hF hn hOK hx).symm
    ·obtain ⟨hag, rfl⟩ := h2 hOK
     clear h1 h2
     cbv
     rintro -
     exact (decF_bad h128 heq hF hn hOK).symm
   ·obtain ⟨⟨⟨k, c, ⟨⟩⟩, es, ⟨⟩⟩, ⟨⟩⟩ := f
    have hF : (Sum.inr (Sum.inr (Sum.inr (Sum.inl ((((k, c, unit), es, unit), unit))))) : Form4) = readF b := hfF
    have hn : (Sum.inr (Sum.inr (Sum.inr (Sum.inl ((((k, c, unit), es, unit), unit))))) : Form4) ≠ nilF := by unfold nilF; simp
    obtain ⟨hsz, hlen⟩ : f4Sz (Sum.inr (Sum.inr (Sum.inr (Sum.inl ((((k, c, unit), es, unit), unit))))) : Form4) ∧ (f4OK (Sum.inr (Sum.inr (Sum.inr (Sum.inl ((((k, c, unit), es, unit), unit))))) : Form4) → (sumB (f4Lay (Sum.inr (Sum.inr (Sum.inr (Sum.inl ((((k, c, unit), es, unit), unit))))) : Form4))).length = 128) := by
     rcases hgood with hg | hg
     ·exact absurd (hF.trans hg) hn
     ·rw [← hF] at hg; exact hg
    cbv
    refine ⟨fun _ => hsz, ?_⟩
    rintro ⟨(ag : List Int), (er : ErrD), ⟨⟩⟩ x9 ⟨(h1 : f4OK (Sum.inr (Sum.inr (Sum.inr (Sum.inl ((((k, c, unit), es, unit), unit))))) : Form4) → ag = sumB (f4Lay (Sum.inr (Sum.inr (Sum.inr (Sum.inl ((((k, c, unit), es, unit), unit))))) : Form4)) ∧ er = .inr ()), (h2 : ¬ f4OK (Sum.inr (Sum.inr (Sum.inr (Sum.inl ((((k, c, unit), es, unit), unit))))) : Form4) → ag = [] ∧ er = .inl (some (-1, g.form, ())))⟩ - -
    by_cases hOK : f4OK (Sum.inr (Sum.inr (Sum.inr (Sum.inl ((((k, c, unit), es, unit), unit))))) : Form4)
    ·obtain ⟨hag, rfl⟩ := h1 hOK
     have hagl : ag.length = 128 := by rw [hag]; exact hlen hOK
     clear h1 h2
     cbv
     refine ⟨ot31_19, (fun _ => by kernel_rfl), ?_⟩
     cbv
     repeat' (first | exact True.intro | (refine And.intro ?_ ?_) | ((try subst hM); (try simp only [jqn] at *); (try simp only [jqi] at *); (try simp only [real, jq1, jq2, jq3, jq4, jq5, jq6, sEq_dec, Bool.not_true, Bool.not_false, gt_iff_lt, ge_iff_le] at *); omega))
     all_goals
      refine splM (fun hq => ?_) (fun hq => ?_) <;> cbv
      ·have hx : sumB (f4Lay (Sum.inr (Sum.inr (Sum.inr (Sum.inl ((((k, c, unit), es, unit), unit))))) : Form4)) ≠ b := by
        have := hsame _ _ hq
        have e1 : M.cut ag 0 (M.add 0 (M.ofN 128)) ≠ M.cut b 0 (M.add 0 (M.ofN 128)) := this
        rw [hcut ag hagl, hcut b h128] at e1
        rw [← hag]; exact e1
       refine ⟨ot31_20, (fun _ => by kernel_rfl), ?_⟩
       cbv
       repeat' (first | exact True.intro | (refine And.intro ?_ ?_))
       all_goals
        rintro -
        exact (decF_ne h128 heq hF hn hOK hx).symm
      ·have hx : sumB (f4Lay (Sum.inr (Sum.inr (Sum.inr (Sum.inl ((((k, c, unit), es, unit), unit))))) : Form4)) = b := by
        have := hdiff _ _ hq
        have e1 : M.cut ag 0 (M.add 0 (M.ofN 128)) = M.cut b 0 (M.add 0 (M.ofN 128)) := this
        rw [hcut ag hagl, hcut b h128] at e1
        rw [← hag]; exact e1
       rintro -
       exact (decF_ok h128 heq hF hn hOK hx).symm
    ·obtain ⟨hag, rfl⟩ := h2 hOK
     clear h1 h2
     cbv
     rintro -
     exact (decF_bad h128 heq hF hn hOK).symm
   ·have hF : readF b = nilF := hfF.symm
    clear hf hfF
    cbv
    refine ⟨ot31_15, (fun _ => by kernel_rfl), ?_⟩
    cbv
    repeat' (first | exact True.intro | (refine And.intro ?_ ?_))
    all_goals
     rintro -
     exact (decF_nil h128 heq hF).symm
  have n2 : b.getD 0 0 ≠ 2 := dne 2 hk2
  refine splM (fun hk3 => ?_) (fun hk3 => ?_) <;> cbv
  ·have e3 : b.getD 0 0 = 3 := deq 3 hk3
   refine ⟨fun _ => h128, ?_⟩
   rintro ⟨(f : Form4), ⟨⟩⟩ q5 (hf : f = readTab b) - -
   have hfF : f = readF b := by rw [hf]; unfold readF; rw [if_neg (by omega), if_pos e3]
   rcases f with f | f | f | f | f
   ·obtain ⟨⟨k, c, ⟨⟩⟩, ⟨nx, rs, ⟨⟩⟩, ⟨⟩⟩ := f
    have hF : (Sum.inl (((k, c, unit), (nx, rs, unit), unit)) : Form4) = readF b := hfF
    have hn : (Sum.inl (((k, c, unit), (nx, rs, unit), unit)) : Form4) ≠ nilF := by unfold nilF; simp
    obtain ⟨hsz, hlen⟩ : f4Sz (Sum.inl (((k, c, unit), (nx, rs, unit), unit)) : Form4) ∧ (f4OK (Sum.inl (((k, c, unit), (nx, rs, unit), unit)) : Form4) → (sumB (f4Lay (Sum.inl (((k, c, unit), (nx, rs, unit), unit)) : Form4))).length = 128) := by
     rcases hgood with hg | hg
     ·exact absurd (hF.trans hg) hn
     ·rw [← hF] at hg; exact hg
    cbv
    refine ⟨fun _ => hsz, ?_⟩
    rintro ⟨(ag : List Int), (er : ErrD), ⟨⟩⟩ x9 ⟨(h1 : f4OK (Sum.inl (((k, c, unit), (nx, rs, unit), unit)) : Form4) → ag = sumB (f4Lay (Sum.inl (((k, c, unit), (nx, rs, unit), unit)) : Form4)) ∧ er = .inr ()), (h2 : ¬ f4OK (Sum.inl (((k, c, unit), (nx, rs, unit), unit)) : Form4) → ag = [] ∧ er = .inl (some (-1, g.form, ())))⟩ - -
    by_cases hOK : f4OK (Sum.inl (((k, c, unit), (nx, rs, unit), unit)) : Form4)
    ·obtain ⟨hag, rfl⟩ := h1 hOK
     have hagl : ag.length = 128 := by rw [hag]; exact hlen hOK
     clear h1 h2
     cbv
     refine ⟨ot31_19, (fun _ => by kernel_rfl), ?_⟩
     cbv
     repeat' (first | exact True.intro | (refine And.intro ?_ ?_) | ((try subst hM); (try simp only [jqn] at *); (try simp only [jqi] at *); (try simp only [real, jq1, jq2, jq3, jq4, jq5, jq6, sEq_dec, Bool.not_true, Bool.not_false, gt_iff_lt, ge_iff_le] at *); omega))
     all_goals
      refine splM (fun hq => ?_) (fun hq => ?_) <;> cbv
      ·have hx : sumB (f4Lay (Sum.inl (((k, c, unit), (nx, rs, unit), unit)) : Form4)) ≠ b := by
        have := hsame _ _ hq
        have e1 : M.cut ag 0 (M.add 0 (M.ofN 128)) ≠ M.cut b 0 (M.add 0 (M.ofN 128)) := this
        rw [hcut ag hagl, hcut b h128] at e1
        rw [← hag]; exact e1
       refine ⟨ot31_20, (fun _ => by kernel_rfl), ?_⟩
       cbv
       repeat' (first | exact True.intro | (refine And.intro ?_ ?_))
       all_goals
        rintro -
        exact (decF_ne h128 heq hF hn hOK hx).symm
      ·have hx : sumB (f4Lay (Sum.inl (((k, c, unit), (nx, rs, unit), unit)) : Form4)) = b := by
        have := hdiff _ _ hq
        have e1 : M.cut ag 0 (M.add 0 (M.ofN 128)) = M.cut b 0 (M.add 0 (M.ofN 128)) := this
        rw [hcut ag hagl, hcut b h128] at e1
        rw [← hag]; exact e1
       rintro -
       exact (decF_ok h128 heq hF hn hOK hx).symm
    ·obtain ⟨hag, rfl⟩ := h2 hOK
     clear h1 h2
     cbv
     rintro -
     exact (decF_bad h128 heq hF hn hOK).symm
   ·(exfalso; unfold readTab nilF at hf; split at hf <;> cases hf; done)
   ·(exfalso; unfold readTab nilF at hf; split at hf <;> cases hf; done)
   ·(exfalso; unfold readTab nilF at hf; split at hf <;> cases hf; done)
   ·have hF : readF b = nilF := hfF.symm
    clear hf hfF
    cbv
    refine ⟨ot31_15, (fun _ => by kernel_rfl), ?_⟩
    cbv
    repeat' (first | exact True.intro | (refine And.intro ?_ ?_))
    all_goals
     rintro -
     exact (decF_nil h128 heq hF).symm
  have n3 : b.getD 0 0 ≠ 3 := dne 3 hk3
  refine splM (fun hk4 => ?_) (fun hk4 => ?_) <;> cbv
  ·have e4 : b.getD 0 0 = 4 := deq 4 hk4
   refine ⟨fun _ => h128, ?_⟩
   rintro ⟨(f : Form4), ⟨⟩⟩ q5 (hf : f = readSup b) - -
   have hfF : f = readF b := by rw [hf]; unfold readF; rw [if_neg (by omega), if_neg n3, if_pos e4]
   rcases f with f | f | f | f | f
   ·(exfalso; unfold readSup nilF at hf; split at hf <;> cases hf; done)
   ·obtain ⟨⟨k, c, ⟨⟩⟩, ⟨bl, ge, ne, ta, rs, ⟨⟩⟩, ⟨⟩⟩ := f
    have hF : (Sum.inr (Sum.inl (((k, c, unit), (bl, ge, ne, ta, rs, unit), unit))) : Form4) = readF b := hfF
    have hn : (Sum.inr (Sum.inl (((k, c, unit), (bl, ge, ne, ta, rs, unit), unit))) : Form4) ≠ nilF := by unfold nilF; simp
    obtain ⟨hsz, hlen⟩ : f4Sz (Sum.inr (Sum.inl (((k, c, unit), (bl, ge, ne, ta, rs, unit), unit))) : Form4) ∧ (f4OK (Sum.inr (Sum.inl (((k, c, unit), (bl, ge, ne, ta, rs, unit), unit))) : Form4) → (sumB (f4Lay (Sum.inr (Sum.inl (((k, c, unit), (bl, ge, ne, ta, rs, unit), unit))) : Form4))).length = 128) := by
     rcases hgood with hg | hg
     ·exact absurd (hF.trans hg) hn
     ·rw [← hF] at hg; exact hg
    cbv
    refine ⟨fun _ => hsz, ?_⟩
    rintro ⟨(ag : List Int), (er : ErrD), ⟨⟩⟩ x9 ⟨(h1 : f4OK (Sum.inr (Sum.inl (((k, c, unit), (bl, ge, ne, ta, rs, unit), unit))) : Form4) → ag = sumB (f4Lay (Sum.inr (Sum.inl (((k, c, unit), (bl, ge, ne, ta, rs, unit), unit))) : Form4)) ∧ er = .inr ()), (h2 : ¬ f4OK (Sum.inr (Sum.inl (((k, c, unit), (bl, ge, ne, ta, rs, unit), unit))) : Form4) → ag = [] ∧ er = .inl (some (-1, g.form, ())))⟩ - -
    by_cases hOK : f4OK (Sum.inr (Sum.inl (((k, c, unit), (bl, ge, ne, ta, rs, unit), unit))) : Form4)
    ·obtain ⟨hag, rfl⟩ := h1 hOK
     have hagl : ag.length = 128 := by rw [hag]; exact hlen hOK
     clear h1 h2
     cbv
     refine ⟨ot31_19, (fun _ => by kernel_rfl), ?_⟩
     cbv
     repeat' (first | exact True.intro | (refine And.intro ?_ ?_) | ((try subst hM); (try simp only [jqn] at *); (try simp only [jqi] at *); (try simp only [real, jq1, jq2, jq3, jq4, jq5, jq6, sEq_dec, Bool.not_true, Bool.not_false, gt_iff_lt, ge_iff_le] at *); omega))
     all_goals
      refine splM (fun hq => ?_) (fun hq => ?_) <;> cbv
      ·have hx : sumB (f4Lay (Sum.inr (Sum.inl (((k, c, unit), (bl, ge, ne, ta, rs, unit), unit))) : Form4)) ≠ b := by
        have := hsame _ _ hq
        have e1 : M.cut ag 0 (M.add 0 (M.ofN 128)) ≠ M.cut b 0 (M.add 0 (M.ofN 128)) := this
        rw [hcut ag hagl, hcut b h128] at e1
        rw [← hag]; exact e1
       refine ⟨ot31_20, (fun _ => by kernel_rfl), ?_⟩
       cbv
       repeat' (first | exact True.intro | (refine And.intro ?_ ?_))
       all_goals
        rintro -
        exact (decF_ne h128 heq hF hn hOK hx).symm
      ·have hx : sumB (f4Lay (Sum.inr (Sum.inl (((k, c, unit), (bl, ge, ne, ta, rs, unit), unit))) : Form4)) = b := by
        have := hdiff _ _ hq
        have e1 : M.cut ag 0 (M.add 0 (M.ofN 128)) = M.cut b 0 (M.add 0 (M.ofN 128)) := this
        rw [hcut ag hagl, hcut b h128] at e1
        rw [← hag]; exact e1
       rintro -
       exact (decF_ok h128 heq hF hn hOK hx).symm
    ·obtain ⟨hag, rfl⟩ := h2 hOK
     clear h1 h2
     cbv
     rintro -
     exact (decF_bad h128 heq hF hn hOK).symm
   ·(exfalso; unfold readSup nilF at hf; split at hf <;> cases hf; done)
   ·(exfalso; unfold readSup nilF at hf; split at hf <;> cases hf; done)
   ·have hF : readF b = nilF := hfF.symm
    clear hf hfF
    cbv
    refine ⟨ot31_15, (fun _ => by kernel_rfl), ?_⟩
    cbv
    repeat' (first | exact True.intro | (refine And.intro ?_ ?_))
    all_goals
     rintro -
     exact (decF_nil h128 heq hF).symm
  have n4 : b.getD 0 0 ≠ 4 := dne 4 hk4
  have hF : readF b = nilF := by unfold readF; rw [if_neg (by omega), if_neg n3, if_neg n4]
  refine ⟨ot31_15, (fun _ => by kernel_rfl), ?_⟩
  cbv
  repeat' (first | exact True.intro | (refine And.intro ?_ ?_))
  all_goals
   rintro -
   exact (decF_nil h128 heq hF).symm
end Go.Proofs.YtmjeghlfmhbjdaaDoor.EngTab
