/- The law FnExactDecodeNode: its helpers. -/
import Derived.Test.YtegbadccjidfjaaDoorNM
namespace Go.Proofs.YtegbadccjidfjaaDoor.EngTab
open Go.Proofs.YtegbadccjidfjaaDoor.Eng
set_option maxRecDepth 100000
set_option linter.unusedVariables false
set_option linter.unusedSimpArgs false
theorem sNe (a : ByteArray) : real.not (real.sEq a a) = false := by
  show (!(a.toList == a.toList)) = false
  rw [Eng.sEq_dec]
  simp
theorem nEq (x : Int) : real.not (real.dec (real.eq x x)) = false := by rw [dec_iff.2 (show real.eq x x from rfl)]; rfl
abbrev zE : EntD := (⟨#[]⟩, ⟨#[]⟩, 0, PUnit.unit)
def c77 : Con := Con.of ⟨[(false, 0, .sl tyEnt), (false, 0, .int .i64)], [(0, .int .i64)], fun x => x.1.length ≤ 1048576 ∧ 1 ≤ x.2.1 ∧ x.2.1 ≤ 1048576, fun x y _ => x.1 = markE x.2.1.toNat x.1.length → y.1 = x.2.1 + 3 * x.1.length⟩
set_option maxHeartbeats 4000000 in
theorem ok77 : FnOK Tryd.prog 77 c77 := by
  refine FnOK.of_vc mixed tabOk (.cons en106 ok106 .nil) Tryd.func77 rfl (by decide) lv77 hd77 ?_
  rintro ⟨(xs : List EntD), (k : Int), ⟨⟩⟩ ⟨(hl : xs.length ≤ 1048576), (h0 : 1 ≤ k), (h1 : k ≤ 1048576)⟩ hwf
  generalize hM : real = M
  cbv
  refine ⟨fun m Γ => ∃ (i : Nat) (j q : Int), j = i ∧ i ≤ xs.length ∧ q = k + 3 * i ∧ m = xs.length - i ∧ Γ = ⟨42, [(0, .pv [] (.sl tyEnt) xs), (1, .pv [] (.int .i64) q), (5, .pv [] (.int .i64) j)], [], [.hole 0, .hole 0]⟩, ⟨_, 0, 0, k, rfl, Nat.zero_le _, by simp, rfl, rfl⟩, ?_⟩
  rintro m _ ⟨i, j, q, hj, hi, hq, rfl, rfl⟩ -
  cbv
  refine splM (fun h2 => ?_) (fun h2 => ?_) <;> cbv
  · have hin : i < xs.length := by
      (try subst hM); (try simp only [Eng.ncast] at *); (try simp only [Eng.nI_eq] at *); (try simp only [Eng.real, decide_eq_true_eq, decide_eq_false_iff_not, Bool.not_eq_true', Bool.not_eq_false', Bool.and_eq_true, Bool.or_eq_true, Eng.sEq_dec, Bool.not_true, Bool.not_false, gt_iff_lt, ge_iff_le] at *)
      omega
    (try simp only [Eng.ncast] at hi hj hq); (try simp only [Eng.nI_eq] at hi hj hq)
    have hji : j.toNat = i := by rw [hj]; simp
    have hgt : xs = markE k.toNat xs.length → xs.getD j.toNat zE = mkE (k.toNat + 3 * i) := fun e => by
      rw [hji, List.getD_eq_getElem?_getD, e, markE_get k.toNat hin]
      rfl
    have bad : ∀ z : Int, (xs = markE k.toNat xs.length → False) → (xs = markE k.toNat xs.length → z = k + 3 * xs.length) := fun z h e => (h e).elim
    have hq1 : IntKind.wrap .i64 (q + 1) = q + 1 := w64 (by omega)
    have hq2 : IntKind.wrap .i64 (q + 1 + 1) = q + 2 := by rw [w64 (by omega)]; omega
    have hq3 : IntKind.wrap .i64 (q + 2 + 1) = k + 3 * ((i + 1 : Nat) : Int) := by rw [w64 (by omega)]; omega
    have hj1 : IntKind.wrap .i64 (j + 1) = ((i + 1 : Nat) : Int) := by rw [hj, w64 (by omega)]; omega
    have hlen : xs.length - (i + 1) < xs.length - i := by omega
    have hqb : 1 ≤ q ∧ q ≤ 100000000 := by omega
    have hqb1 : 1 ≤ q + 1 ∧ q + 1 ≤ 100000000 := by omega
    have hqn : q.toNat = k.toNat + 3 * i := by omega
    have hqn1 : (q + 1).toNat = k.toNat + 3 * i + 1 := by omega
    have hqn2 : q + 2 = ((k.toNat + 3 * i + 2 : Nat) : Int) := by omega
    have hjy : 0 ≤ j ∧ j < (xs.length : Int) := by omega
    clear hq hj h2
    refine ⟨ot77_4, (fun _ => by kernel_rfl), ?_⟩
    cbv
    repeat' (first
      | exact True.intro
      | (refine And.intro ?_ True.intro)
      | (fail_if_success have := ht1
         refine And.intro (fun _ => hqb) ?_
         rintro ⟨(t1 : ByteArray), ⟨⟩⟩ x1 (ht1 : t1 = mkT q.toNat) - -
         cbv)
      | (refine And.intro (by subst hM; exact hjy.1) ?_)
      | (refine And.intro (by subst hM; exact hjy.2) ?_)
      | (refine And.intro ?_ ?_))
    all_goals
      refine splM (fun h3 => ?_) (fun h3 => ?_) <;> cbv
      · rintro -
        refine bad _ (fun e => ?_)
        have g := hgt e
        subst hM
        have h4 : real.not (real.sEq (xs.getD j.toNat zE).1 t1) = true := h3
        rw [g, ht1, hqn] at h4
        exact absurd (h4.symm.trans (sNe _)) (by decide)
      clear h3
      refine ⟨ot77_7, (fun _ => by kernel_rfl), ?_⟩
      cbv
      repeat' (first
        | exact True.intro
        | (refine And.intro ?_ True.intro)
        | (fail_if_success have := ht2
           refine And.intro (fun _ => by subst hM; show 1 ≤ IntKind.wrap .i64 (q + 1) ∧ IntKind.wrap .i64 (q + 1) ≤ 100000000; rw [hq1]; exact hqb1) ?_
           rintro ⟨(t2 : ByteArray), ⟨⟩⟩ x2 ht2 - -
           cbv)
        | (refine And.intro (by subst hM; exact hjy.1) ?_)
        | (refine And.intro (by subst hM; exact hjy.2) ?_)
        | (refine And.intro ?_ ?_))
      all_goals
        have ht3 : t2 = mkT (q + 1).toNat := by
          subst hM
          have : t2 = mkT (IntKind.wrap .i64 (q + 1)).toNat := ht2
          rw [this, hq1]
        refine splM (fun h3 => ?_) (fun h3 => ?_) <;> cbv
        · rintro -
          refine bad _ (fun e => ?_)
          have g := hgt e
          subst hM
          have h4 : real.not (real.sEq (xs.getD j.toNat zE).2.1 t2) = true := h3
          rw [g, ht3, hqn1] at h4
          exact absurd (h4.symm.trans (sNe _)) (by decide)
        clear h3
        refine ⟨by subst hM; exact hjy.1, by subst hM; exact hjy.2, ?_⟩
        refine splM (fun h3 => ?_) (fun h3 => ?_) <;> cbv
        · rintro -
          refine bad _ (fun e => ?_)
          have g := hgt e
          subst hM
          have h4 : real.not (real.dec (real.eq (xs.getD j.toNat zE).2.2.1 (IntKind.wrap .i64 (IntKind.wrap .i64 (q + 1) + 1)))) = true := h3
          rw [g, hq1, hq2, hqn2] at h4
          have e5 : (mkE (k.toNat + 3 * i)).2.2.1 = ((k.toNat + 3 * i + 2 : Nat) : Int) := rfl
          rw [e5] at h4
          exact absurd (h4.symm.trans (nEq _)) (by decide)
        clear h3
        refine ⟨xs.length - (i + 1), hlen, i + 1, _, _, ?_, hin, ?_, rfl, rfl⟩
        · subst hM; exact hj1
        · subst hM
          show IntKind.wrap .i64 (IntKind.wrap .i64 (IntKind.wrap .i64 (q + 1) + 1) + 1) = k + 3 * ((i + 1 : Nat) : Int)
          rw [hq1, hq2, hq3]
  · rintro - -
    have : i = xs.length := by
      (try subst hM); (try simp only [Eng.ncast] at *); (try simp only [Eng.nI_eq] at *); (try simp only [Eng.real, decide_eq_true_eq, decide_eq_false_iff_not, Bool.not_eq_true', Bool.not_eq_false', Bool.and_eq_true, Bool.or_eq_true, Eng.sEq_dec, Bool.not_true, Bool.not_false, gt_iff_lt, ge_iff_le] at *)
      omega
    subst this
    exact hq
def c41 : Con := Con.of ⟨[(false, 0, tyNode), (false, 0, .int .i64)], [(0, .int .i64)], fun x => x.1.2.1.length ≤ 1048576 ∧ 1 ≤ x.2.1 ∧ x.2.1 ≤ 1048576, fun x y _ => x.1.2.1 = markE x.2.1.toNat x.1.2.1.length → y.1 = x.2.1 + 3 * x.1.2.1.length⟩
theorem ok41 : FnOK Tryd.prog 41 c41 := by
  refine FnOK.of_vc mixed tabOk (.cons en77 ok77 .nil) Tryd.func41 rfl (by decide) lv41 hd41 ?_
  rintro ⟨⟨(kind : Int), (xs : List EntD), ⟨⟩⟩, (k : Int), ⟨⟩⟩ ⟨(hl : xs.length ≤ 1048576), (h0 : 1 ≤ k), (h1 : k ≤ 1048576)⟩ hwf
  generalize hM : real = M
  cbv
  refine ⟨fun _ => ⟨hl, h0, h1⟩, ?_⟩
  rintro ⟨(y : Int), ⟨⟩⟩ x' (hy : xs = markE k.toNat xs.length → y = k + 3 * xs.length) - -
  cbv
  refine splM (fun h => ?_) (fun h => ?_) <;> cbv
  · rintro -
    show xs = markE k.toNat xs.length → _
    intro e
    exfalso
    have := hy e
    (try subst hM); (try simp only [Eng.ncast] at *); (try simp only [Eng.nI_eq] at *); (try simp only [Eng.real, decide_eq_true_eq, decide_eq_false_iff_not, Bool.not_eq_true', Bool.not_eq_false', Bool.and_eq_true, Bool.or_eq_true, Eng.sEq_dec, Bool.not_true, Bool.not_false, gt_iff_lt, ge_iff_le] at *)
    omega
  · exact fun _ => hy
end Go.Proofs.YtegbadccjidfjaaDoor.EngTab
