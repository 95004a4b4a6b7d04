/- Contracts: sound leaves and inner nodes. -/
import Derived.Test.YtmjeghlfmhbjdaaDoorT1
namespace Go.Proofs.YtmjeghlfmhbjdaaDoor.EngTab
open Go.Proofs.YtmjeghlfmhbjdaaDoor.Eng
set_option maxRecDepth 100000
set_option linter.unusedVariables false
set_option linter.unusedSimpArgs false
abbrev tyEnt : Ty := .pair .str (.pair .str (.pair (.int .i64) .unit))
abbrev tyNF : Ty := .pair tyHdr (.pair (.sl tyEnt) .unit)
abbrev tyLF : Ty := .pair tyNF .unit
abbrev EntD : Type := ByteArray × ByteArray × Int × Unit
def keyLt (a b : ByteArray) : Bool := Op.bytesLess a.toList b.toList
theorem keyLt_eq (a b : ByteArray) : Op.bytesLess a.toList b.toList = keyLt a b := rfl
def entAt (es : List EntD) (i : Nat) : EntD := es.getD i (ByteArray.empty, ByteArray.empty, 0, ())
def ascOK (es : List EntD) (i : Nat) : Prop := (entAt es i).1.size ≤ 12 ∧ (0 < i → keyLt (entAt es (i - 1)).1 (entAt es i).1 = true)
def ascR (es : List EntD) : Prop := ∀ i, i < es.length → ascOK es i
def c85 : Con := Con.of ⟨[(false, 0, .sl tyEnt)], [(0, .bool)], fun x => x.1.length ≤ 1048576, fun x y _ => (y.1 = true ↔ ascR x.1)⟩
theorem ok85 : FnOK Tryd.prog 85 c85 := by
  refine FnOK.of_vc mixed tabOk .nil Tryd.func85 rfl (by decide) lv85 hd85 ?_
  rintro ⟨(es : List EntD), ⟨⟩⟩ (hl : es.length ≤ 1048576) hwf
  generalize hM : real = M
  cbv
  refine ⟨fun m Γ => ∃ (i : Nat) (j : Int), j = i ∧ i ≤ es.length ∧ (∀ k, k < i → ascOK es k) ∧ m = es.length - i ∧ Γ = ⟨32, [(0, .pv [] (.sl tyEnt) es), (5, .pv [] (.sl tyEnt) es), (6, .pv [] (.int .i64) (M.ofN (M.len es))), (7, .pv [] (.int .i64) j)], [], [.hole 0]⟩, ⟨_, 0, 0, rfl, Nat.zero_le _, by omega, rfl, rfl⟩, ?_⟩
  rintro m _ ⟨i, j, hj, hi, hx, rfl, rfl⟩ -
  cbv
  refine splM (fun h => ?_) (fun h => ?_) <;> cbv
  · have hin : i < es.length := by
      (try subst hM); (try simp only [jqn] at *); (try simp only [jqi] at *); (try simp only [real, jq1, jq2, jq3, jq4, jq5, jq6, sEq_dec, Bool.not_true, Bool.not_false, gt_iff_lt, ge_iff_le] at *)
      omega
    (try simp only [jqn] at hi hj); (try simp only [jqi] at hi hj)
    have hji : j.toNat = i := by rw [hj]; simp
    refine ⟨by (try subst hM); (try simp only [jqn] at *); (try simp only [jqi] at *); (try simp only [real, jq1, jq2, jq3, jq4, jq5, jq6, sEq_dec, Bool.not_true, Bool.not_false, gt_iff_lt, ge_iff_le] at *); omega, by (try subst hM); (try simp only [jqn] at *); (try simp only [jqi] at *); (try simp only [real, jq1, jq2, jq3, jq4, jq5, jq6, sEq_dec, Bool.not_true, Bool.not_false, gt_iff_lt, ge_iff_le] at *); omega, ?_⟩
    have e1 : 0 < i → IntKind.wrap .i64 (j - 1) = ((i - 1 : Nat) : Int) := fun hi0 => by rw [hj, w64 (by omega)]; omega
    have e0 : es.getD j.toNat (⟨#[]⟩, ⟨#[]⟩, 0, PUnit.unit) = entAt es i := by rw [hji]; rfl
    have ep : es.getD (((i - 1 : Nat) : Int)).toNat (⟨#[]⟩, ⟨#[]⟩, 0, PUnit.unit) = entAt es (i - 1) := by rw [Int.toNat_natCast]; rfl
    have bad : ¬ ascOK es i → ((false = true) ↔ ascR es) := fun hb => ⟨fun e => (by cases e), fun ho => absurd (ho i hin) hb⟩
    have good : ascOK es i → ∀ k, k < i + 1 → ascOK es k := fun hs k hk => by
      by_cases hk2 : k < i
      · exact hx k hk2
      · have : k = i := by omega
        subst this
        exact hs
    repeat' (first | (refine splM (fun h => ?_) (fun h => ?_) <;> cbv) | (refine And.intro (fun _ => by first | exact drawRd rfl (by decide +kernel) | exact drawTail (by decide +kernel)) ?_; cbv) | (refine And.intro (by (try subst hM); (try simp only [jqn] at *); (try simp only [jqi] at *); (try simp only [real, jq1, jq2, jq3, jq4, jq5, jq6, sEq_dec, Bool.not_true, Bool.not_false, gt_iff_lt, ge_iff_le] at *); (try rw [e1 (by omega)]); omega) ?_; cbv))
    all_goals first
      | (rintro -; refine bad (fun hs => ?_); obtain ⟨s1, s2⟩ := hs; (try subst hM); (try simp only [jqn] at *); (try simp only [jqi] at *); (try simp only [real, jq1, jq2, jq3, jq4, jq5, jq6, sEq_dec, Bool.not_true, Bool.not_false, gt_iff_lt, ge_iff_le] at *); simp only [e0] at *; omega)
      | (rintro -; refine bad (fun hs => ?_); obtain ⟨s1, s2⟩ := hs; (try subst hM); (try simp only [jqn] at *); (try simp only [jqi] at *); (try simp only [real, jq1, jq2, jq3, jq4, jq5, jq6, sEq_dec, Bool.not_true, Bool.not_false, gt_iff_lt, ge_iff_le] at *); have hi0 : 0 < i := by omega
         have s6 := s2 hi0; simp only [e0, e1 hi0, ep, keyLt_eq] at *; simp_all)
      | (refine ⟨es.length - (i + 1), by omega, i + 1, _, ?_, hin, good ?_, rfl, rfl⟩
         · (try subst hM); (try simp only [jqn] at *); (try simp only [jqi] at *); (try simp only [real, jq1, jq2, jq3, jq4, jq5, jq6, sEq_dec, Bool.not_true, Bool.not_false, gt_iff_lt, ge_iff_le] at *)
           rw [hj, w64 (by omega)]; omega
         · (try subst hM); (try simp only [jqn] at *); (try simp only [jqi] at *); (try simp only [real, jq1, jq2, jq3, jq4, jq5, jq6, sEq_dec, Bool.not_true, Bool.not_false, gt_iff_lt, ge_iff_le] at *)
           refine ⟨?_, fun hi0 => ?_⟩
           · simp only [e0] at *; omega
           · first | omega | (simp only [e0, e1 hi0, ep, keyLt_eq] at *; simp_all))
  · rintro -
    (try subst hM); (try simp only [jqn] at *); (try simp only [jqi] at *); (try simp only [real, jq1, jq2, jq3, jq4, jq5, jq6, sEq_dec, Bool.not_true, Bool.not_false, gt_iff_lt, ge_iff_le] at *)
    have : i = es.length := by omega
    subst this
    exact ⟨fun _ => hx, fun _ => rfl⟩
def leafOK (es : List EntD) : Prop := es.length ≤ 5 ∧ (∀ i, i < es.length → (entAt es i).2.2.1 = 0 ∧ (entAt es i).2.1.size ≤ 10) ∧ ascR es
def c84 : Con := Con.of ⟨[(false, 0, tyLF)], [(0, .bool)], fun x => x.1.1.2.1.length ≤ 1048576, fun x y _ => (y.1 = true ↔ leafOK x.1.1.2.1)⟩
theorem ok84 : FnOK Tryd.prog 84 c84 := by
  refine FnOK.of_vc mixed tabOk (.cons en85 ok85 .nil) Tryd.func84 rfl (by decide) lv84 hd84 ?_
  rintro ⟨⟨⟨⟨(k : Int), (c : Int), ⟨⟩⟩, (es : List EntD), ⟨⟩⟩, ⟨⟩⟩, ⟨⟩⟩ (hl : es.length ≤ 1048576) hwf
  generalize hM : real = M
  cbv
  have nlen : ¬ leafOK es → (false = true ↔ leafOK es) := fun hn => ⟨fun e => (by cases e), fun ho => absurd ho hn⟩
  refine splM (fun h => ?_) (fun h => ?_) <;> cbv
  · rintro -
    (try subst hM); (try simp only [jqn] at *); (try simp only [jqi] at *); (try simp only [real, jq1, jq2, jq3, jq4, jq5, jq6, sEq_dec, Bool.not_true, Bool.not_false, gt_iff_lt, ge_iff_le] at *)
    exact nlen (fun ho => by have := ho.1; omega)
  have hl5 : es.length ≤ 5 := by
    (try subst hM); (try simp only [jqn] at *); (try simp only [jqi] at *); (try simp only [real, jq1, jq2, jq3, jq4, jq5, jq6, sEq_dec, Bool.not_true, Bool.not_false, gt_iff_lt, ge_iff_le] at *)
    omega
  refine ⟨fun m Γ => ∃ (i : Nat) (j : Int), j = i ∧ i ≤ es.length ∧ (∀ k, k < i → (entAt es k).2.2.1 = 0 ∧ (entAt es k).2.1.size ≤ 10) ∧ m = es.length - i ∧ Γ = ⟨32, [(1, .ad 0 tyLF 0 []), (12, .pv [] (.sl tyEnt) es), (13, .pv [] (.int .i64) (M.ofN (M.len es))), (14, .pv [] (.int .i64) j)], [(0, .box (.consA (.consA (.consA (.pv [] (.int .i64) k) (.consA (.pv [] (.int .i64) c) .nilA)) (.consA (.pv [] (.sl tyEnt) es) .nilA)) .nilA))], [.hole 0]⟩, ⟨_, 0, 0, rfl, Nat.zero_le _, by omega, rfl, rfl⟩, ?_⟩
  rintro m _ ⟨i, j, hj, hi, hx, rfl, rfl⟩ -
  cbv
  refine splM (fun h => ?_) (fun h => ?_) <;> cbv
  · have hin : i < es.length := by
      (try subst hM); (try simp only [jqn] at *); (try simp only [jqi] at *); (try simp only [real, jq1, jq2, jq3, jq4, jq5, jq6, sEq_dec, Bool.not_true, Bool.not_false, gt_iff_lt, ge_iff_le] at *)
      omega
    (try simp only [jqn] at hi hj); (try simp only [jqi] at hi hj)
    have hji : j.toNat = i := by rw [hj]; simp
    have e0 : es.getD j.toNat (⟨#[]⟩, ⟨#[]⟩, 0, PUnit.unit) = entAt es i := by rw [hji]; rfl
    repeat' (first | (refine splM (fun h => ?_) (fun h => ?_) <;> cbv) | (refine And.intro (fun _ => by first | exact drawRd rfl (by decide +kernel) | exact drawTail (by decide +kernel)) ?_; cbv) | (refine And.intro (by (try subst hM); (try simp only [jqn] at *); (try simp only [jqi] at *); (try simp only [real, jq1, jq2, jq3, jq4, jq5, jq6, sEq_dec, Bool.not_true, Bool.not_false, gt_iff_lt, ge_iff_le] at *); omega) ?_; cbv))
    all_goals first
      | (rintro -; refine nlen (fun ho => ?_); have hs := ho.2.1 i hin; (try subst hM); (try simp only [jqn] at *); (try simp only [jqi] at *); (try simp only [real, jq1, jq2, jq3, jq4, jq5, jq6, sEq_dec, Bool.not_true, Bool.not_false, gt_iff_lt, ge_iff_le] at *); simp only [e0, sEq_dec, size_nil, decide_eq_true_eq, decide_eq_false_iff_not] at *; omega)
      | (refine ⟨es.length - (i + 1), by omega, i + 1, _, ?_, hin, fun k' hk => ?_, rfl, rfl⟩
         · (try subst hM); (try simp only [jqn] at *); (try simp only [jqi] at *); (try simp only [real, jq1, jq2, jq3, jq4, jq5, jq6, sEq_dec, Bool.not_true, Bool.not_false, gt_iff_lt, ge_iff_le] at *)
           rw [hj, w64 (by omega)]; omega
         · by_cases hk2 : k' < i
           · exact hx k' hk2
           · have : k' = i := by omega
             subst this
             (try subst hM); (try simp only [jqn] at *); (try simp only [jqi] at *); (try simp only [real, jq1, jq2, jq3, jq4, jq5, jq6, sEq_dec, Bool.not_true, Bool.not_false, gt_iff_lt, ge_iff_le] at *)
             simp only [e0, sEq_dec, size_nil, decide_eq_true_eq, decide_eq_false_iff_not] at *
             omega)
  · have : i = es.length := by
      (try subst hM); (try simp only [jqn] at *); (try simp only [jqi] at *); (try simp only [real, jq1, jq2, jq3, jq4, jq5, jq6, sEq_dec, Bool.not_true, Bool.not_false, gt_iff_lt, ge_iff_le] at *)
      omega
    subst this
    refine ⟨fun _ => hl, ?_⟩
    rintro ⟨(y : Bool), ⟨⟩⟩ x' (hy : y = true ↔ ascR es) - -
    cbv
    rintro -
    show (y = true) ↔ leafOK es
    rw [hy]
    exact ⟨fun ho => ⟨hl5, hx, ho⟩, fun ho => ho.2.2⟩
def innerOK (es : List EntD) : Prop := 2 ≤ es.length ∧ es.length ≤ 5 ∧ (∀ i, i < es.length → (entAt es i).2.1.size = 0 ∧ 2 ≤ (entAt es i).2.2.1 ∧ (entAt es i).2.2.1 < 512) ∧ ascR es
def c87 : Con := Con.of ⟨[(false, 0, tyLF)], [(0, .bool)], fun x => x.1.1.2.1.length ≤ 1048576, fun x y _ => (y.1 = true ↔ innerOK x.1.1.2.1)⟩
theorem ok87 : FnOK Tryd.prog 87 c87 := by
  refine FnOK.of_vc mixed tabOk (.cons en85 ok85 .nil) Tryd.func87 rfl (by decide) lv87 hd87 ?_
  rintro ⟨⟨⟨⟨(k : Int), (c : Int), ⟨⟩⟩, (es : List EntD), ⟨⟩⟩, ⟨⟩⟩, ⟨⟩⟩ (hl : es.length ≤ 1048576) hwf
  generalize hM : real = M
  cbv
  have nlen : ¬ innerOK es → (false = true ↔ innerOK es) := fun hn => ⟨fun e => (by cases e), fun ho => absurd ho hn⟩
  repeat' (refine splM (fun h => ?_) (fun h => ?_) <;> cbv)
  all_goals first
    | (rintro -; (try subst hM); (try simp only [jqn] at *); (try simp only [jqi] at *); (try simp only [real, jq1, jq2, jq3, jq4, jq5, jq6, sEq_dec, Bool.not_true, Bool.not_false, gt_iff_lt, ge_iff_le] at *); exact nlen (fun ho => by have := ho.1; have := ho.2.1; omega))
    | skip
  have hl5 : 2 ≤ es.length ∧ es.length ≤ 5 := by
    (try subst hM); (try simp only [jqn] at *); (try simp only [jqi] at *); (try simp only [real, jq1, jq2, jq3, jq4, jq5, jq6, sEq_dec, Bool.not_true, Bool.not_false, gt_iff_lt, ge_iff_le] at *)
    omega
  refine ⟨fun m Γ => ∃ (i : Nat) (j : Int), j = i ∧ i ≤ es.length ∧ (∀ k, k < i → (entAt es k).2.1.size = 0 ∧ 2 ≤ (entAt es k).2.2.1 ∧ (entAt es k).2.2.1 < 512) ∧ m = es.length - i ∧ Γ = ⟨43, [(1, .ad 0 tyLF 0 []), (19, .pv [] (.sl tyEnt) es), (20, .pv [] (.int .i64) (M.ofN (M.len es))), (21, .pv [] (.int .i64) j)], [(0, .box (.consA (.consA (.consA (.pv [] (.int .i64) k) (.consA (.pv [] (.int .i64) c) .nilA)) (.consA (.pv [] (.sl tyEnt) es) .nilA)) .nilA))], [.hole 0]⟩, ⟨_, 0, 0, rfl, Nat.zero_le _, by omega, rfl, rfl⟩, ?_⟩
  rintro m _ ⟨i, j, hj, hi, hx, rfl, rfl⟩ -
  cbv
  refine splM (fun h => ?_) (fun h => ?_) <;> cbv
  · have hin : i < es.length := by
      (try subst hM); (try simp only [jqn] at *); (try simp only [jqi] at *); (try simp only [real, jq1, jq2, jq3, jq4, jq5, jq6, sEq_dec, Bool.not_true, Bool.not_false, gt_iff_lt, ge_iff_le] at *)
      omega
    (try simp only [jqn] at hi hj); (try simp only [jqi] at hi hj)
    have hji : j.toNat = i := by rw [hj]; simp
    have e0 : es.getD j.toNat (⟨#[]⟩, ⟨#[]⟩, 0, PUnit.unit) = entAt es i := by rw [hji]; rfl
    repeat' (first | (refine splM (fun h => ?_) (fun h => ?_) <;> cbv) | (refine And.intro (fun _ => by first | exact drawRd rfl (by decide +kernel) | exact drawTail (by decide +kernel)) ?_; cbv) | (refine And.intro (by (try subst hM); (try simp only [jqn] at *); (try simp only [jqi] at *); (try simp only [real, jq1, jq2, jq3, jq4, jq5, jq6, sEq_dec, Bool.not_true, Bool.not_false, gt_iff_lt, ge_iff_le] at *); omega) ?_; cbv))
    all_goals first
      | (rintro -; refine nlen (fun ho => ?_); have hs := ho.2.2.1 i hin; (try subst hM); (try simp only [jqn] at *); (try simp only [jqi] at *); (try simp only [real, jq1, jq2, jq3, jq4, jq5, jq6, sEq_dec, Bool.not_true, Bool.not_false, gt_iff_lt, ge_iff_le] at *); simp only [e0, sEq_dec, size_nil, decide_eq_true_eq, decide_eq_false_iff_not] at *; omega)
      | (refine ⟨es.length - (i + 1), by omega, i + 1, _, ?_, hin, fun k' hk => ?_, rfl, rfl⟩
         · (try subst hM); (try simp only [jqn] at *); (try simp only [jqi] at *); (try simp only [real, jq1, jq2, jq3, jq4, jq5, jq6, sEq_dec, Bool.not_true, Bool.not_false, gt_iff_lt, ge_iff_le] at *)
           rw [hj, w64 (by omega)]; omega
         · by_cases hk2 : k' < i
           · exact hx k' hk2
           · have : k' = i := by omega
             subst this
             (try subst hM); (try simp only [jqn] at *); (try simp only [jqi] at *); (try simp only [real, jq1, jq2, jq3, jq4, jq5, jq6, sEq_dec, Bool.not_true, Bool.not_false, gt_iff_lt, ge_iff_le] at *)
             simp only [e0, sEq_dec, size_nil, decide_eq_true_eq, decide_eq_false_iff_not] at *
             omega)
  · have : i = es.length := by
      (try subst hM); (try simp only [jqn] at *); (try simp only [jqi] at *); (try simp only [real, jq1, jq2, jq3, jq4, jq5, jq6, sEq_dec, Bool.not_true, Bool.not_false, gt_iff_lt, ge_iff_le] at *)
      omega
    subst this
    refine ⟨fun _ => hl, ?_⟩
    rintro ⟨(y : Bool), ⟨⟩⟩ x' (hy : y = true ↔ ascR es) - -
    cbv
    rintro -
    show (y = true) ↔ innerOK es
    rw [hy]
    exact ⟨fun ho => ⟨hl5.1, hl5.2, hx, ho⟩, fun ho => ho.2.2.2⟩
end Go.Proofs.YtmjeghlfmhbjdaaDoor.EngTab
