/- For every device, every list of steps and every count, the program's DevApply returns what the reference's returns. -/
import Derived.Test.YtbimmmmjdimebaaRows
import Derived.Test.YtbimmmmjdimebaaHFnExactDevApply
import Derived.Test.YtbimmmmjdimebaaPureFnExactDevApply
import Derived.Test.YtbimmmmjdimebaaRead
import Derived.WalkKit
import Derived.ProofKit
import Derived.OpenShut
import Derived.ShutString
import Derived.ChangeOld
import Derived.Below
import Derived.SizedLaws
import Derived.Lib.SmallJoins
namespace Go.Proofs.Ytbimmmmjdimebaa.fnExactDevApply
open Go.ChangeShapes Go.WideShapes Go.ChangeAt Go.RowKit Go.Proofs.YtbimmmmjdimebaaW.PrintWords Go.Proofs.Ytbimmmmjdimebaa.PFnExactDevApply
open Go.ChangeMaps (open_string shut_string)
set_option linter.unusedVariables false
theorem own : ownKnob Try.prog.godebug = none := by kernel_rfl
theorem laidOut : laidOutB Try.prog = true := by kernel_rfl
theorem rd2 {H : Type} {enc : TypeId × Value → H} {w : World} {base : Nat} {spare : Nat → Bool} {held : Bool} : Read.Rd enc Try.prog w base spare held 2 (Kd.int .i64) (Read.GI .i64) := Read.Rd.int Try.underlying2
theorem rd5 {H : Type} {enc : TypeId × Value → H} {w : World} {base : Nat} {spare : Nat → Bool} {held : Bool} : Read.Rd enc Try.prog w base spare held 5 (Kd.int .u8) (Read.GI .u8) := Read.Rd.int Try.underlying5
theorem rd38 {H : Type} {enc : TypeId × Value → H} {w : World} {base : Nat} {spare : Nat → Bool} {held : Bool} : Read.Rd enc Try.prog w base spare held 38 (Kd.slice 5 (Kd.int .u8)) (Read.GL (Read.GI .u8)) := Read.Rd.slice Try.underlying38 (by kernel_rfl) rd5
theorem rd127 {H : Type} {enc : TypeId × Value → H} {w : World} {base : Nat} {spare : Nat → Bool} {held : Bool} : Read.Rd enc Try.prog w base spare held 127 k127 (fun y : S127 => (Read.GP (Read.GI .i64) (Read.GL (Read.GI .u8))) (y.f0, y.f1)) := Read.Rd.iso (fun x : S127 => (x.f0, x.f1)) (fun y => ⟨y.1, y.2⟩) (fun _ => rfl) (Read.Rd.struct Try.underlying127 (by kernel_rfl) (Read.RdF.cons (by rfl) (by kernel_rfl) (by rfl) rd2 (Read.RdF.one (by rfl) (by kernel_rfl) rd38)))
theorem rd39 {H : Type} {enc : TypeId × Value → H} {w : World} {base : Nat} {spare : Nat → Bool} {held : Bool} : Read.Rd enc Try.prog w base spare held 39 (Kd.slice 127 k127) (Read.GL (fun y : S127 => (Read.GP (Read.GI .i64) (Read.GL (Read.GI .u8))) (y.f0, y.f1))) := Read.Rd.slice Try.underlying39 (by kernel_rfl) rd127
theorem rd41 {H : Type} {enc : TypeId × Value → H} {w : World} {base : Nat} {spare : Nat → Bool} {held : Bool} : Read.Rd enc Try.prog w base spare held 41 (Kd.pair (Kd.int .i64) (Kd.pair (Kd.slice 5 (Kd.int .u8)) (Kd.slice 127 k127))) (Read.GP (Read.GI .i64) (Read.GP (Read.GL (Read.GI .u8)) (Read.GL (fun y : S127 => (Read.GP (Read.GI .i64) (Read.GL (Read.GI .u8))) (y.f0, y.f1))))) := (Read.Rd.struct Try.underlying41 (by kernel_rfl) (Read.RdF.cons (by rfl) (by kernel_rfl) (by rfl) rd2 (Read.RdF.cons (by rfl) (by kernel_rfl) (by rfl) rd38 (Read.RdF.one (by rfl) (by kernel_rfl) rd39))))
theorem rd122 {H : Type} {enc : TypeId × Value → H} {w : World} {base : Nat} {spare : Nat → Bool} {held : Bool} : Read.Rd enc Try.prog w base spare held 122 k122 (fun y : S122 => (Read.GP (Read.GI .i64) (Read.GP (Read.GI .i64) (Read.GL (Read.GI .u8)))) (y.f0, y.f1, y.f2)) := Read.Rd.iso (fun x : S122 => (x.f0, x.f1, x.f2)) (fun y => ⟨y.1, y.2.1, y.2.2⟩) (fun _ => rfl) (Read.Rd.struct Try.underlying122 (by kernel_rfl) (Read.RdF.cons (by rfl) (by kernel_rfl) (by rfl) rd2 (Read.RdF.cons (by rfl) (by kernel_rfl) (by rfl) rd2 (Read.RdF.one (by rfl) (by kernel_rfl) rd38))))
theorem rd80 {H : Type} {enc : TypeId × Value → H} {w : World} {base : Nat} {spare : Nat → Bool} {held : Bool} : Read.Rd enc Try.prog w base spare held 80 (Kd.slice 122 k122) (Read.GL (fun y : S122 => (Read.GP (Read.GI .i64) (Read.GP (Read.GI .i64) (Read.GL (Read.GI .u8)))) (y.f0, y.f1, y.f2))) := Read.Rd.slice Try.underlying80 (by kernel_rfl) rd122
set_option maxRecDepth 100000 in
theorem lifted (os : Os) (started : os.Started) (H : Type) (enc : TypeId × Value → H) :
    ReturnsInHanded {} Try.checked os 12 .any (Rows.fnExactDevApplySpec.pre6 enc Try.prog Try.f12 Rows.fnExactDevApplyRow.domain false) (Rows.fnExactDevApplySpec.post enc Try.prog Try.f12 false true false false) := by
  refine returnsInHanded_of_change_sized (C := Try.checked) own started (by kernel_rfl) Try.func12
    (ChangeSpec.witness6 (enc := enc) (C := Try.checked) false ⟨#[], #[.agg #[.int .i64 0, .slice none 0 0, .slice none 0 0], .slice none 0 0, .int .i64 0], []⟩ 8 (by kernel_rfl) (by kernel_rfl) (by kernel_rfl) (by kernel_rfl)) ?_
  intro W base args ds gs before hval0 hW hcnd hsz0 _
  have hval : ∀ (j : Nat) t v, Try.f12.params[j]? = some t → args[j]? = some v → Value.okWide Try.prog W .any base t v := hval0
  have hW' := hW
  obtain ⟨p, q, hA0, hV, rfl, hfz, hnd⟩ := hW
  have hA : DataW.TrodAll enc Try.prog W 0 (fun _ => true) true Try.f12.params.toList args.toList ds p := hA0
  rw [Try.params12] at hA hval
  obtain ⟨v0, vs0, d0, ds0, p0, q0, hargs, rfl, rfl, h0, r0⟩ := trodAll_cons hA
  obtain ⟨v1, vs1, d1, ds1, p1, q1, rfl, rfl, rfl, h1, r1⟩ := trodAll_cons r0
  obtain ⟨v2, vs2, d2, ds2, p2, q2, rfl, rfl, rfl, h2, r2⟩ := trodAll_cons r1
  obtain ⟨rfl, rfl, rfl⟩ := trodAll_nil r2
  obtain rfl : args = #[v0, v1, v2] := by cases args; simp_all
  obtain ⟨rfl, rfl⟩ := trodVars_none hV
  have k0 := h0
  have lt0 : ∀ x ∈ p0, x.block < W.heap.size := by obtain ⟨m, hm⟩ := k0; exact DataW.trod_lt m _ _ _ hm
  obtain ⟨x0, hx0, g0⟩ : ∃ x : (Int) × (List (Int)) × (List (S127)), ((Kd.pair (Kd.int .i64) (Kd.pair (Kd.slice 5 (Kd.int .u8)) (Kd.slice 127 k127)))).K W x v0.cells.toList ∧ (Read.GP (Read.GI .i64) (Read.GP (Read.GL (Read.GI .u8)) (Read.GL (fun y : S127 => (Read.GP (Read.GI .i64) (Read.GL (Read.GI .u8))) (y.f0, y.f1))))) x := by
    obtain ⟨fuel, hf⟩ := h0
    exact rd41 fuel _ _ hf
  obtain ⟨cs0, rfl, _⟩ := okWide_struct Try.underlying41 (hval 0 41 v0 rfl rfl)
  obtain ⟨_, _, ecs0, rfl, ⟨_, _, rfl, ⟨A0_1, c0_1, rfl, hc0_1, hr0_1⟩, ⟨A0_2, c0_2, rfl, hc0_2, hr0_2⟩⟩⟩ := hx0
  obtain rfl : cs0 = #[.int .i64 x0.1, .slice A0_1 x0.2.1.length c0_1, .slice A0_2 x0.2.2.length c0_2] := by apply Array.toList_inj.1; simpa [Value.cells] using ecs0
  have k1 := h1
  have lt1 : ∀ x ∈ p1, x.block < W.heap.size := by obtain ⟨m, hm⟩ := k1; exact DataW.trod_lt m _ _ _ hm
  obtain ⟨b1, len1, cap1, rfl⟩ := okWide_slice Try.underlying80 (hval 1 80 v1 rfl rfl)
  obtain ⟨A1, c1, l1, e1, hc1, hr1, g1⟩ : ∃ A c, ∃ l : List S122, Value.slice b1 len1 cap1 = .slice A l.length c ∧ l.length ≤ c ∧ Kd.C k122 W A l.length l ∧ Read.GL (fun y : S122 => (Read.GP (Read.GI .i64) (Read.GP (Read.GI .i64) (Read.GL (Read.GI .u8)))) (y.f0, y.f1, y.f2)) l := by
    obtain ⟨fuel, hf⟩ := h1
    obtain ⟨A, c, l, h1, h2, h3, h4⟩ := Read.Rd.row Try.underlying80 (by kernel_rfl) rd122 hf
    exact ⟨A, c, l, by simpa [Value.cells] using h1, h2, h3, h4⟩
  clear h1
  obtain ⟨a2, rfl, rfl, rfl, w2⟩ := open_int Try.underlying2 (hval 2 2 v2 rfl rfl) h2
  have hk := Pure.FnExactDevApply x0.1 x0.2.1 x0.2.2 l1 a2 g0.1 g0.2.1 g0.2.2 g1 w2
  obtain ⟨rfl, rfl, rfl⟩ : A1 = b1 ∧ l1.length = len1 ∧ c1 = cap1 := by injection e1 with z0 z1 z2; exact ⟨z0.symm, z1.symm, z2.symm⟩
  refine (laws_FnExactDevApply.walk x0.1 A0_1 c0_1 x0.2.1 A0_2 c0_2 x0.2.2 A1 c1 l1 a2 W hr0_1 hc0_1 hr0_2 hc0_2 hr1 hc1 hk).mono fun e W' hp => ?_
  obtain ⟨he, bel0⟩ := hp
  have bel : Below W.heap.size W W' := by first | exact bel0 | exact bel0.below
  subst he
  exact ⟨_, rfl, _, _, _, [], _, [], hW', trodAll_mk1 (shut_bool Try.underlying4 _), (trodAll_cons_mk (Below.trod laidOut (by kernel_rfl) (of_decide_eq_true (by kernel_rfl)) k0 bel lt0) (trodAll_cons_mk (Below.trod laidOut (by kernel_rfl) (of_decide_eq_true (by kernel_rfl)) k1 bel lt1) (trodAll_cons_mk (shut_int Try.underlying2 w2) trodAll_mk0))), rfl, bel.frame _, fun h => by cases h⟩
theorem over : Rows.fnExactDevApplyRow.holds Try.pinned (OpenSpec.ofChange Rows.fnExactDevApplySpec) :=
  OpenClaim.holds_of_wide 12 Try.f12 rfl rfl rfl rfl rfl rfl rfl ⟨rfl, rfl, rfl, rfl, rfl⟩ rfl rfl rfl rfl rfl (by kernel_rfl) Try.func12 (by kernel_rfl)
    (of_decide_eq_true (by kernel_rfl)) (by unfold Func.isWrapper; first | (rw [if_pos (by decide +kernel)]; kernel_rfl) | (rw [if_neg (by decide +kernel)]; exact ⟨rfl, rfl⟩))
    (fun os started H enc _ => lifted os started H enc)
end Go.Proofs.Ytbimmmmjdimebaa.fnExactDevApply
namespace Go.Proofs.Ytbimmmmjdimebaa
/-- The row, under a short name, for the claim. -/
theorem fnExactDevApply_holds : Rows.FnExactDevApplySaid := fnExactDevApply.over
end Go.Proofs.Ytbimmmmjdimebaa
