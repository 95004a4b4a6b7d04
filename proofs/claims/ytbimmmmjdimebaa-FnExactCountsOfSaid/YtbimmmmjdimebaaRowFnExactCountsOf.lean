/- FnExactCountsOf: at every argument CountsOf answers as the specification, field by field; it writes into no argument and keeps nothing of one; its answer owns its memory. -/
import Derived.Test.YtbimmmmjdimebaaRows
import Derived.Test.YtbimmmmjdimebaaPFnExactCountsOfx6
import Derived.Test.YtbimmmmjdimebaaPureFnExactCountsOf
import Derived.Test.YtbimmmmjdimebaaRead
import Derived.WalkKit
import Derived.ProofKit
import Derived.OpenShut
import Derived.ShutString
import Derived.ChangeOld
import Derived.Below
import Derived.SizedLaws
import Derived.Lib.SmallJoins
namespace Go.Proofs.Ytbimmmmjdimebaa.fnExactCountsOf
open Go.ChangeShapes Go.WideShapes Go.ChangeAt Go.RowKit Go.Proofs.YtbimmmmjdimebaaW.PrintWords Go.Proofs.Ytbimmmmjdimebaa.PFnExactCountsOf
open Go.ChangeMaps (open_string shut_string)
set_option linter.unusedVariables false
theorem own : ownKnob Try.prog.godebug = none := by kernel_rfl
theorem laidOut : laidOutB Try.prog = true := by kernel_rfl
theorem rd2 {H : Type} {enc : TypeId × Value → H} {w : World} {base : Nat} {spare : Nat → Bool} {held : Bool} : Read.Rd enc Try.prog w base spare held 2 (Kd.int .i64) (Read.GI .i64) := Read.Rd.int Try.underlying2
theorem rd91 {H : Type} {enc : TypeId × Value → H} {w : World} {base : Nat} {spare : Nat → Bool} {held : Bool} : Read.Rd enc Try.prog w base spare held 91 k91 (fun y : S91 => (Read.GP (Read.GI .i64) (Read.GP (Read.GI .i64) (Read.GI .i64))) (y.f0, y.f1, y.f2)) := Read.Rd.iso (fun x : S91 => (x.f0, x.f1, x.f2)) (fun y => ⟨y.1, y.2.1, y.2.2⟩) (fun _ => rfl) (Read.Rd.struct Try.underlying91 (by kernel_rfl) (Read.RdF.cons (by rfl) (by kernel_rfl) (by rfl) rd2 (Read.RdF.cons (by rfl) (by kernel_rfl) (by rfl) rd2 (Read.RdF.one (by rfl) (by kernel_rfl) rd2))))
theorem rd22 {H : Type} {enc : TypeId × Value → H} {w : World} {base : Nat} {spare : Nat → Bool} {held : Bool} : Read.Rd enc Try.prog w base spare held 22 (Kd.slice 91 k91) (Read.GL (fun y : S91 => (Read.GP (Read.GI .i64) (Read.GP (Read.GI .i64) (Read.GI .i64))) (y.f0, y.f1, y.f2))) := Read.Rd.slice Try.underlying22 (by kernel_rfl) rd91
set_option maxRecDepth 100000 in
theorem lifted (os : Os) (started : os.Started) (H : Type) (enc : TypeId × Value → H) :
    ReturnsInHanded {} Try.checked os 3 .any (Rows.fnExactCountsOfSpec.pre6 enc Try.prog Try.f3 Rows.fnExactCountsOfRow.domain false) (Rows.fnExactCountsOfSpec.post enc Try.prog Try.f3 false true false false) := by
  refine returnsInHanded_of_change_sized (C := Try.checked) own started (by kernel_rfl) Try.func3
    (ChangeSpec.witness6 (enc := enc) (C := Try.checked) false ⟨#[], #[.int .i64 0, .slice none 0 0], []⟩ 8 (by kernel_rfl) (by kernel_rfl) (by kernel_rfl) (by kernel_rfl)) ?_
  intro W base args ds gs before hval0 hW hcnd hsz0 _
  have hval : ∀ (j : Nat) t v, Try.f3.params[j]? = some t → args[j]? = some v → Value.okWide Try.prog W .any base t v := hval0
  have hW' := hW
  obtain ⟨p, q, hA0, hV, rfl, hfz, hnd⟩ := hW
  have hA : DataW.TrodAll enc Try.prog W 0 (fun _ => true) true Try.f3.params.toList args.toList ds p := hA0
  rw [Try.params3] at hA hval
  obtain ⟨v0, vs0, d0, ds0, p0, q0, hargs, rfl, rfl, h0, r0⟩ := trodAll_cons hA
  obtain ⟨v1, vs1, d1, ds1, p1, q1, rfl, rfl, rfl, h1, r1⟩ := trodAll_cons r0
  obtain ⟨rfl, rfl, rfl⟩ := trodAll_nil r1
  obtain rfl : args = #[v0, v1] := by cases args; simp_all
  obtain ⟨rfl, rfl⟩ := trodVars_none hV
  obtain ⟨a0, rfl, rfl, rfl, w0⟩ := open_int Try.underlying2 (hval 0 2 v0 rfl rfl) h0
  have k1 := h1
  have lt1 : ∀ x ∈ p1, x.block < W.heap.size := by obtain ⟨m, hm⟩ := k1; exact DataW.trod_lt m _ _ _ hm
  obtain ⟨b1, len1, cap1, rfl⟩ := okWide_slice Try.underlying22 (hval 1 22 v1 rfl rfl)
  obtain ⟨A1, c1, l1, e1, hc1, hr1, g1⟩ : ∃ A c, ∃ l : List S91, Value.slice b1 len1 cap1 = .slice A l.length c ∧ l.length ≤ c ∧ Kd.C k91 W A l.length l ∧ Read.GL (fun y : S91 => (Read.GP (Read.GI .i64) (Read.GP (Read.GI .i64) (Read.GI .i64))) (y.f0, y.f1, y.f2)) l := by
    obtain ⟨fuel, hf⟩ := h1
    obtain ⟨A, c, l, h1, h2, h3, h4⟩ := Read.Rd.row Try.underlying22 (by kernel_rfl) rd91 hf
    exact ⟨A, c, l, by simpa [Value.cells] using h1, h2, h3, h4⟩
  clear h1
  obtain ⟨k, hk⟩ := Pure.FnExactCountsOf a0 l1 w0 g1
  obtain ⟨rfl, rfl, rfl⟩ : A1 = b1 ∧ l1.length = len1 ∧ c1 = cap1 := by injection e1 with z0 z1 z2; exact ⟨z0.symm, z1.symm, z2.symm⟩
  refine (laws_FnExactCountsOf.calls k a0 A1 c1 l1 true W hr1 hc1 hk).mono fun e W' hp => ?_
  obtain ⟨he, bel0⟩ := hp
  have bel : Below W.heap.size W W' := by first | exact bel0 | exact bel0.below
  subst he
  exact ⟨_, rfl, _, _, _, [], _, [], hW', trodAll_mk1 (shut_bool Try.underlying4 _), (trodAll_cons_mk (shut_int Try.underlying2 w0) (trodAll_cons_mk (Below.trod laidOut (by kernel_rfl) (of_decide_eq_true (by kernel_rfl)) k1 bel lt1) trodAll_mk0)), rfl, bel.frame _, fun h => by cases h⟩
theorem over : Rows.fnExactCountsOfRow.holds Try.pinned (OpenSpec.ofChange Rows.fnExactCountsOfSpec) :=
  OpenClaim.holds_of_wide 3 Try.f3 rfl rfl rfl rfl rfl rfl rfl ⟨rfl, rfl, rfl, rfl, rfl⟩ rfl rfl rfl rfl rfl (by kernel_rfl) Try.func3 (by kernel_rfl)
    (of_decide_eq_true (by kernel_rfl)) (by unfold Func.isWrapper; first | (rw [if_pos (by decide +kernel)]; kernel_rfl) | (rw [if_neg (by decide +kernel)]; exact ⟨rfl, rfl⟩))
    (fun os started H enc _ => lifted os started H enc)
end Go.Proofs.Ytbimmmmjdimebaa.fnExactCountsOf
namespace Go.Proofs.Ytbimmmmjdimebaa
/-- The row, under a short name, for the claim. -/
theorem fnExactCountsOf_holds : Rows.FnExactCountsOfSaid := fnExactCountsOf.over
end Go.Proofs.Ytbimmmmjdimebaa
