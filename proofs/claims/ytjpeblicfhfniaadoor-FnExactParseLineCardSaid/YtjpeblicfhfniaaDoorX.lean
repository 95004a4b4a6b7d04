/- Contracts of ParseLine's functions, last text: the law. -/
import Derived.Test.YtjpeblicfhfniaaDoorV
namespace Go.Proofs.YtjpeblicfhfniaaDoor.EngTabP
open Go.Proofs.YtjpeblicfhfniaaDoor.Eng
open Go.Proofs.YtjpeblicfhfniaaDoor.EngTab (byteAt)
set_option maxRecDepth 100000
set_option linter.unusedVariables false
set_option linter.unusedSimpArgs false
def c4 : Con := Con.of ⟨[(false, 0, .str)], [(0, .bool)], fun _ => True, fun x y _ => y.1 = true⟩
set_option maxHeartbeats 400000 in
theorem ok4 : FnOK Tryd.prog 4 c4 := by
  refine FnOK.of_vc mixed tabOk (.cons en10 ok10 (.cons en11 ok11 (.cons en12 ok12 .nil))) Tryd.func4 rfl (by decide) lv4 hd4 ?_
  rintro ⟨(s : ByteArray), ⟨⟩⟩ - hwf
  clear hwf
  generalize hM : real = M
  cbv
  refine splM (fun h => ?_) (fun h => ?_) <;> cbv
  · exact fun _ => rfl
  clear h
  refine ⟨fun _ => trivial, ?_⟩
  rintro ⟨⟨(a1 : Int), (a2 : Int), (a3 : ByteArray), (a4 : ByteArray), (a5 : Int), (a6 : Int), (a7 : ByteArray), ⟨⟩⟩, (w1 : Int), ⟨⟩⟩ x' (hw : (((a1, a2, a3, a4, a5, a6, a7, ()), w1) : CmdD × Int) = parse s) - -
  cbv
  refine ⟨fun _ => trivial, ?_⟩
  intro y x2 hg0 _ _
  have hy : y = ((a1, a2, a3, a4, a5, a6, a7, ()), w1, ()) := by
    have hg : (y.1, y.2.1) = parse s := hg0
    rw [← hw] at hg
    clear hg0 hw
    obtain ⟨y1, y2, ⟨⟩⟩ := y
    have h1 : y1 = _ ∧ y2 = _ := Prod.mk.inj hg
    rw [h1.1, h1.2]
  clear hg0
  subst hy
  cbv
  refine ⟨fun _ => trivial, ?_⟩
  rintro ⟨(e1 : Bool), ⟨⟩⟩ x3 he1 - -
  have he2 : e1 = true := Iff.mpr he1 rfl
  clear he1
  cbv
  refine splM (fun h => ?_) (fun h => ?_) <;> cbv
  · exfalso; (try subst hM); (try simp only [Eng.ncast] at *); (try simp only [Eng.nI_eq] at *); (try simp only [Eng.real, decide_eq_true_eq, decide_eq_false_iff_not, Bool.not_eq_true', Bool.not_eq_false', Bool.and_eq_true, Bool.or_eq_true, Eng.sEq_dec, Bool.not_true, Bool.not_false, gt_iff_lt, ge_iff_le] at *); simp_all
  clear h
  refine splM (fun h => ?_) (fun h => ?_) <;> cbv
  · exfalso; subst hM
    have h2 : (!real.dec (w1 = w1)) = true := h
    rw [dec_iff.2 rfl] at h2; cases h2
  exact fun _ => rfl
end Go.Proofs.YtjpeblicfhfniaaDoor.EngTabP
