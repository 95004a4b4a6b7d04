/- Contracts of ParseLine's functions, third text: commands are compared. -/
import Derived.Test.YtjpeblicfhfniaaDoorQ
namespace Go.Proofs.YtjpeblicfhfniaaDoor.EngTabP
open Go.Proofs.YtjpeblicfhfniaaDoor.Eng
set_option maxRecDepth 100000
set_option linter.unusedVariables false
set_option linter.unusedSimpArgs false
def CmdT : Ty := .pair (.int .i64) (.pair (.int .i64) (.pair .str (.pair .str (.pair (.int .i64) (.pair (.int .i64) (.pair .str .unit))))))
def c12 : Con := Con.of ⟨[(false, 0, .pair (.int .i64) (.pair (.int .i64) (.pair .str (.pair .str (.pair (.int .i64) (.pair (.int .i64) (.pair .str .unit))))))), (false, 0, .pair (.int .i64) (.pair (.int .i64) (.pair .str (.pair .str (.pair (.int .i64) (.pair (.int .i64) (.pair .str .unit)))))))], [(0, .bool)], fun _ => True, fun x y _ => y.1 = true ↔ x.1 = x.2.1⟩
theorem ok12 : FnOK Tryd.prog 12 c12 := by
  refine FnOK.of_vc mixed tabOk .nil Tryd.func12 rfl (by decide) lv12 hd12 ?_
  rintro ⟨⟨(a1 : Int), (a2 : Int), (a3 : ByteArray), (a4 : ByteArray), (a5 : Int), (a6 : Int), (a7 : ByteArray), ⟨⟩⟩, ⟨(b1 : Int), (b2 : Int), (b3 : ByteArray), (b4 : ByteArray), (b5 : Int), (b6 : Int), (b7 : ByteArray), ⟨⟩⟩, ⟨⟩⟩ - hwf
  clear hwf
  generalize hM : real = M
  cbv
  repeat' (refine splM (fun h => ?_) (fun h => ?_) <;> cbv)
  all_goals (rintro -; (try subst hM); (try simp only [Eng.ncast] at *); (try simp only [Eng.nI_eq] at *); (try simp only [Eng.real, decide_eq_true_eq, decide_eq_false_iff_not, Bool.not_eq_true', Bool.not_eq_false', Bool.and_eq_true, Bool.or_eq_true, Eng.sEq_dec, Bool.not_true, Bool.not_false, gt_iff_lt, ge_iff_le] at *); simp only [c12, Con.of, Prod.mk.injEq]; simp [*])
def wordS (s : ByteArray) : Int × ByteArray := if s = ⟨#[99, 114, 101, 97, 116, 101]⟩ then (1, ⟨#[84, 80]⟩) else if s = ⟨#[109, 107, 100, 105, 114]⟩ then (2, ⟨#[84, 80]⟩) else if s = ⟨#[119, 114, 105, 116, 101]⟩ then (3, ⟨#[84, 80, 79, 68]⟩) else if s = ⟨#[102, 105, 108, 108]⟩ then (4, ⟨#[84, 80, 79, 76, 67]⟩) else if s = ⟨#[114, 101, 97, 100]⟩ then (5, ⟨#[84, 80, 79, 76]⟩) else if s = ⟨#[108, 105, 115, 116]⟩ then (6, ⟨#[84, 80]⟩) else if s = ⟨#[117, 110, 108, 105, 110, 107]⟩ then (7, ⟨#[84, 80]⟩) else if s = ⟨#[114, 101, 110, 97, 109, 101]⟩ then (8, ⟨#[84, 80, 81]⟩) else if s = ⟨#[99, 108, 111, 110, 101]⟩ then (9, ⟨#[84]⟩) else if s = ⟨#[100, 114, 111, 112]⟩ then (10, ⟨#[84]⟩) else if s = ⟨#[115, 121, 110, 99]⟩ then (11, ⟨#[]⟩) else if s = ⟨#[115, 112, 97, 99, 101]⟩ then (12, ⟨#[]⟩) else if s = ⟨#[99, 114, 97, 115, 104]⟩ then (13, ⟨#[79, 77]⟩) else (0, ⟨#[]⟩)
def c18 : Con := Con.of ⟨[(false, 0, .str)], [(0, .int .i64), (0, .str)], fun _ => True, fun x y _ => y.1 = (wordS x.1).1 ∧ y.2.1 = (wordS x.1).2⟩
theorem ok18 : FnOK Tryd.prog 18 c18 := by
  refine FnOK.of_vc mixed tabOk .nil Tryd.func18 rfl (by decide) lv18 hd18 ?_
  rintro ⟨(s : ByteArray), ⟨⟩⟩ - hwf
  clear hwf
  generalize hM : real = M
  cbv
  repeat' (refine splM (fun h => ?_) (fun h => ?_) <;> cbv)
  all_goals rintro -
  all_goals (try subst hM); (try simp only [Eng.ncast] at *); (try simp only [Eng.nI_eq] at *); (try simp only [Eng.real, decide_eq_true_eq, decide_eq_false_iff_not, Bool.not_eq_true', Bool.not_eq_false', Bool.and_eq_true, Bool.or_eq_true, Eng.sEq_dec, Bool.not_true, Bool.not_false, gt_iff_lt, ge_iff_le] at *)
  all_goals first
    | (subst h; show _ = (wordS _).1 ∧ _ = (wordS _).2; exact ⟨by decide +kernel, by decide +kernel⟩)
    | (show _ = (wordS _).1 ∧ _ = (wordS _).2; unfold wordS; simp only [*, if_false, and_self])
end Go.Proofs.YtjpeblicfhfniaaDoor.EngTabP
