/- The engine: orders of drawn regions in which two reads may come in either order, written once. No condition. -/
import Derived.Test.YtmjeghlfmhbjdaaDoorEn4
namespace Go.Proofs.YtmjeghlfmhbjdaaDoor.Eng
set_option linter.unusedVariables false
inductive OD where
 | leaf | nil | alt (i : Nat) (t r : OD) | now (i : Nat) (t : OD) | two (i j : Nat) (t : OD)
def OD.ot : OD → OT
 | .leaf => .leaf
 | .nil => .nil
 | .alt i t r => .alt i t.ot r.ot
 | .now i t => .now i t.ot
 | .two i j t => .alt i (.alt j (.srt t.ot) .nil) (.alt j (.alt i (.srt t.ot) .nil) .nil)
def OD.firsts : OD → List Nat
 | .alt i _ r => i :: r.firsts
 | .two i j _ => [i, j]
 | _ => []
def okD (ops : Array Oper) : OD → Bool → Nat → Array Bool → Bool
 | .leaf, hd, _, listed => hd && (Region.ready .any ops listed).isEmpty
 | .nil, hd, _, _ => !hd
 | .alt i t r, hd, f, listed => match f with
  | 0 => false
  | g + 1 => (!hd || Region.ready .any ops listed == i :: r.firsts) && okD ops t true g (listed.setIfInBounds i true) && okD ops r false (g + 1) listed
 | .now i t, hd, f, listed => match f with
  | 0 => false
  | g + 1 => hd && Region.noSelect ops && Region.free .any ops listed i && (Region.ready .any ops listed).contains i && okD ops t true g (listed.setIfInBounds i true)
 | .two i j t, hd, f, listed => match f with
  | g + 2 => hd && Region.ready .any ops listed == [i, j] && Region.ready .any ops (listed.setIfInBounds i true) == [j] && Region.ready .any ops (listed.setIfInBounds j true) == [i] && okD ops t true g ((listed.setIfInBounds i true).setIfInBounds j true)
  | _ => false
theorem set_comm (l : Array Bool) (i j : Nat) : (l.setIfInBounds j true).setIfInBounds i true = (l.setIfInBounds i true).setIfInBounds j true := by
 apply Array.ext_getElem?
 intro k
 simp only [Array.getElem?_setIfInBounds, Array.size_setIfInBounds]
 by_cases h1 : i = k <;> by_cases h2 : j = k <;> simp [h1, h2]
theorem firsts_ot : ∀ d : OD, d.ot.firsts = d.firsts
 | .leaf => rfl
 | .nil => rfl
 | .alt i t r => by simp [OD.ot, OT.firsts, OD.firsts, firsts_ot r]
 | .now _ _ => rfl
 | .two _ _ _ => rfl
theorem okD_ok {ops : Array Oper} : ∀ {d : OD} {hd : Bool} {f : Nat} {listed : Array Bool}, okD ops d hd f listed = true → okT ops d.ot hd f listed = true
 | .leaf, hd, f, l, h => h
 | .nil, hd, f, l, h => h
 | .alt i t r, hd, 0, l, h => by simp [okD] at h
 | .alt i t r, hd, g + 1, l, h => by
  simp only [okD, Bool.and_eq_true] at h
  simp only [OD.ot, okT, Bool.and_eq_true, firsts_ot]
  exact ⟨⟨h.1.1, okD_ok h.1.2⟩, okD_ok h.2⟩
 | .now i t, hd, 0, l, h => by simp [okD] at h
 | .now i t, hd, g + 1, l, h => by
  simp only [okD, Bool.and_eq_true] at h
  simp only [OD.ot, okT, Bool.and_eq_true]
  exact ⟨h.1, okD_ok h.2⟩
 | .two i j t, hd, 0, l, h => by simp [okD] at h
 | .two i j t, hd, 1, l, h => by simp [okD] at h
 | .two i j t, hd, g + 2, l, h => by
  simp only [okD, Bool.and_eq_true, beq_iff_eq] at h
  obtain ⟨⟨⟨⟨h1, h2⟩, h3⟩, h4⟩, h5⟩ := h
  have ih := okD_ok h5
  simp only [OD.ot, okT, OT.firsts, h1, h2, h3, h4, ih, set_comm l i j, Bool.not_true, Bool.not_false, Bool.true_or, Bool.and_true, Bool.false_or, beq_self_eq_true]
end Go.Proofs.YtmjeghlfmhbjdaaDoor.Eng
