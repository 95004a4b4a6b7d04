/- The law FnBlocks: its words. No condition. -/
import Derived.Test.YtmjeghlfmhbjdaaDoorOX
import Derived.Test.YtmjeghlfmhbjdaaDoorD3
import Derived.Test.YtmjeghlfmhbjdaaDoorPL
import Derived.Test.YtmjeghlfmhbjdaaDoorLB
import Derived.Test.YtmjeghlfmhbjdaaDoorR8
import Derived.Test.YtmjeghlfmhbjdaaDoorR9
import Derived.Test.YtmjeghlfmhbjdaaDoorNE
import Derived.Test.YtmjeghlfmhbjdaaDoorSp
import Derived.Test.YtmjeghlfmhbjdaaDoorCH
import Derived.Test.YtmjeghlfmhbjdaaDoorOD
namespace Go.Proofs.YtmjeghlfmhbjdaaDoor.EngTab
open Go.Proofs.YtmjeghlfmhbjdaaDoor.Eng
set_option maxRecDepth 100000
set_option linter.unusedVariables false
set_option linter.unusedSimpArgs false
theorem cut0 {G K : Prop} (h1 : K → G) (h2 : K) : G := h1 h2
theorem nT : real.not true = false := rfl
theorem nE (x : Int) : real.not (real.dec (real.eq x x)) = false := by rw [dec_iff.2 (show real.eq x x from rfl)]; rfl
theorem nS (x : ByteArray) : real.not (real.sEq x x) = false := by
  show (!(x.toList == x.toList)) = false
  rw [Eng.sEq_dec]
  simp
theorem eD {x : Int} (h : real.dec (real.eq x 0) = true) : x = 0 := dec_iff.1 h
theorem eN {x : Int} (h : real.dec (real.eq x 0) = false) : x ≠ 0 := fun hh => absurd ((show real.dec (real.eq x 0) = true from dec_iff.2 hh).symm.trans h) (by decide)
theorem sum0_len {b : List Int} (h : sumC b = 0) : b.length = 128 := by
  unfold sumC at h
  split at h
  · omega
  · omega
theorem nL {n : Nat} (h : n = 128) : real.not (real.dec (real.eq (n : Int) 128)) = false := by
  subst h
  exact nE _
theorem ff {b : Bool} (h1 : b = false) (h2 : b = true) : False := by cases h1.symm.trans h2
def c3 (g : Sen) : Con := { ps := [(false, 0, tyB), (false, 0, tyB)], rs := [(0, .bool)], pre := fun _ => True, post := fun x y _ => y.1 = true, gl := g.gl4 }
@[reducible] def C3 (g : Sen) : FuncId → Option Con := conOf [(4, c4), (5, c5), (6, c6 g), (7, c7 g), (8, c8), (9, c9), (10, c10), (11, c11 g), (12, c12 g), (13, c13), (14, c14), (15, c15), (16, c16 g), (17, c17 g), (18, c18)]
theorem C3ok (g : Sen) (hgood : g.good) : ConsOk Tryd.prog (C3 g) := .cons en4 ok4 (.cons en5 ok5 (.cons en6 (ok6 g) (.cons en7 (ok7 g hgood) (.cons en8 ok8 (.cons en9 ok9 (.cons en10 ok10 (.cons en11 (ok11 g) (.cons en12 (ok12 g hgood) (.cons en13 ok13 (.cons en14 ok14 (.cons en15 ok15 (.cons en16 (ok16 g) (.cons en17 (ok17 g hgood) (.cons en18 ok18 .nil))))))))))))))
@[reducible] def tabE : Tab := tab.eqs [80, 46, 52]
noncomputable def code3 : Code := Tryd.f3.body.getD .skip
@[reducible] noncomputable def Q3 (g : Sen) (code more : List Int) : Ex → Ctx → Prop := exQ tabE (c3 g) Tryd.f3.results.toList (code, more, ())
theorem tb_facts {DT tb : List Int} {tn : Int} {tr : List RunD} {c3 tc : Int} (hT : ((tn, tr, PUnit.unit), c3) = decT DT) (htb : tb = encT tn tr) (htc : tc = encC (tabOK tn tr)) :
    tc = 0 ∧ sumC tb = 0 ∧ decT tb = ((tn, tr, ()), 0) ∧ (c3 = 0 → tb = DT) := by
  by_cases h0 : c3 = 0
  · subst h0
    obtain ⟨q1, q2, q3⟩ := decT_zero hT.symm
    have e : tb = DT := htb.trans q3
    subst e
    exact ⟨by rw [htc]; unfold encC; rw [if_pos q2], q1, hT.symm, fun _ => rfl⟩
  · have e := decT_bad hT.symm h0
    obtain rfl : tn = 0 := congrArg (·.1) e
    obtain rfl : tr = [] := congrArg (·.2.1) e
    have hz : sumC (encT 0 []) = 0 := (decT_zero dec_enc0).1
    rw [← htb] at hz
    have hd : decT tb = ((0, [], ()), 0) := by rw [htb]; exact dec_enc0
    refine ⟨?_, hz, hd, fun h => absurd h h0⟩
    rw [htc]
    unfold encC
    rw [if_pos tab0]
def od3_20 : OD := .now 0 (.now 1 (.now 2 (.now 3 (.alt 4 (.now 5 (.now 6 (.now 7 (.now 8 (.now 9 (.now 10 (.now 11 (.now 12 (.now 14 (.two 13 15 (.now 16 (.now 17 (.now 18 (.now 19 (.now 21 (.two 20 22 (.now 23 (.now 24 (.now 25 (.now 26 (.now 28 (.two 27 29 (.now 30 (.now 31 (.now 32 (.now 33 (.now 35 (.two 34 36 (.now 37 (.now 38 (.now 39 (.now 40 (.now 43 (.alt 41 (.alt 42 (.alt 44 (.alt 45 (.now 46 (.now 47 (.now 48 (.now 49 (.now 51 (.alt 50 (.alt 52 (.alt 53 (.alt 54 (.now 55 (.leaf)) (.nil)) (.nil)) (.nil)) (.alt 52 (.two 50 53 (.alt 54 (.now 55 (.leaf)) (.nil))) (.nil)))))))) (.nil)) (.nil)) (.alt 44 (.two 42 45 (.now 46 (.now 47 (.now 48 (.now 49 (.now 51 (.alt 50 (.alt 52 (.alt 53 (.alt 54 (.now 55 (.leaf)) (.nil)) (.nil)) (.nil)) (.alt 52 (.two 50 53 (.alt 54 (.now 55 (.leaf)) (.nil))) (.nil))))))))) (.nil))) (.alt 44 (.alt 41 (.two 42 45 (.now 46 (.now 47 (.now 48 (.now 49 (.now 51 (.alt 50 (.alt 52 (.alt 53 (.alt 54 (.now 55 (.leaf)) (.nil)) (.nil)) (.nil)) (.alt 52 (.two 50 53 (.alt 54 (.now 55 (.leaf)) (.nil))) (.nil))))))))) (.alt 45 (.alt 41 (.alt 42 (.now 46 (.now 47 (.now 48 (.now 49 (.now 51 (.alt 50 (.alt 52 (.alt 53 (.alt 54 (.now 55 (.leaf)) (.nil)) (.nil)) (.nil)) (.alt 52 (.two 50 53 (.alt 54 (.now 55 (.leaf)) (.nil))) (.nil)))))))) (.nil)) (.nil)) (.nil))) (.nil)))))))))))))))))))))))))))))))))))) (.nil)))))
/-- Behind the part on nodes. -/
def I1 (g : Sen) (code more : List Int) (Γ : Ctx) : Prop := ∃ (nb : List Int) (c : Int) (ex : List (Nat × SV)), code.length ≤ 1048576 ∧ more.length ≤ 1048576 ∧ nb.length ≤ 1048576 ∧ (c = 0 → sumC nb = 0) ∧
  Γ = ⟨318, (0, .pv [] (.sl (.int .u8)) code) :: (1, .pv [] (.sl (.int .u8)) more) :: (6, .pv [] (.int .i64) c) :: (7, .ref 0) :: ex, [(0, .row 0 (.int .u8) nb), (1000000, .glob g.gl4)], [.hole 0, .hole 0]⟩
/-- Behind the part on tables. -/
def I2 (g : Sen) (code more : List Int) (Γ : Ctx) : Prop := ∃ (nb tb : List Int) (c : Int) (ex : List (Nat × SV)), code.length ≤ 1048576 ∧ more.length ≤ 1048576 ∧ nb.length ≤ 1048576 ∧ (c = 0 → sumC nb = 0) ∧ sumC tb = 0 ∧
  Γ = ⟨318, (0, .pv [] (.sl (.int .u8)) code) :: (1, .pv [] (.sl (.int .u8)) more) :: (6, .pv [] (.int .i64) c) :: (7, .ref 0) :: (13, .ref 1) :: ex, [(0, .row 0 (.int .u8) nb), (1, .row 0 (.int .u8) tb), (1000000, .glob g.gl4)], [.hole 0, .hole 0]⟩
/-- Behind the part on superblocks. -/
def I3 (g : Sen) (code more : List Int) (Γ : Ctx) : Prop := ∃ (nb tb sb : List Int) (c c5 : Int), more.length ≤ 1048576 ∧ nb.length ≤ 1048576 ∧ sb.length ≤ 1048576 ∧ (c = 0 → sumC nb = 0) ∧ sumC tb = 0 ∧ (c5 = 0 → sumC sb = 0) ∧
  ((∃ (s1 s2 s3 s4 : Int) (sr : List RootD) (x23 : SV) (ex : List (Nat × SV)), Γ = ⟨318, (1, .pv [] (.sl (.int .u8)) more) :: (6, .pv [] (.int .i64) c) :: (7, .ref 0) :: (13, .ref 1) :: (17, .ad 4 tySup 0 []) :: (18, .pv [] (.int .i64) c5) :: (19, .ref 2) :: (21, .ad 6 tySup 0 []) :: (23, x23) :: ex,
      [(0, .row 0 (.int .u8) nb), (1, .row 0 (.int .u8) tb), (2, .row 0 (.int .u8) sb), (3, .row 0 tyRoot sr), (4, .box (.consA (.pv [] (.int .i64) s1) (.consA (.pv [] (.int .i64) s2) (.consA (.pv [] (.int .i64) s3) (.consA (.pv [] (.int .i64) s4) (.consA (.ref 3) .nilA)))))), (5, .row 0 tyRoot sr), (6, .box (.consA (.pv [] (.int .i64) s1) (.consA (.pv [] (.int .i64) s2) (.consA (.pv [] (.int .i64) s3) (.consA (.pv [] (.int .i64) s4) (.consA (.ref 5) .nilA)))))), (1000000, .glob g.gl4)], [.hole 0, .hole 0]⟩) ∨
   (∃ ex : List (Nat × SV), Γ = ⟨318, (1, .pv [] (.sl (.int .u8)) more) :: (6, .pv [] (.int .i64) c) :: (7, .ref 0) :: (13, .ref 1) :: (18, .pv [] (.int .i64) c5) :: (19, .ref 2) :: ex, [(0, .row 0 (.int .u8) nb), (1, .row 0 (.int .u8) tb), (2, .row 0 (.int .u8) sb), (1000000, .glob g.gl4)], [.hole 0, .hole 0]⟩))
theorem nR (x : RootD) : real.not (real.dec (real.same2 [x] [x])) = false := by rw [dec_iff.2 (show real.same2 [x] [x] from rfl)]; rfl
end Go.Proofs.YtmjeghlfmhbjdaaDoor.EngTab
