/- Contracts of the codecs' functions: impl.encode at the four forms. -/
import Derived.Test.YtmjeghlfmhbjdaaDoorT2
import Derived.Test.YtmjeghlfmhbjdaaDoorLl
namespace Go.Proofs.YtmjeghlfmhbjdaaDoor.EngTab
open Go.Proofs.YtmjeghlfmhbjdaaDoor.Eng
set_option maxRecDepth 100000
set_option linter.unusedVariables false
set_option linter.unusedSimpArgs false
abbrev tyF4 : Ty := .ialt 83 tyTF (.ialt 87 tySF (.ialt 77 tyLF (.ialt 78 tyLF .inil)))
def tabM4 : Tab := tabW.meth [(83, "loop.example/s01595/impl.sound", 89), (83, "loop.example/s01595/impl.lay", 88), (87, "loop.example/s01595/impl.sound", 92), (87, "loop.example/s01595/impl.lay", 91), (77, "loop.example/s01595/impl.sound", 84), (77, "loop.example/s01595/impl.lay", 83), (78, "loop.example/s01595/impl.sound", 87), (78, "loop.example/s01595/impl.lay", 86)]
theorem tabM4Ok : TabOk Tryd.prog tabM4 := tabWOk.meth (by
  simp only [List.mem_cons, List.not_mem_nil, or_false, forall_eq_or_imp, forall_eq]
  exact ⟨⟨by kernel_rfl, _, Tryd.underlying83, by simp⟩, ⟨by kernel_rfl, _, Tryd.underlying83, by simp⟩, ⟨by kernel_rfl, _, Tryd.underlying87, by simp⟩, ⟨by kernel_rfl, _, Tryd.underlying87, by simp⟩, ⟨by kernel_rfl, _, Tryd.underlying77, by simp⟩, ⟨by kernel_rfl, _, Tryd.underlying77, by simp⟩, ⟨by kernel_rfl, _, Tryd.underlying78, by simp⟩, ⟨by kernel_rfl, _, Tryd.underlying78, by simp⟩⟩)
abbrev TabF : Type := (Int × Int × Unit) × (Int × List RunD × Unit) × Unit
abbrev SupF : Type := (Int × Int × Unit) × (Int × Int × Int × Int × List RootD × Unit) × Unit
abbrev NodF : Type := ((Int × Int × Unit) × List EntD × Unit) × Unit
abbrev Form4 : Type := TabF ⊕ (SupF ⊕ (NodF ⊕ (NodF ⊕ Unit)))
def f4OK : Form4 → Prop
  | .inl f => tabOK f.2.1.1 f.2.1.2.1
  | .inr (.inl f) => supOK f.2.1.1 f.2.1.2.1 f.2.1.2.2.1 f.2.1.2.2.2.1 f.2.1.2.2.2.2.1
  | .inr (.inr (.inl f)) => leafOK f.1.2.1
  | .inr (.inr (.inr (.inl f))) => innerOK f.1.2.1
  | .inr (.inr (.inr (.inr _))) => False
def f4Lay : Form4 → List Int
  | .inl f => layT f.1.1 f.1.2.1 f.2.1.1 f.2.1.2.1
  | .inr (.inl f) => layS f.1.1 f.1.2.1 f.2.1.1 f.2.1.2.1 f.2.1.2.2.1 f.2.1.2.2.2.1 f.2.1.2.2.2.2.1
  | .inr (.inr (.inl f)) => layL f.1.1.1 f.1.1.2.1 f.1.2.1
  | .inr (.inr (.inr (.inl f))) => layI f.1.1.1 f.1.1.2.1 f.1.2.1
  | .inr (.inr (.inr (.inr _))) => []
def f4Sz : Form4 → Prop
  | .inl f => f.2.1.2.1.length ≤ 1048576
  | .inr (.inl f) => f.2.1.2.2.2.2.1.length ≤ 1048576
  | .inr (.inr (.inl f)) => f.1.2.1.length ≤ 1048576
  | .inr (.inr (.inr (.inl f))) => f.1.2.1.length ≤ 1048576
  | .inr (.inr (.inr (.inr _))) => False
def c29b (g : Sen) : Con := { ps := [(false, 0, tyF4)], rs := [(1, tyB), (0, tyErr)], pre := fun x => f4Sz x.1, post := fun x y _ => (f4OK x.1 → y.1 = sumB (f4Lay x.1) ∧ y.2.1 = .inr ()) ∧ (¬ f4OK x.1 → y.1 = [] ∧ y.2.1 = .inl (some (-1, g.form, ()))), gl := g.gl }
set_option maxHeartbeats 8000000 in
theorem ok29b (g : Sen) : FnOK Tryd.prog 29 (c29b g) := by
  refine FnOK.of_vc mixed tabM4Ok (.cons en89 ok89 (.cons en88 ok88 (.cons en92 ok92 (.cons en91 ok91 (.cons en84 ok84 (.cons en83 ok83 (.cons en87 ok87 (.cons en86 ok86 (.cons en44 ok44 .nil))))))))) Tryd.func29 rfl (by show 1 ≤ Tryd.f29.ntmps; decide) lv29 hd29 ?_
  rintro ⟨(f | f | f | f | f), ⟨⟩⟩ hsz hwf
  · obtain ⟨⟨k, c, ⟨⟩⟩, ⟨next, rs, ⟨⟩⟩, ⟨⟩⟩ := f
    have hl : rs.length ≤ 1048576 := hsz
    generalize hM : real = M
    cbv
    refine ⟨fun _ => hl, ?_⟩
    rintro ⟨(y : Bool), ⟨⟩⟩ x' (hy : y = true ↔ tabOK next rs) - -
    cbv
    refine splM (fun h => ?_) (fun h => ?_) <;> cbv
    · have hyf : ¬ tabOK next rs := fun ho => by have := hy.2 ho; subst this; subst hM; cases h
      refine ⟨ot29_2, (fun _ => by kernel_rfl), ?_⟩
      cbv
      repeat' (refine And.intro ?_ ?_)
      all_goals first | exact True.intro | skip
      rintro -
      exact ⟨fun ho => absurd ho hyf, fun _ => ⟨rfl, rfl⟩⟩
    · have hyt : y = true := by cases y <;> first | rfl | (subst hM; cases h)
      have hOK := hy.1 hyt
      refine ⟨fun _ => hOK.2.1, ?_⟩
      rintro ⟨(b : List Int), ⟨⟩⟩ x'' (hb : b = layT k c next rs) - -
      cbv
      refine ⟨ot29_4, (fun _ => by kernel_rfl), ?_⟩
      cbv
      repeat' (first
        | exact True.intro
        | (refine And.intro (by (try subst hM); (try simp only [jqn] at *); (try simp only [jqi] at *); (try simp only [real, jq1, jq2, jq3, jq4, jq5, jq6, sEq_dec, Bool.not_true, Bool.not_false, gt_iff_lt, ge_iff_le] at *); omega) ?_)
        | (refine And.intro (fun _ => by (try subst hM); (try simp only [jqn] at *); (try simp only [jqi] at *); (try simp only [real, jq1, jq2, jq3, jq4, jq5, jq6, sEq_dec, Bool.not_true, Bool.not_false, gt_iff_lt, ge_iff_le] at *); show ((b.drop _).take _).length ≤ 1048576; simp; omega) ?_
           rintro ⟨(s : Int), ⟨⟩⟩ q (hs : s = crcV (M.cut b 0 124)) hw -
           have hk2 : 0 ≤ s ∧ s ≤ 4294967295 := (show InK .u32 s from hw.1)
           cbv)
        | (refine And.intro ?_ ?_))
      all_goals
        rintro -
        refine ⟨fun _ => ⟨?_, rfl⟩, fun hn => absurd hOK hn⟩
        (try subst hM); (try simp only [jqn] at *); (try simp only [jqi] at *); (try simp only [real, jq1, jq2, jq3, jq4, jq5, jq6, sEq_dec, Bool.not_true, Bool.not_false, gt_iff_lt, ge_iff_le] at *)
        show _ = sumB (layT k c next rs)
        rw [← hb, wrap_crc _ hk2, hs]; rfl
  · obtain ⟨⟨k, c, ⟨⟩⟩, ⟨bl, ge, ne, ta, rs, ⟨⟩⟩, ⟨⟩⟩ := f
    have hl : rs.length ≤ 1048576 := hsz
    generalize hM : real = M
    cbv
    refine ⟨fun _ => hl, ?_⟩
    rintro ⟨(y : Bool), ⟨⟩⟩ x' (hy : y = true ↔ supOK bl ge ne ta rs) - -
    cbv
    refine splM (fun h => ?_) (fun h => ?_) <;> cbv
    · have hyf : ¬ supOK bl ge ne ta rs := fun ho => by have := hy.2 ho; subst this; subst hM; cases h
      refine ⟨ot29_2, (fun _ => by kernel_rfl), ?_⟩
      cbv
      repeat' (refine And.intro ?_ ?_)
      all_goals first | exact True.intro | skip
      rintro -
      exact ⟨fun ho => absurd ho hyf, fun _ => ⟨rfl, rfl⟩⟩
    · have hyt : y = true := by cases y <;> first | rfl | (subst hM; cases h)
      have hOK := hy.1 hyt
      refine ⟨fun _ => hOK.2.2.1.2, ?_⟩
      rintro ⟨(b : List Int), ⟨⟩⟩ x'' (hb : b = layS k c bl ge ne ta rs) - -
      cbv
      refine ⟨ot29_4, (fun _ => by kernel_rfl), ?_⟩
      cbv
      repeat' (first
        | exact True.intro
        | (refine And.intro (by (try subst hM); (try simp only [jqn] at *); (try simp only [jqi] at *); (try simp only [real, jq1, jq2, jq3, jq4, jq5, jq6, sEq_dec, Bool.not_true, Bool.not_false, gt_iff_lt, ge_iff_le] at *); omega) ?_)
        | (refine And.intro (fun _ => by (try subst hM); (try simp only [jqn] at *); (try simp only [jqi] at *); (try simp only [real, jq1, jq2, jq3, jq4, jq5, jq6, sEq_dec, Bool.not_true, Bool.not_false, gt_iff_lt, ge_iff_le] at *); show ((b.drop _).take _).length ≤ 1048576; simp; omega) ?_
           rintro ⟨(s : Int), ⟨⟩⟩ q (hs : s = crcV (M.cut b 0 124)) hw -
           have hk2 : 0 ≤ s ∧ s ≤ 4294967295 := (show InK .u32 s from hw.1)
           cbv)
        | (refine And.intro ?_ ?_))
      all_goals
        rintro -
        refine ⟨fun _ => ⟨?_, rfl⟩, fun hn => absurd hOK hn⟩
        (try subst hM); (try simp only [jqn] at *); (try simp only [jqi] at *); (try simp only [real, jq1, jq2, jq3, jq4, jq5, jq6, sEq_dec, Bool.not_true, Bool.not_false, gt_iff_lt, ge_iff_le] at *)
        show _ = sumB (layS k c bl ge ne ta rs)
        rw [← hb, wrap_crc _ hk2, hs]; rfl
  · obtain ⟨⟨⟨k, c, ⟨⟩⟩, es, ⟨⟩⟩, ⟨⟩⟩ := f
    have hl : es.length ≤ 1048576 := hsz
    generalize hM : real = M
    cbv
    refine ⟨fun _ => hl, ?_⟩
    rintro ⟨(y : Bool), ⟨⟩⟩ x' (hy : y = true ↔ leafOK es) - -
    cbv
    refine splM (fun h => ?_) (fun h => ?_) <;> cbv
    · have hyf : ¬ leafOK es := fun ho => by have := hy.2 ho; subst this; subst hM; cases h
      refine ⟨ot29_2, (fun _ => by kernel_rfl), ?_⟩
      cbv
      repeat' (refine And.intro ?_ ?_)
      all_goals first | exact True.intro | skip
      rintro -
      exact ⟨fun ho => absurd ho hyf, fun _ => ⟨rfl, rfl⟩⟩
    · have hyt : y = true := by cases y <;> first | rfl | (subst hM; cases h)
      have hOK := hy.1 hyt
      refine ⟨fun _ => hOK, ?_⟩
      rintro ⟨(b : List Int), ⟨⟩⟩ x'' (hb : b = layL k c es) - -
      cbv
      refine ⟨ot29_4, (fun _ => by kernel_rfl), ?_⟩
      cbv
      repeat' (first
        | exact True.intro
        | (refine And.intro (by (try subst hM); (try simp only [jqn] at *); (try simp only [jqi] at *); (try simp only [real, jq1, jq2, jq3, jq4, jq5, jq6, sEq_dec, Bool.not_true, Bool.not_false, gt_iff_lt, ge_iff_le] at *); omega) ?_)
        | (refine And.intro (fun _ => by (try subst hM); (try simp only [jqn] at *); (try simp only [jqi] at *); (try simp only [real, jq1, jq2, jq3, jq4, jq5, jq6, sEq_dec, Bool.not_true, Bool.not_false, gt_iff_lt, ge_iff_le] at *); show ((b.drop _).take _).length ≤ 1048576; simp; omega) ?_
           rintro ⟨(s : Int), ⟨⟩⟩ q (hs : s = crcV (M.cut b 0 124)) hw -
           have hk2 : 0 ≤ s ∧ s ≤ 4294967295 := (show InK .u32 s from hw.1)
           cbv)
        | (refine And.intro ?_ ?_))
      all_goals
        rintro -
        refine ⟨fun _ => ⟨?_, rfl⟩, fun hn => absurd hOK hn⟩
        (try subst hM); (try simp only [jqn] at *); (try simp only [jqi] at *); (try simp only [real, jq1, jq2, jq3, jq4, jq5, jq6, sEq_dec, Bool.not_true, Bool.not_false, gt_iff_lt, ge_iff_le] at *)
        show _ = sumB (layL k c es)
        rw [← hb, wrap_crc _ hk2, hs]; rfl
  · obtain ⟨⟨⟨k, c, ⟨⟩⟩, es, ⟨⟩⟩, ⟨⟩⟩ := f
    have hl : es.length ≤ 1048576 := hsz
    generalize hM : real = M
    cbv
    refine ⟨fun _ => hl, ?_⟩
    rintro ⟨(y : Bool), ⟨⟩⟩ x' (hy : y = true ↔ innerOK es) - -
    cbv
    refine splM (fun h => ?_) (fun h => ?_) <;> cbv
    · have hyf : ¬ innerOK es := fun ho => by have := hy.2 ho; subst this; subst hM; cases h
      refine ⟨ot29_2, (fun _ => by kernel_rfl), ?_⟩
      cbv
      repeat' (refine And.intro ?_ ?_)
      all_goals first | exact True.intro | skip
      rintro -
      exact ⟨fun ho => absurd ho hyf, fun _ => ⟨rfl, rfl⟩⟩
    · have hyt : y = true := by cases y <;> first | rfl | (subst hM; cases h)
      have hOK := hy.1 hyt
      refine ⟨fun _ => hOK, ?_⟩
      rintro ⟨(b : List Int), ⟨⟩⟩ x'' (hb : b = layI k c es) - -
      cbv
      refine ⟨ot29_4, (fun _ => by kernel_rfl), ?_⟩
      cbv
      repeat' (first
        | exact True.intro
        | (refine And.intro (by (try subst hM); (try simp only [jqn] at *); (try simp only [jqi] at *); (try simp only [real, jq1, jq2, jq3, jq4, jq5, jq6, sEq_dec, Bool.not_true, Bool.not_false, gt_iff_lt, ge_iff_le] at *); omega) ?_)
        | (refine And.intro (fun _ => by (try subst hM); (try simp only [jqn] at *); (try simp only [jqi] at *); (try simp only [real, jq1, jq2, jq3, jq4, jq5, jq6, sEq_dec, Bool.not_true, Bool.not_false, gt_iff_lt, ge_iff_le] at *); show ((b.drop _).take _).length ≤ 1048576; simp; omega) ?_
           rintro ⟨(s : Int), ⟨⟩⟩ q (hs : s = crcV (M.cut b 0 124)) hw -
           have hk2 : 0 ≤ s ∧ s ≤ 4294967295 := (show InK .u32 s from hw.1)
           cbv)
        | (refine And.intro ?_ ?_))
      all_goals
        rintro -
        refine ⟨fun _ => ⟨?_, rfl⟩, fun hn => absurd hOK hn⟩
        (try subst hM); (try simp only [jqn] at *); (try simp only [jqi] at *); (try simp only [real, jq1, jq2, jq3, jq4, jq5, jq6, sEq_dec, Bool.not_true, Bool.not_false, gt_iff_lt, ge_iff_le] at *)
        show _ = sumB (layI k c es)
        rw [← hb, wrap_crc _ hk2, hs]; rfl
  · exact False.elim hsz
end Go.Proofs.YtmjeghlfmhbjdaaDoor.EngTab
