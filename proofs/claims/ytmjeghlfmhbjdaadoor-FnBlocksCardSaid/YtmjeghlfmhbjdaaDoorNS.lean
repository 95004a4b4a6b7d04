/- Contracts: the specification's EncodeNode, and the plain law of nodes. -/
import Derived.Test.YtmjeghlfmhbjdaaDoorLl
import Derived.Test.YtmjeghlfmhbjdaaDoorO
namespace Go.Proofs.YtmjeghlfmhbjdaaDoor.EngTab
open Go.Proofs.YtmjeghlfmhbjdaaDoor.Eng
set_option maxRecDepth 100000
set_option linter.unusedVariables false
set_option linter.unusedSimpArgs false
abbrev tyNode : Ty := .pair (.int .i64) (.pair (.sl tyEnt) .unit)
def nodeOK (kind : Int) (es : List EntD) : Prop := (kind = 1 ∧ leafOK es) ∨ (kind = 2 ∧ innerOK es)
def entOK (kind : Int) (es : List EntD) (i : Nat) : Prop := ascOK es i ∧ (kind = 1 → (entAt es i).2.2.1 = 0 ∧ (entAt es i).2.1.size ≤ 10) ∧ (kind = 2 → (entAt es i).2.1.size = 0 ∧ 2 ≤ (entAt es i).2.2.1 ∧ (entAt es i).2.2.1 < 512)
theorem nodeOK_iff {kind : Int} {es : List EntD} : nodeOK kind es ↔ (kind = 1 ∨ kind = 2) ∧ es.length ≤ 5 ∧ (kind = 2 → 2 ≤ es.length) ∧ ∀ i, i < es.length → entOK kind es i := by
  constructor
  · rintro (⟨rfl, h1, h2, h3⟩ | ⟨rfl, h1, h2, h3, h4⟩)
    · exact ⟨.inl rfl, h1, by omega, fun i hi => ⟨h3 i hi, fun _ => h2 i hi, by omega⟩⟩
    · exact ⟨.inr rfl, h2, fun _ => h1, fun i hi => ⟨h4 i hi, by omega, fun _ => h3 i hi⟩⟩
  · rintro ⟨rfl | rfl, h1, h2, h3⟩
    · exact .inl ⟨rfl, h1, fun i hi => (h3 i hi).2.1 rfl, fun i hi => (h3 i hi).1⟩
    · exact .inr ⟨rfl, h2 rfl, h1, fun i hi => (h3 i hi).2.2 rfl, fun i hi => (h3 i hi).1⟩
def c37 : Con := Con.of ⟨[(false, 0, tyNode)], [(0, .bool)], fun x => x.1.2.1.length ≤ 1048576, fun x y _ => (y.1 = true ↔ nodeOK x.1.1 x.1.2.1)⟩
set_option maxHeartbeats 8000000 in
theorem ok37 : FnOK Tryd.prog 37 c37 := by
  refine FnOK.of_vc mixed tabOk .nil Tryd.func37 rfl (by decide) lv37 hd37 ?_
  rintro ⟨⟨(kind : Int), (es : List EntD), ⟨⟩⟩, ⟨⟩⟩ (hl : es.length ≤ 1048576) hwf
  generalize hM : real = M
  cbv
  have nlen : ¬ ((kind = 1 ∨ kind = 2) ∧ es.length ≤ 5 ∧ (kind = 2 → 2 ≤ es.length) ∧ ∀ i, i < es.length → entOK kind es i) → (false = true ↔ nodeOK kind es) := fun hn => ⟨fun e => (by cases e), fun ho => absurd (nodeOK_iff.1 ho) hn⟩
  repeat' (refine splM (fun h => ?_) (fun h => ?_) <;> cbv)
  all_goals first
    | (rintro -; refine nlen (fun ho => ?_); obtain ⟨o1, o2, o3, _⟩ := ho; (try subst hM); (try simp only [jqn] at *); (try simp only [jqi] at *); (try simp only [real, jq1, jq2, jq3, jq4, jq5, jq6, sEq_dec, Bool.not_true, Bool.not_false, gt_iff_lt, ge_iff_le] at *); omega)
    | skip
  all_goals
    have hk : kind = 1 ∨ kind = 2 := by
      (try subst hM); (try simp only [jqn] at *); (try simp only [jqi] at *); (try simp only [real, jq1, jq2, jq3, jq4, jq5, jq6, sEq_dec, Bool.not_true, Bool.not_false, gt_iff_lt, ge_iff_le] at *)
      omega
    have h5 : es.length ≤ 5 := by
      (try subst hM); (try simp only [jqn] at *); (try simp only [jqi] at *); (try simp only [real, jq1, jq2, jq3, jq4, jq5, jq6, sEq_dec, Bool.not_true, Bool.not_false, gt_iff_lt, ge_iff_le] at *)
      omega
    have h2 : kind = 2 → 2 ≤ es.length := by
      (try subst hM); (try simp only [jqn] at *); (try simp only [jqi] at *); (try simp only [real, jq1, jq2, jq3, jq4, jq5, jq6, sEq_dec, Bool.not_true, Bool.not_false, gt_iff_lt, ge_iff_le] at *)
      omega
    refine ⟨fun m Γ => ∃ (i : Nat) (j : Int), j = i ∧ i ≤ es.length ∧ (∀ k, k < i → entOK kind es k) ∧ m = es.length - i ∧ Γ = ⟨92, [(1, .ad 0 tyNode 0 []), (3, .pv [] (.int .i64) (M.ofN (M.len es))), (4, .pv [] (.int .i64) j)], [(0, .box (.consA (.pv [] (.int .i64) kind) (.consA (.pv [] (.sl tyEnt) es) .nilA)))], [.hole 0]⟩, ⟨_, 0, 0, rfl, Nat.zero_le _, by omega, rfl, rfl⟩, ?_⟩
    rintro m _ ⟨i, j, hj, hi, hx, rfl, rfl⟩ -
    cbv
    refine splM (fun h => ?_) (fun h => ?_) <;> cbv
    · have hin : i < es.length := by
        (try subst hM); (try simp only [jqn] at *); (try simp only [jqi] at *); (try simp only [real, jq1, jq2, jq3, jq4, jq5, jq6, sEq_dec, Bool.not_true, Bool.not_false, gt_iff_lt, ge_iff_le] at *)
        omega
      (try simp only [jqn] at hi hj); (try simp only [jqi] at hi hj)
      have hji : j.toNat = i := by rw [hj]; simp
      have e1 : 0 < i → IntKind.wrap .i64 (j - 1) = ((i - 1 : Nat) : Int) := fun hi0 => by rw [hj, w64 (by omega)]; omega
      have e0 : es.getD j.toNat (⟨#[]⟩, ⟨#[]⟩, 0, PUnit.unit) = entAt es i := by rw [hji]; rfl
      have ep : es.getD (((i - 1 : Nat) : Int)).toNat (⟨#[]⟩, ⟨#[]⟩, 0, PUnit.unit) = entAt es (i - 1) := by rw [Int.toNat_natCast]; rfl
      have bad : ¬ entOK kind es i → ((false = true) ↔ nodeOK kind es) := fun hb => nlen fun ho => hb (ho.2.2.2 i hin)
      have good : entOK kind es i → ∀ k, k < i + 1 → entOK kind es k := fun hs k hk => by
        by_cases hk2 : k < i
        · exact hx k hk2
        · have : k = i := by omega
          subst this
          exact hs
      clear nlen
      rcases he : entAt es i with ⟨ky, vl, ch, ⟨⟩⟩
      have hE : entOK kind es i ↔ (ky.size ≤ 12 ∧ (0 < i → keyLt (entAt es (i - 1)).1 ky = true)) ∧ (kind = 1 → ch = 0 ∧ vl.size ≤ 10) ∧ (kind = 2 → vl.size = 0 ∧ 2 ≤ ch ∧ ch < 512) := by unfold entOK ascOK; rw [he]
      rw [hE] at bad good
      clear hE hx
      rw [he] at e0
      repeat' (first | (refine splM (fun h => ?_) (fun h => ?_) <;> cbv) | (refine And.intro (fun _ => by first | exact drawRd rfl (by decide +kernel) | exact drawTail (by decide +kernel)) ?_; cbv) | (refine And.intro (by (try subst hM); (try simp only [jqn] at *); (try simp only [jqi] at *); (try simp only [real, jq1, jq2, jq3, jq4, jq5, jq6, sEq_dec, Bool.not_true, Bool.not_false, gt_iff_lt, ge_iff_le] at *); (try rw [e1 (by omega)]); omega) ?_; cbv))
      all_goals first
        | (rintro -; refine bad (fun hs => ?_); clear bad good; obtain ⟨⟨s1, s2⟩, s3, s4⟩ := hs; (try subst hM); (try simp only [jqn] at *); (try simp only [jqi] at *); (try simp only [real, jq1, jq2, jq3, jq4, jq5, jq6, sEq_dec, Bool.not_true, Bool.not_false, gt_iff_lt, ge_iff_le] at *); simp only [e0, sEq_dec, size_nil, decide_eq_true_eq, decide_eq_false_iff_not] at *; first | omega | (have hi0 : 0 < i := (by omega); have s6 := s2 hi0; simp only [e1 hi0, ep, keyLt_eq] at *; simp_all; done))
        | (refine ⟨es.length - (i + 1), by omega, i + 1, _, ?_, hin, good ?_, rfl, rfl⟩
           · (try subst hM); (try simp only [jqn] at *); (try simp only [jqi] at *); (try simp only [real, jq1, jq2, jq3, jq4, jq5, jq6, sEq_dec, Bool.not_true, Bool.not_false, gt_iff_lt, ge_iff_le] at *)
             rw [hj, w64 (by omega)]; omega
           · clear bad good
             (try subst hM); (try simp only [jqn] at *); (try simp only [jqi] at *); (try simp only [real, jq1, jq2, jq3, jq4, jq5, jq6, sEq_dec, Bool.not_true, Bool.not_false, gt_iff_lt, ge_iff_le] at *)
             simp only [e0, sEq_dec, size_nil, decide_eq_true_eq, decide_eq_false_iff_not] at *
             refine ⟨⟨by omega, fun hi0 => ?_⟩, fun hk1 => by omega, fun hk1 => by omega⟩
             first | omega | (simp only [e1 hi0, ep, keyLt_eq] at *; simp_all))
    · rintro -
      (try subst hM); (try simp only [jqn] at *); (try simp only [jqi] at *); (try simp only [real, jq1, jq2, jq3, jq4, jq5, jq6, sEq_dec, Bool.not_true, Bool.not_false, gt_iff_lt, ge_iff_le] at *)
      have : i = es.length := by omega
      subst this
      exact ⟨fun _ => nodeOK_iff.2 ⟨hk, h5, h2, hx⟩, fun _ => rfl⟩
/-- the first i bytes of a text, filled up with zeros -/
def txt (t : ByteArray) (i : Nat) : List Int := (toBy t).take i ++ List.replicate (i - t.size) 0
theorem txt_len (t : ByteArray) (i : Nat) : (txt t i).length = i := by
  unfold txt
  simp only [List.length_append, List.length_take, toBy_len, List.length_replicate]
  omega
theorem txt_in {t : ByteArray} {i : Nat} (h : i < t.size) : txt t (i + 1) = txt t i ++ [((t[i]).toNat : Int)] := by
  unfold txt
  rw [show i + 1 - t.size = 0 by omega, show i - t.size = 0 by omega, List.take_add_one]
  have : (toBy t)[i]? = some ((t[i]).toNat : Int) := by
    unfold toBy
    rw [List.getElem?_map, List.getElem?_eq_getElem (by simpa using h)]
    rfl
  rw [this]
  simp
theorem txt_out {t : ByteArray} {i : Nat} (h : t.size ≤ i) : txt t (i + 1) = txt t i ++ [0] := by
  unfold txt
  rw [List.take_of_length_le (by rw [toBy_len]; omega), List.take_of_length_le (by rw [toBy_len]; omega), show i + 1 - t.size = (i - t.size) + 1 by omega, List.replicate_succ', List.append_assoc]
def textB (t : ByteArray) (n : Nat) : List Int := (t.size : Int) % 256 :: txt t n
def c38 : Con := Con.of ⟨[(false, 1, tyB), (false, 0, .str), (false, 0, .int .i64)], [(1, tyB)], fun x => 0 ≤ x.2.2.1 ∧ x.2.2.1 ≤ 12 ∧ x.1.length ≤ 1000, fun x y _ => y.1 = x.1 ++ textB x.2.1 x.2.2.1.toNat⟩
theorem ok38 : FnOK Tryd.prog 38 c38 := by
  refine FnOK.of_vc mixed tabOk .nil Tryd.func38 rfl (by decide) lv38 hd38 ?_
  rintro ⟨(out : List Int), (t : ByteArray), (n : Int), ⟨⟩⟩ ⟨(hn0 : 0 ≤ n), (hn : n ≤ 12), (hl : out.length ≤ 1000)⟩ hwf
  generalize hM : real = M
  cbv
  refine ⟨by (try subst hM); (try simp only [jqn] at *); (try simp only [jqi] at *); (try simp only [real, jq1, jq2, jq3, jq4, jq5, jq6, sEq_dec, Bool.not_true, Bool.not_false, gt_iff_lt, ge_iff_le] at *); simp; omega, ?_⟩
  refine ⟨fun m Γ => ∃ (i : Nat) (j : Int) (xs : List Int), j = i ∧ (i : Int) ≤ n ∧ xs = out ++ ((t.size : Int) % 256 :: txt t i) ∧ m = n.toNat - i ∧ Γ = ⟨33, [(0, .ref 0), (1, .pv [] .str t), (2, .pv [] (.int .i64) n), (7, .pv [] (.int .i64) j)], [(0, .row 0 (.int .u8) xs)], [.hole 0, .hole 0, .hole 0]⟩, ⟨_, 0, 0, _, rfl, hn0, ?_, rfl, rfl⟩, ?_⟩
  · (try subst hM); (try simp only [jqn] at *); (try simp only [jqi] at *); (try simp only [real, jq1, jq2, jq3, jq4, jq5, jq6, sEq_dec, Bool.not_true, Bool.not_false, gt_iff_lt, ge_iff_le] at *)
    rw [wrap8_mod]
    unfold txt; simp
  rintro m _ ⟨i, j, xs, hj, hi, hx, rfl, rfl⟩ -
  have hxl : xs.length = out.length + 1 + i := by rw [hx]; simp [txt_len]; omega
  cbv
  refine splM (fun h => ?_) (fun h => ?_) <;> cbv
  · have hin : (i : Int) < n := by
      (try subst hM); (try simp only [jqn] at *); (try simp only [jqi] at *); (try simp only [real, jq1, jq2, jq3, jq4, jq5, jq6, sEq_dec, Bool.not_true, Bool.not_false, gt_iff_lt, ge_iff_le] at *)
      omega
    (try simp only [jqn] at hi hj); (try simp only [jqi] at hi hj)
    have hji : j.toNat = i := by rw [hj]; simp
    have hlt : n.toNat - (i + 1) < n.toNat - i := by omega
    have hle : ((i + 1 : Nat) : Int) ≤ n := by omega
    have e2 : IntKind.wrap .i64 (j + 1) = ((i + 1 : Nat) : Int) := by rw [hj, w64 (by omega)]; omega
    refine splM (fun h => ?_) (fun h => ?_) <;> cbv
    · have hit : i < t.size := by
        (try subst hM); (try simp only [jqn] at *); (try simp only [jqi] at *); (try simp only [real, jq1, jq2, jq3, jq4, jq5, jq6, sEq_dec, Bool.not_true, Bool.not_false, gt_iff_lt, ge_iff_le] at *)
        omega
      (try simp only [jqn] at hi hj hin); (try simp only [jqi] at hi hj hin)
      have hg : real.sGet t j = ((t[i]).toNat : Int) := by
        show ((t[j.toNat]?).map fun b => (b.toNat : Int)).getD 0 = _
        rw [hji, getElem?_pos t i hit]; rfl
      repeat' (first | (refine And.intro (fun _ => by first | exact drawRd rfl (by decide +kernel) | exact drawTail (by decide +kernel)) ?_; cbv) | (refine And.intro (by (try subst hM); (try simp only [jqn] at *); (try simp only [jqi] at *); (try simp only [real, jq1, jq2, jq3, jq4, jq5, jq6, sEq_dec, Bool.not_true, Bool.not_false, gt_iff_lt, ge_iff_le] at *); first | omega | (simp; omega)) ?_; cbv))
      refine ⟨n.toNat - (i + 1), hlt, i + 1, _, _, ?_, hle, ?_, rfl, rfl⟩
      · (try subst hM); (try simp only [jqn] at *); (try simp only [jqi] at *); (try simp only [real, jq1, jq2, jq3, jq4, jq5, jq6, sEq_dec, Bool.not_true, Bool.not_false, gt_iff_lt, ge_iff_le] at *)
        exact e2
      · subst hM
        show xs ++ [real.sGet t j] = _
        rw [hg, hx, txt_in hit]; simp
    · have hit : t.size ≤ i := by
        (try subst hM); (try simp only [jqn] at *); (try simp only [jqi] at *); (try simp only [real, jq1, jq2, jq3, jq4, jq5, jq6, sEq_dec, Bool.not_true, Bool.not_false, gt_iff_lt, ge_iff_le] at *)
        omega
      (try simp only [jqn] at hi hj hin); (try simp only [jqi] at hi hj hin)
      repeat' (first | (refine And.intro (fun _ => by first | exact drawRd rfl (by decide +kernel) | exact drawTail (by decide +kernel)) ?_; cbv) | (refine And.intro (by (try subst hM); (try simp only [jqn] at *); (try simp only [jqi] at *); (try simp only [real, jq1, jq2, jq3, jq4, jq5, jq6, sEq_dec, Bool.not_true, Bool.not_false, gt_iff_lt, ge_iff_le] at *); first | omega | (simp; omega)) ?_; cbv))
      refine ⟨n.toNat - (i + 1), hlt, i + 1, _, _, ?_, hle, ?_, rfl, rfl⟩
      · (try subst hM); (try simp only [jqn] at *); (try simp only [jqi] at *); (try simp only [real, jq1, jq2, jq3, jq4, jq5, jq6, sEq_dec, Bool.not_true, Bool.not_false, gt_iff_lt, ge_iff_le] at *)
        exact e2
      · subst hM
        show xs ++ [0] = _
        rw [hx, txt_out hit]; simp
  · rintro -
    have : i = n.toNat := by
      (try subst hM); (try simp only [jqn] at *); (try simp only [jqi] at *); (try simp only [real, jq1, jq2, jq3, jq4, jq5, jq6, sEq_dec, Bool.not_true, Bool.not_false, gt_iff_lt, ge_iff_le] at *)
      omega
    subst this
    exact hx
def entL (e : EntD) : List Int := textB e.1 12 ++ textB e.2.1 10
def entI (e : EntD) : List Int := textB e.1 12 ++ numB e.2.2.1 2 ++ numB 0 7 ++ numB 0 2
def entB (kind : Int) (e : EntD) : List Int := if kind = 1 then entL e else entI e
theorem textB_len (t : ByteArray) (n : Nat) : (textB t n).length = n + 1 := by simp [textB, txt_len]
theorem entB_len (kind : Int) (e : EntD) : (entB kind e).length = 24 := by
  unfold entB
  split
  · simp [entL, textB_len]
  · simp [entI, textB_len, numB_len]
def entsB (kind : Int) (es : List EntD) : Nat → List Int
  | 0 => []
  | i + 1 => entsB kind es i ++ entB kind (entAt es i)
theorem entsB_len (kind : Int) (es : List EntD) : ∀ i, (entsB kind es i).length = 24 * i
  | 0 => rfl
  | i + 1 => by
    have := entsB_len kind es i
    simp only [entsB, List.length_append, entB_len, this]; omega
def specN (kind : Int) (es : List EntD) : List Int := sealB ([kind % 256, (es.length : Int) % 256, 0, 0] ++ entsB kind es es.length)
open Classical in
noncomputable def encN (kind : Int) (es : List EntD) : List Int := if nodeOK kind es then specN kind es else []
theorem encN_len {kind : Int} {es : List EntD} : (encN kind es).length ≤ 128 := by
  unfold encN
  split
  · rename_i h
    unfold specN sealB fillB
    have := (nodeOK_iff.1 h).2.1
    simp [numB_len, entsB_len]; omega
  · simp
end Go.Proofs.YtmjeghlfmhbjdaaDoor.EngTab
