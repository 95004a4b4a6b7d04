/- The laws' helpers for nodes: marks. -/
import Derived.Test.YtegbadccjidfjaaDoorNH
namespace Go.Proofs.YtegbadccjidfjaaDoor.EngTab
open Go.Proofs.YtegbadccjidfjaaDoor.Eng
set_option maxRecDepth 100000
set_option linter.unusedVariables false
set_option linter.unusedSimpArgs false
/-- the digits of k ahead of out -/
noncomputable def mkD : Nat → Nat → ByteArray → ByteArray
  | 0, _, out => out
  | f + 1, k, out => if k = 0 then out else mkD f (k / 10) (real.sApp (real.ofB [((48 + k % 10 : Nat) : Int)]) out)
noncomputable def mkT (k : Nat) : ByteArray := real.sApp ⟨#[109]⟩ (mkD 20 k ⟨#[]⟩)
def c106 : Con := Con.of ⟨[(false, 0, .int .i64)], [(0, .str)], fun x => 1 ≤ x.1 ∧ x.1 ≤ 100000000, fun x y _ => y.1 = mkT x.1.toNat⟩
theorem ok106 : FnOK Tryd.prog 106 c106 := by
  refine FnOK.of_vc mixed tabOk .nil Tryd.func106 rfl (by decide) lv106 hd106 ?_
  rintro ⟨(k : Int), ⟨⟩⟩ ⟨(h0 : 1 ≤ k), (h1 : k ≤ 100000000)⟩ hwf
  generalize hM : real = M
  cbv
  refine splM (fun h => ?_) (fun h => ?_) <;> cbv
  · exfalso
    (try subst hM); (try simp only [Eng.ncast] at *); (try simp only [Eng.nI_eq] at *); (try simp only [Eng.real, decide_eq_true_eq, decide_eq_false_iff_not, Bool.not_eq_true', Bool.not_eq_false', Bool.and_eq_true, Bool.or_eq_true, Eng.sEq_dec, Bool.not_true, Bool.not_false, gt_iff_lt, ge_iff_le] at *)
    omega
  refine ⟨fun m Γ => ∃ (q : Nat) (j : Int) (out : ByteArray), j = q ∧ (mkD m q out = mkD 20 k.toNat ⟨#[]⟩ ∧ (q < 10 ^ m ∧ q ≤ 100000000) ∧ out.size + m ≤ 20) ∧ Γ = ⟨20, [(0, .pv [] (.int .i64) j), (3, .pv [] .str out)], [], [.hole 0]⟩, ⟨20, k.toNat, k, ⟨#[]⟩, by omega, ⟨rfl, ⟨by omega, by omega⟩, Nat.le_refl _⟩, rfl⟩, ?_⟩
  rintro m _ ⟨q, j, out, hj, ⟨hq, ⟨hlt, hqb⟩, hs⟩, rfl⟩ -
  cbv
  refine splM (fun h2 => ?_) (fun h2 => ?_) <;> cbv
  · have hq0 : 0 < q := by
      (try subst hM); (try simp only [Eng.ncast] at *); (try simp only [Eng.nI_eq] at *); (try simp only [Eng.real, decide_eq_true_eq, decide_eq_false_iff_not, Bool.not_eq_true', Bool.not_eq_false', Bool.and_eq_true, Bool.or_eq_true, Eng.sEq_dec, Bool.not_true, Bool.not_false, gt_iff_lt, ge_iff_le] at *)
      omega
    (try simp only [Eng.ncast] at hj); (try simp only [Eng.nI_eq] at hj)
    obtain ⟨f, rfl⟩ : ∃ f, m = f + 1 := by
      cases m with
      | zero => simp at hlt; omega
      | succ f => exact ⟨f, rfl⟩
    have et : Int.tmod j 10 = ((q % 10 : Nat) : Int) := by rw [hj, Int.tmod_eq_emod_of_nonneg (by omega)]; omega
    have ed : Int.tdiv j 10 = ((q / 10 : Nat) : Int) := by rw [hj, Int.tdiv_eq_ediv_of_nonneg (by omega)]; omega
    have e1 : IntKind.wrap .u8 (IntKind.wrap .i64 (48 + Int.tmod j 10)) = ((48 + q % 10 : Nat) : Int) := by rw [et, w64 (by omega), w8 (by omega)]; omega
    have e2 : IntKind.wrap .i64 (Int.tdiv j 10) = ((q / 10 : Nat) : Int) := by rw [ed, w64 (by omega)]
    have ho : (real.sApp (real.ofB [((48 + q % 10 : Nat) : Int)]) out).size = out.size + 1 := by
      show (_ ++ out).size = _
      rw [ByteArray.size_append]
      show 1 + out.size = _
      omega
    have hmk : mkD f (q / 10) (real.sApp (real.ofB [((48 + q % 10 : Nat) : Int)]) out) = mkD 20 k.toNat ⟨#[]⟩ := by
      rw [← hq]
      conv => rhs; unfold mkD
      rw [if_neg (by omega)]
    have hlt2 : q / 10 < 10 ^ f := by
      rw [Nat.pow_succ] at hlt
      omega
    have hfs : f < f + 1 := Nat.lt_succ_self f
    have hqb2 : q / 10 ≤ 100000000 := by omega
    have hs2 : (real.sApp (real.ofB [((48 + q % 10 : Nat) : Int)]) out).size + f ≤ 20 := by rw [ho]; omega
    have hne : real.eq 10 0 → False := fun e => by
      have e' : (10 : Int) = 0 := e
      omega
    have hroom : real.sRoom (real.ofB [((48 + q % 10 : Nat) : Int)]) out := by
      show 1 + out.size ≤ maxL
      rw [maxL_eq]; omega
    subst hM
    refine ⟨hne, ?_, hne, f, hfs, q / 10, _, _, e2, ⟨?_, ⟨hlt2, hqb2⟩, ?_⟩, rfl⟩
    · show real.sRoom (real.ofB [IntKind.wrap .u8 (IntKind.wrap .i64 (48 + Int.tmod j 10))]) out
      rw [e1]; exact hroom
    · show mkD f (q / 10) (real.sApp (real.ofB [IntKind.wrap .u8 (IntKind.wrap .i64 (48 + Int.tmod j 10))]) out) = _
      rw [e1]; exact hmk
    · show (real.sApp (real.ofB [IntKind.wrap .u8 (IntKind.wrap .i64 (48 + Int.tmod j 10))]) out).size + f ≤ 20
      rw [e1]; exact hs2
  · have hq0 : q = 0 := by
      (try subst hM); (try simp only [Eng.ncast] at *); (try simp only [Eng.nI_eq] at *); (try simp only [Eng.real, decide_eq_true_eq, decide_eq_false_iff_not, Bool.not_eq_true', Bool.not_eq_false', Bool.and_eq_true, Bool.or_eq_true, Eng.sEq_dec, Bool.not_true, Bool.not_false, gt_iff_lt, ge_iff_le] at *)
      omega
    subst hM
    refine ⟨?_, fun _ => ?_⟩
    · show 1 + out.size ≤ maxL
      rw [maxL_eq]; omega
    · show real.sApp ⟨#[109]⟩ out = real.sApp ⟨#[109]⟩ (mkD 20 k.toNat ⟨#[]⟩)
      rw [← hq, hq0]
      cases m with
      | zero => rfl
      | succ f => unfold mkD; rw [if_pos rfl]
noncomputable def mkE (k : Nat) : EntD := (mkT k, mkT (k + 1), ((k + 2 : Nat) : Int), ())
noncomputable def markE (k : Nat) (n : Nat) : List EntD := (List.range n).map fun i => mkE (k + 3 * i)
theorem markE_succ (k n : Nat) : markE k (n + 1) = markE k n ++ [mkE (k + 3 * n)] := by simp [markE, List.range_succ]
theorem markE_len (k n : Nat) : (markE k n).length = n := by simp [markE]
theorem markE_get (k : Nat) {n i : Nat} (h : i < n) : (markE k n)[i]? = some (mkE (k + 3 * i)) := by simp [markE, h]
def c75 : Con := Con.of ⟨[(true, 1, .sl tyEnt), (false, 0, .int .i64)], [(0, .int .i64)], fun x => x.1.length ≤ 1048576 ∧ 1 ≤ x.2.1 ∧ x.2.1 ≤ 1048576, fun x y x' => y.1 = x.2.1 + 3 * x.1.length ∧ x'.1 = markE x.2.1.toNat x.1.length⟩
set_option maxHeartbeats 4000000 in
theorem ok75 : FnOK Tryd.prog 75 c75 := by
  refine FnOK.of_vc mixed tabOk (.cons en106 ok106 .nil) Tryd.func75 rfl (by decide) lv75 hd75 ?_
  rintro ⟨(xs : List EntD), (k : Int), ⟨⟩⟩ ⟨(hl : xs.length ≤ 1048576), (h0 : 1 ≤ k), (h1 : k ≤ 1048576)⟩ hwf
  generalize hM : real = M
  cbv
  refine ⟨fun m Γ => ∃ (i : Nat) (j q : Int) (ys : List EntD), j = i ∧ i ≤ xs.length ∧ (ys.length = xs.length ∧ q = k + 3 * i ∧ ys.take i = markE k.toNat i) ∧ m = xs.length - i ∧ Γ = ⟨36, [(0, .ref 0), (1, .pv [] (.int .i64) q), (5, .pv [] (.int .i64) j)], [(0, .row 0 tyEnt ys)], [.ref 0, .hole 0]⟩, ⟨_, 0, 0, k, xs, rfl, Nat.zero_le _, ⟨rfl, by simp, by simp [markE]⟩, rfl, rfl⟩, ?_⟩
  rintro m _ ⟨i, j, q, ys, hj, hi, ⟨hy, hq, ht⟩, rfl, rfl⟩ -
  cbv
  refine splM (fun h2 => ?_) (fun h2 => ?_) <;> cbv
  · have hin : i < xs.length := by
      (try subst hM); (try simp only [Eng.ncast] at *); (try simp only [Eng.nI_eq] at *); (try simp only [Eng.real, decide_eq_true_eq, decide_eq_false_iff_not, Bool.not_eq_true', Bool.not_eq_false', Bool.and_eq_true, Bool.or_eq_true, Eng.sEq_dec, Bool.not_true, Bool.not_false, gt_iff_lt, ge_iff_le] at *)
      omega
    (try simp only [Eng.ncast] at hi hj hq); (try simp only [Eng.nI_eq] at hi hj hq)
    have hji : j.toNat = i := by rw [hj]; simp
    have hq1 : IntKind.wrap .i64 (q + 1) = q + 1 := w64 (by omega)
    have hq2 : IntKind.wrap .i64 (q + 1 + 1) = q + 2 := by rw [w64 (by omega)]; omega
    have hq3 : IntKind.wrap .i64 (q + 2 + 1) = k + 3 * ((i + 1 : Nat) : Int) := by rw [w64 (by omega)]; omega
    have hj1 : IntKind.wrap .i64 (j + 1) = ((i + 1 : Nat) : Int) := by rw [hj, w64 (by omega)]; omega
    have hlen : xs.length - (i + 1) < xs.length - i := by omega
    have hqb : 1 ≤ q ∧ q + 1 ≤ 100000000 := by omega
    have hqn : q.toNat = k.toNat + 3 * i := by omega
    have hqn1 : (q + 1).toNat = k.toNat + 3 * i + 1 := by omega
    have hqn2 : q + 2 = ((k.toNat + 3 * i + 2 : Nat) : Int) := by omega
    have hjy : 0 ≤ j ∧ j < (ys.length : Int) := by omega
    clear hq hj h2
    refine ⟨fun _ => ⟨(by show 1 ≤ q; omega), (by show q ≤ 100000000; omega)⟩, ?_⟩
    rintro ⟨(t1 : ByteArray), ⟨⟩⟩ x1 (ht1 : t1 = mkT q.toNat) - -
    cbv
    have hset : ∀ (zs : List EntD) (e : EntD), (zs.set j.toNat e).length = zs.length := fun zs e => by simp
    refine ⟨?_, ?_, ?_, ?_, fun _ => ?_, ?_⟩
    · subst hM; exact hjy.1
    · subst hM; exact hjy.2
    · subst hM; exact hjy.1
    · subst hM; exact hjy.2
    · subst hM
      show 1 ≤ IntKind.wrap .i64 (q + 1) ∧ IntKind.wrap .i64 (q + 1) ≤ 100000000
      rw [hq1]; omega
    rintro ⟨(t2 : ByteArray), ⟨⟩⟩ x2 ht2' - -
    have ht2 : t2 = mkT (q + 1).toNat := by
      subst hM
      have : t2 = mkT (IntKind.wrap .i64 (q + 1)).toNat := ht2'
      rw [this, hq1]
    clear ht2'
    cbv
    refine ⟨?_, ?_, ?_, ?_, ?_⟩
    · subst hM; exact hjy.1
    · subst hM
      show j < (((ys.set j.toNat _).length : Nat) : Int)
      rw [hset]; exact hjy.2
    · subst hM; exact hjy.1
    · subst hM
      show j < (((ys.set j.toNat _).length : Nat) : Int)
      rw [hset]; exact hjy.2
    refine ⟨?_, ?_, ?_, ?_, ?_⟩
    · subst hM; exact hjy.1
    · subst hM
      show j < ((((ys.set j.toNat _).set j.toNat _).length : Nat) : Int)
      rw [hset, hset]; exact hjy.2
    · subst hM; exact hjy.1
    · subst hM
      show j < ((((ys.set j.toNat _).set j.toNat _).length : Nat) : Int)
      rw [hset, hset]; exact hjy.2
    have hiy : i < ys.length := by rw [hy]; exact hin
    have key : ∀ zs : List EntD, zs = ys.set i (mkE (k.toNat + 3 * i)) → zs.length = xs.length ∧ zs.take (i + 1) = markE k.toNat (i + 1) := fun zs hz => by
      subst hz
      refine ⟨by simp [hy], ?_⟩
      rw [List.take_add_one, List.take_set_of_le (by omega), ht, markE_succ]
      simp [hiy]
    refine ⟨_, hlen, i + 1, _, _, _, ?_, hin, ⟨(key _ ?_).1, ?_, (key _ ?_).2⟩, rfl, rfl⟩
    · subst hM; exact hj1
    · subst hM
      show ((ys.set j.toNat _).set j.toNat _).set j.toNat _ = _
      simp only [Eng.real, hji, List.set_set, List.getD_eq_getElem?_getD, List.getElem?_set_self hiy, List.length_set, Option.getD_some]
      unfold mkE
      rw [ht1, ht2, hqn, hqn1]
      rw [hq1, hq2, hqn2]
    · subst hM
      show IntKind.wrap .i64 (IntKind.wrap .i64 (IntKind.wrap .i64 (q + 1) + 1) + 1) = k + 3 * ((i + 1 : Nat) : Int)
      rw [hq1, hq2, hq3]
    · subst hM
      show ((ys.set j.toNat _).set j.toNat _).set j.toNat _ = _
      simp only [Eng.real, hji, List.set_set, List.getD_eq_getElem?_getD, List.getElem?_set_self hiy, List.length_set, Option.getD_some]
      unfold mkE
      rw [ht1, ht2, hqn, hqn1]
      rw [hq1, hq2, hqn2]
  · rintro -
    have : i = xs.length := by
      (try subst hM); (try simp only [Eng.ncast] at *); (try simp only [Eng.nI_eq] at *); (try simp only [Eng.real, decide_eq_true_eq, decide_eq_false_iff_not, Bool.not_eq_true', Bool.not_eq_false', Bool.and_eq_true, Bool.or_eq_true, Eng.sEq_dec, Bool.not_true, Bool.not_false, gt_iff_lt, ge_iff_le] at *)
      omega
    subst this
    refine ⟨hq, ?_⟩
    show ys = markE k.toNat xs.length
    rw [← ht, List.take_of_length_le (by omega)]
def c38 : Con := Con.of ⟨[(true, 1, tyNode), (false, 0, .int .i64)], [(0, .int .i64)], fun x => x.1.2.1.length ≤ 1048576 ∧ 1 ≤ x.2.1 ∧ x.2.1 ≤ 1048576, fun x y x' => y.1 = x.2.1 + 3 * x.1.2.1.length ∧ x'.1.2.1 = markE x.2.1.toNat x.1.2.1.length ∧ x'.1.1 = x.1.1⟩
theorem ok38 : FnOK Tryd.prog 38 c38 := by
  refine FnOK.of_vc mixed tabOk (.cons en75 ok75 .nil) Tryd.func38 rfl (by decide) lv38 hd38 ?_
  rintro ⟨⟨(kind : Int), (xs : List EntD), ⟨⟩⟩, (k : Int), ⟨⟩⟩ ⟨(hl : xs.length ≤ 1048576), (h0 : 1 ≤ k), (h1 : k ≤ 1048576)⟩ hwf
  generalize hM : real = M
  cbv
  refine ⟨fun _ => ⟨hl, h0, h1⟩, ?_⟩
  rintro ⟨(y : Int), ⟨⟩⟩ ⟨(zs : List EntD), x2, ⟨⟩⟩ ⟨(hy : y = k + 3 * xs.length), (hz : zs = markE k.toNat xs.length)⟩ - -
  cbv
  exact fun _ => ⟨hy, hz, rfl⟩
end Go.Proofs.YtegbadccjidfjaaDoor.EngTab
