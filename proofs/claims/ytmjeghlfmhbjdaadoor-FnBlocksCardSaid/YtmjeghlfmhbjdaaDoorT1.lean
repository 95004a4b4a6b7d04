/- impl.number writes a number's bytes into a stretch of a row: by the kit's walk, with what it leaves alone. -/
import Derived.Test.YtmjeghlfmhbjdaaDoorProg
import Derived.WalkKit
import Derived.Deep.LoopGhost
import Derived.Test.YtmjeghlfmhbjdaaDoorEn4
import Derived.Test.YtmjeghlfmhbjdaaDoorEngTab
namespace Go.Proofs.YtmjeghlfmhbjdaaDoor.EngTab
open Go.RowKit Go.Proofs.YtmjeghlfmhbjdaaDoor.Eng
set_option linter.unusedVariables false
set_option linter.unusedSimpArgs false
structure Hid (p : Prop) : Prop where
  mk :: (out : p)
theorem wrB_ge (arr : Array Value) (o : Nat) (v : Int) (k : Nat) : ∀ i, i ≤ k → (wrB arr o v i)[o + k]? = arr[o + k]?
  | 0, _ => rfl
  | i + 1, h => by
    unfold wrB
    rw [Array.getElem?_setIfInBounds_ne (by omega)]
    exact wrB_ge arr o v k i (by omega)
theorem self_upd {w : World} {b : Nat} {o : Obj} (h : w.heap[b]? = some o) : w = upd w b o := by
  have hlt : b < w.heap.size := (Array.getElem?_eq_some_iff.1 h).1
  have e : w.heap.setIfInBounds b o = w.heap := by
    apply Array.ext_getElem?
    intro i
    rw [Array.getElem?_setIfInBounds]
    split
    · rename_i hi; subst hi; simp [hlt]; exact ((Array.getElem?_eq_some_iff.1 h).2).symm
    · rfl
  show w = { w with heap := w.heap.setIfInBounds b o }
  rw [e]
set_option maxHeartbeats 4000000 in
set_option maxRecDepth 100000 in
theorem number_walk (w : World) (b o l cap : Nat) (arr : Array Value) (ty : TypeId) (hb : w.heap[b]? = some (.cells arr ty (0, 0))) (ho : o + l ≤ arr.size) (v : Int) (n : Nat) (hn : n ≤ l) (hn8 : n ≤ 8) (hcl : ∀ k, k < l → ∃ z, arr[o + k]? = some (.int .u8 z)) :
    Calls Tryd.prog 43 #[.slice (some ⟨b, o, none⟩) l cap, .int .i64 v, .int .i64 n] w fun e w' => e = .returned (.tuple #[]) ∧ w' = upd w b (.cells (wrB arr o v n) ty (0, 0)) := by
  have HB := Hid.mk hb
  have HO := Hid.mk ho
  have HC := Hid.mk hcl
  have HN := Hid.mk hn
  have H8 := Hid.mk hn8
  clear hb ho hcl hn hn8
  go_enter Tryd.func43, Tryd.ntmps43
  go_wp2
  go_loopg [8] (n + 1) (fun kq v8 w' => ∃ i : Nat, v8 = .int .i64 (i : Int) ∧ Hid (kq + i = n + 1) ∧ Hid (i ≤ n) ∧ Hid (w' = upd w b (.cells (wrB arr o v i) ty (0, 0))))
  case atStart => exact ⟨0, rfl, ⟨by omega⟩, ⟨Nat.zero_le _⟩, ⟨self_upd HB.out⟩⟩
  case round =>
    obtain ⟨i, rfl, HA, HL, HW⟩ := hrel
    by_cases hn : (i : Int) < (n : Int)
    · have D0 : decide ((i : Int) < (n : Int)) = true := decide_eq_true hn
      have hin : i < n := by omega
      have D1 : decide ((i : Int) < (l : Int)) = true := decide_eq_true (by have := HN.out; omega)
      have D2 : decide (0 ≤ (i : Int)) = true := decide_eq_true (by omega)
      have D5 : (i : Int) < (l : Int) := by have := HN.out; omega
      have D6 : 0 ≤ (i : Int) := by omega
      have hw8 : wrap64 (8 * (i : Int)) = 8 * (i : Int) := by have h8 := H8.out; exact IntWalk.wrap64_in _ ⟨by omega, by omega⟩
      have D3 : 0 ≤ 8 * (i : Int) := by omega
      have D4 : 8 * (i : Int) ≤ 64 := by have := H8.out; omega
      obtain ⟨z, hz⟩ : ∃ z, (wrB arr o v i)[o + i]? = some (.int .u8 z) := by
        rw [wrB_ge arr o v i i (Nat.le_refl _)]
        exact HC.out i (by have := HN.out; omega)
      have HH : Hid (wr.heap[b]? = some (.cells (wrB arr o v i) ty (0, 0))) := ⟨by rw [HW.out]; exact upd_get HB.out⟩
      have hc0 : wr.cell? ⟨b, o + i, none⟩ = some (.int .u8 z) := by unfold World.cell?; rw [HH.out]; exact hz
      have hf0 : wr.frozen? ⟨b, o + i, none⟩ = false := by unfold World.frozen?; rw [HH.out]; simp
      go_wp2
      go_roundg (gk - 1)
      case measure => have := HA.out; have := HL.out; omega
      case rel => exact ⟨i + 1, by simp, ⟨by have := HA.out; have := HL.out; omega⟩, ⟨by omega⟩, ⟨by rw [setCell_upd HH.out, HW.out, upd_upd]; rfl⟩⟩
    · have D0 : decide ((i : Int) < (n : Int)) = false := decide_eq_false hn
      go_wp2
      have : i = n := by have := HL.out; omega
      subst this
      exact bodyPost_end (v := .tuple #[]) (by simp [results, Tryd.f43]) rfl ⟨rfl, HW.out⟩
theorem writes92 : Writes Tryd.prog 43 := ⟨en43, fun w b o l cap arr ty v n h1 h2 h3 h4 h5 => number_walk w b o l cap arr ty h1 h2 v n h3 h4 h5⟩
end Go.Proofs.YtmjeghlfmhbjdaaDoor.EngTab

/- Contracts of the codecs' functions, first text: the bytes of numbers, a form's head. -/
namespace Go.Proofs.YtmjeghlfmhbjdaaDoor.EngTab
open Go.Proofs.YtmjeghlfmhbjdaaDoor.Eng
open IntKind (wrap)
set_option maxRecDepth 100000
set_option linter.unusedVariables false
set_option linter.unusedSimpArgs false
abbrev tyB : Ty := .sl (.int .u8)
abbrev tyA : Ty := .arr 128 (.int .u8)
abbrev tyHdr : Ty := .pair (.int .i64) (.pair (.int .i64) .unit)
/-- A number's bytes, the lowest first. -/
def numB (v : Int) (n : Nat) : List Int := (List.range n).map fun i => v / 2 ^ (8 * i) % 256
theorem numB_succ (v : Int) (n : Nat) : numB v (n + 1) = numB v n ++ [v / 2 ^ (8 * n) % 256] := by simp [numB, List.range_succ]
theorem numB_len (v : Int) (n : Nat) : (numB v n).length = n := by simp [numB]
theorem wrap8_mod (x : Int) : wrap .u8 x = x % 256 := by rw [IntKind.wrap_u8]
def begB (k c : Int) : List Int := ((List.replicate 128 (0 : Int)).set 0 (k % 256)).set 1 (c % 256)
def c82 : Con := Con.of ⟨[(false, 0, tyHdr)], [(0, tyA)], fun _ => True, fun x y _ => y.1 = begB x.1.1 x.1.2.1⟩
theorem ok82 : FnOK Tryd.prog 82 c82 := by
  refine FnOK.of_vc mixed tabOk .nil Tryd.func82 rfl (by decide) lv82 hd82 ?_
  rintro ⟨⟨(k : Int), (c : Int), ⟨⟩⟩, ⟨⟩⟩ - hwf
  generalize hM : real = M
  cbv
  intro _
  (try subst hM); (try simp only [jqn] at *); (try simp only [jqi] at *); (try simp only [real, jq1, jq2, jq3, jq4, jq5, jq6, sEq_dec, Bool.not_true, Bool.not_false, gt_iff_lt, ge_iff_le] at *)
  show _ = begB k c
  simp only [wrap8_mod]; rfl
theorem shr_byte (v : Int) (i : Nat) (h : i < 8) : wrap .u8 (v.fdiv (2 ^ (min (8 * (i : Int)).toNat 64))) = v / 2 ^ (8 * i) % 256 := by
  rw [wrap8_mod]
  have e : min (8 * (i : Int)).toNat 64 = 8 * i := by omega
  rw [e, Int.fdiv_eq_ediv_of_nonneg]
  exact Int.le_of_lt (Int.pow_pos (by decide))
def c39 : Con := Con.of ⟨[(false, 1, tyB), (false, 0, .int .i64), (false, 0, .int .i64)], [(1, tyB)], fun x => 0 ≤ x.2.2.1 ∧ x.2.2.1 ≤ 8 ∧ x.1.length ≤ 1000, fun x y _ => y.1 = x.1 ++ numB x.2.1 x.2.2.1.toNat⟩
theorem ok39 : FnOK Tryd.prog 39 c39 := by
  refine FnOK.of_vc mixed tabOk .nil Tryd.func39 rfl (by decide) lv39 hd39 ?_
  rintro ⟨(out : List Int), (v : Int), (n : Int), ⟨⟩⟩ ⟨(hn0 : 0 ≤ n), (hn8 : n ≤ 8), (hl : out.length ≤ 1000)⟩ hwf
  generalize hM : real = M
  cbv
  refine ⟨fun m Γ => ∃ (i : Nat) (j : Int) (xs : List Int), j = i ∧ (i : Int) ≤ n ∧ xs = out ++ numB v i ∧ m = n.toNat - i ∧ Γ = ⟨23, [(0, .ref 0), (1, .pv [] (.int .i64) v), (2, .pv [] (.int .i64) n), (7, .pv [] (.int .i64) j)], [(0, .row 0 (.int .u8) xs)], [.hole 0, .hole 0, .hole 0]⟩, ⟨_, 0, 0, _, rfl, hn0, by simp [numB], rfl, rfl⟩, ?_⟩
  rintro m _ ⟨i, j, xs, hj, hi, hx, rfl, rfl⟩ -
  cbv
  refine splM (fun h => ?_) (fun h => ?_) <;> cbv
  · have hin : i < n.toNat := by
      (try subst hM); (try simp only [jqn] at *); (try simp only [jqi] at *); (try simp only [real, jq1, jq2, jq3, jq4, jq5, jq6, sEq_dec, Bool.not_true, Bool.not_false, gt_iff_lt, ge_iff_le] at *)
      omega
    (try simp only [jqn] at hi hj); (try simp only [jqi] at hi hj)
    have e1 : wrap .u64 (wrap .i64 (8 * j)) = 8 * (i : Int) := by rw [hj, w64 (by omega)]; exact IntWalk.u64_in _ (by omega)
    have e2 : wrap .i64 (j + 1) = ((i + 1 : Nat) : Int) := by rw [hj, w64 (by omega)]; omega
    refine ⟨by (try subst hM); (try simp only [jqn] at *); (try simp only [jqi] at *); (try simp only [real, jq1, jq2, jq3, jq4, jq5, jq6, sEq_dec, Bool.not_true, Bool.not_false, gt_iff_lt, ge_iff_le] at *); rw [e1]; omega, by (try subst hM); (try simp only [jqn] at *); (try simp only [jqi] at *); (try simp only [real, jq1, jq2, jq3, jq4, jq5, jq6, sEq_dec, Bool.not_true, Bool.not_false, gt_iff_lt, ge_iff_le] at *); subst hx; simp [numB_len]; omega, n.toNat - (i + 1), by omega, i + 1, _, _, ?_, ?_, ?_, rfl, rfl⟩
    · (try subst hM); (try simp only [jqn] at *); (try simp only [jqi] at *); (try simp only [real, jq1, jq2, jq3, jq4, jq5, jq6, sEq_dec, Bool.not_true, Bool.not_false, gt_iff_lt, ge_iff_le] at *)
      exact e2
    · (try subst hM); (try simp only [jqn] at *); (try simp only [jqi] at *); (try simp only [real, jq1, jq2, jq3, jq4, jq5, jq6, sEq_dec, Bool.not_true, Bool.not_false, gt_iff_lt, ge_iff_le] at *)
      omega
    · (try subst hM); (try simp only [jqn] at *); (try simp only [jqi] at *); (try simp only [real, jq1, jq2, jq3, jq4, jq5, jq6, sEq_dec, Bool.not_true, Bool.not_false, gt_iff_lt, ge_iff_le] at *)
      have h8 := shr_byte v i (by omega)
      rw [e1, hx, numB_succ]
      simp only [IntKind.bits]
      rw [h8]
      simp
  · rintro -
    (try subst hM); (try simp only [jqn] at *); (try simp only [jqi] at *); (try simp only [real, jq1, jq2, jq3, jq4, jq5, jq6, sEq_dec, Bool.not_true, Bool.not_false, gt_iff_lt, ge_iff_le] at *)
    have : i = n.toNat := by omega
    subst this
    exact hx
def c43n : List FuncId := [92]
end Go.Proofs.YtmjeghlfmhbjdaaDoor.EngTab

/- Contracts of the codecs' functions, second text: a table's bytes. -/
namespace Go.Proofs.YtmjeghlfmhbjdaaDoor.EngTab
open Go.Proofs.YtmjeghlfmhbjdaaDoor.Eng
open IntKind (wrap)
set_option maxRecDepth 100000
set_option linter.unusedVariables false
set_option linter.unusedSimpArgs false
abbrev tyRun : Ty := .pair (.int .i64) (.pair (.int .i64) (.pair (.int .i64) .unit))
abbrev tyTab : Ty := .pair (.int .i64) (.pair (.sl tyRun) .unit)
abbrev tyTF : Ty := .pair tyHdr (.pair tyTab .unit)
abbrev RunD : Type := Int × Int × Int × Unit
def tabW : Tab := tab.wrs [43]
theorem tabWOk : TabOk Tryd.prog tabW := tabOk.wrs (by intro f hf; simp at hf; subst hf; exact writes92)
def ovr (b : List Int) (at' : Int) (ys : List Int) : List Int := b.take at'.toNat ++ ys ++ b.drop (at'.toNat + ys.length)
def putRun (b : List Int) (i : Nat) (r : RunD) : List Int := ovr (ovr (ovr b (4 + 6 * i) (numB r.1 2)) (6 + 6 * i) (numB r.2.1 2)) (8 + 6 * i) (numB r.2.2.1 2)
def layR (b : List Int) (rs : List RunD) : Nat → List Int
  | 0 => b
  | i + 1 => putRun (layR b rs i) i (rs.getD i (0, 0, 0, ()))
def layT (k c next : Int) (rs : List RunD) : List Int := layR (ovr (begB k c) 2 (numB next 2)) rs rs.length
def c88 : Con := Con.of ⟨[(false, 0, tyTF)], [(0, tyA)], fun x => x.1.2.1.2.1.length ≤ 20, fun x y _ => y.1 = layT x.1.1.1 x.1.1.2.1 x.1.2.1.1 x.1.2.1.2.1⟩
theorem ok88 : FnOK Tryd.prog 88 c88 := by
  refine FnOK.of_vc mixed tabWOk (.cons en82 ok82 .nil) Tryd.func88 rfl (by decide) lv88 hd88 ?_
  rintro ⟨⟨⟨(k : Int), (c : Int), ⟨⟩⟩, ⟨(next : Int), (rs : List RunD), ⟨⟩⟩, ⟨⟩⟩, ⟨⟩⟩ (hl : rs.length ≤ 20) hwf
  generalize hM : real = M
  cbv
  refine ⟨fun _ => trivial, ?_⟩
  rintro ⟨(b0 : List Int), ⟨⟩⟩ x' (hb : b0 = begB k c) - -
  cbv
  refine ⟨(fun _ => by first | exact drawRd rfl (by decide +kernel) | exact drawTail (by decide +kernel)), by (try subst hM); (try simp only [jqn] at *); (try simp only [jqi] at *); (try simp only [real, jq1, jq2, jq3, jq4, jq5, jq6, sEq_dec, Bool.not_true, Bool.not_false, gt_iff_lt, ge_iff_le] at *); omega, by (try subst hM); (try simp only [jqn] at *); (try simp only [jqi] at *); (try simp only [real, jq1, jq2, jq3, jq4, jq5, jq6, sEq_dec, Bool.not_true, Bool.not_false, gt_iff_lt, ge_iff_le] at *); omega, by (try subst hM); (try simp only [jqn] at *); (try simp only [jqi] at *); (try simp only [real, jq1, jq2, jq3, jq4, jq5, jq6, sEq_dec, Bool.not_true, Bool.not_false, gt_iff_lt, ge_iff_le] at *); omega, by (try subst hM); (try simp only [jqn] at *); (try simp only [jqi] at *); (try simp only [real, jq1, jq2, jq3, jq4, jq5, jq6, sEq_dec, Bool.not_true, Bool.not_false, gt_iff_lt, ge_iff_le] at *); omega, by (try subst hM); (try simp only [jqn] at *); (try simp only [jqi] at *); (try simp only [real, jq1, jq2, jq3, jq4, jq5, jq6, sEq_dec, Bool.not_true, Bool.not_false, gt_iff_lt, ge_iff_le] at *); omega, by (try subst hM); (try simp only [jqn] at *); (try simp only [jqi] at *); (try simp only [real, jq1, jq2, jq3, jq4, jq5, jq6, sEq_dec, Bool.not_true, Bool.not_false, gt_iff_lt, ge_iff_le] at *); omega, by (try subst hM); (try simp only [jqn] at *); (try simp only [jqi] at *); (try simp only [real, jq1, jq2, jq3, jq4, jq5, jq6, sEq_dec, Bool.not_true, Bool.not_false, gt_iff_lt, ge_iff_le] at *); omega, ?_⟩
  refine ⟨fun m Γ => ∃ (i : Nat) (j : Int) (xs : List Int), j = i ∧ i ≤ rs.length ∧ xs = layR (ovr (begB k c) 2 (numB next 2)) rs i ∧ m = rs.length - i ∧ Γ = ⟨46, [(2, .arp 1 (.int .u8) 128), (3, .arp 2 (.int .u8) 128), (16, .pv [] (.sl tyRun) rs), (17, .pv [] (.int .i64) (M.ofN (M.len rs))), (18, .pv [] (.int .i64) j)], [(1, .row 0 (.int .u8) (M.rep (M.ofN 128) 0)), (2, .row 0 (.int .u8) xs)], [.hole 0]⟩, ⟨_, 0, 0, _, rfl, Nat.zero_le _, ?_, rfl, rfl⟩, ?_⟩
  · (try subst hM); (try simp only [jqn] at *); (try simp only [jqi] at *); (try simp only [real, jq1, jq2, jq3, jq4, jq5, jq6, sEq_dec, Bool.not_true, Bool.not_false, gt_iff_lt, ge_iff_le] at *)
    subst hb; rfl
  rintro m _ ⟨i, j, xs, hj, hi, hx, rfl, rfl⟩ -
  cbv
  refine splM (fun h => ?_) (fun h => ?_) <;> cbv
  · have hin : i < rs.length := by
      (try subst hM); (try simp only [jqn] at *); (try simp only [jqi] at *); (try simp only [real, jq1, jq2, jq3, jq4, jq5, jq6, sEq_dec, Bool.not_true, Bool.not_false, gt_iff_lt, ge_iff_le] at *)
      omega
    (try simp only [jqn] at hi hj); (try simp only [jqi] at hi hj)
    have e4 : wrap .i64 (4 + wrap .i64 (6 * j)) = 4 + 6 * (i : Int) := by rw [hj, w64 (x := 6 * (i : Int)) (by omega), w64 (by omega)]
    have e6 : wrap .i64 (6 + wrap .i64 (6 * j)) = 6 + 6 * (i : Int) := by rw [hj, w64 (x := 6 * (i : Int)) (by omega), w64 (by omega)]
    have e8 : wrap .i64 (8 + wrap .i64 (6 * j)) = 8 + 6 * (i : Int) := by rw [hj, w64 (x := 6 * (i : Int)) (by omega), w64 (by omega)]
    refine ⟨by (try subst hM); (try simp only [jqn] at *); (try simp only [jqi] at *); (try simp only [real, jq1, jq2, jq3, jq4, jq5, jq6, sEq_dec, Bool.not_true, Bool.not_false, gt_iff_lt, ge_iff_le] at *); omega, by (try subst hM); (try simp only [jqn] at *); (try simp only [jqi] at *); (try simp only [real, jq1, jq2, jq3, jq4, jq5, jq6, sEq_dec, Bool.not_true, Bool.not_false, gt_iff_lt, ge_iff_le] at *); omega, (fun _ => by first | exact drawRd rfl (by decide +kernel) | exact drawTail (by decide +kernel)), ?_⟩
    refine ⟨by (try subst hM); (try simp only [jqn] at *); (try simp only [jqi] at *); (try simp only [real, jq1, jq2, jq3, jq4, jq5, jq6, sEq_dec, Bool.not_true, Bool.not_false, gt_iff_lt, ge_iff_le] at *); (try simp only [e4]); omega, by (try subst hM); (try simp only [jqn] at *); (try simp only [jqi] at *); (try simp only [real, jq1, jq2, jq3, jq4, jq5, jq6, sEq_dec, Bool.not_true, Bool.not_false, gt_iff_lt, ge_iff_le] at *); (try simp only [e4]); omega, by (try subst hM); (try simp only [jqn] at *); (try simp only [jqi] at *); (try simp only [real, jq1, jq2, jq3, jq4, jq5, jq6, sEq_dec, Bool.not_true, Bool.not_false, gt_iff_lt, ge_iff_le] at *); (try simp only [e4]); omega, by (try subst hM); (try simp only [jqn] at *); (try simp only [jqi] at *); (try simp only [real, jq1, jq2, jq3, jq4, jq5, jq6, sEq_dec, Bool.not_true, Bool.not_false, gt_iff_lt, ge_iff_le] at *); (try simp only [e4]); omega, by (try subst hM); (try simp only [jqn] at *); (try simp only [jqi] at *); (try simp only [real, jq1, jq2, jq3, jq4, jq5, jq6, sEq_dec, Bool.not_true, Bool.not_false, gt_iff_lt, ge_iff_le] at *); (try simp only [e4]); omega, by (try subst hM); (try simp only [jqn] at *); (try simp only [jqi] at *); (try simp only [real, jq1, jq2, jq3, jq4, jq5, jq6, sEq_dec, Bool.not_true, Bool.not_false, gt_iff_lt, ge_iff_le] at *); (try simp only [e4]); omega, by (try subst hM); (try simp only [jqn] at *); (try simp only [jqi] at *); (try simp only [real, jq1, jq2, jq3, jq4, jq5, jq6, sEq_dec, Bool.not_true, Bool.not_false, gt_iff_lt, ge_iff_le] at *); (try simp only [e4]); omega, (fun _ => by first | exact drawRd rfl (by decide +kernel) | exact drawTail (by decide +kernel)), ?_⟩
    refine ⟨by (try subst hM); (try simp only [jqn] at *); (try simp only [jqi] at *); (try simp only [real, jq1, jq2, jq3, jq4, jq5, jq6, sEq_dec, Bool.not_true, Bool.not_false, gt_iff_lt, ge_iff_le] at *); (try simp only [e6]); omega, by (try subst hM); (try simp only [jqn] at *); (try simp only [jqi] at *); (try simp only [real, jq1, jq2, jq3, jq4, jq5, jq6, sEq_dec, Bool.not_true, Bool.not_false, gt_iff_lt, ge_iff_le] at *); (try simp only [e6]); omega, by (try subst hM); (try simp only [jqn] at *); (try simp only [jqi] at *); (try simp only [real, jq1, jq2, jq3, jq4, jq5, jq6, sEq_dec, Bool.not_true, Bool.not_false, gt_iff_lt, ge_iff_le] at *); (try simp only [e6]); omega, by (try subst hM); (try simp only [jqn] at *); (try simp only [jqi] at *); (try simp only [real, jq1, jq2, jq3, jq4, jq5, jq6, sEq_dec, Bool.not_true, Bool.not_false, gt_iff_lt, ge_iff_le] at *); (try simp only [e6]); omega, by (try subst hM); (try simp only [jqn] at *); (try simp only [jqi] at *); (try simp only [real, jq1, jq2, jq3, jq4, jq5, jq6, sEq_dec, Bool.not_true, Bool.not_false, gt_iff_lt, ge_iff_le] at *); (try simp only [e6]); omega, by (try subst hM); (try simp only [jqn] at *); (try simp only [jqi] at *); (try simp only [real, jq1, jq2, jq3, jq4, jq5, jq6, sEq_dec, Bool.not_true, Bool.not_false, gt_iff_lt, ge_iff_le] at *); (try simp only [e6]); omega, by (try subst hM); (try simp only [jqn] at *); (try simp only [jqi] at *); (try simp only [real, jq1, jq2, jq3, jq4, jq5, jq6, sEq_dec, Bool.not_true, Bool.not_false, gt_iff_lt, ge_iff_le] at *); (try simp only [e6]); omega, (fun _ => by first | exact drawRd rfl (by decide +kernel) | exact drawTail (by decide +kernel)), ?_⟩
    refine ⟨by (try subst hM); (try simp only [jqn] at *); (try simp only [jqi] at *); (try simp only [real, jq1, jq2, jq3, jq4, jq5, jq6, sEq_dec, Bool.not_true, Bool.not_false, gt_iff_lt, ge_iff_le] at *); (try simp only [e8]); omega, by (try subst hM); (try simp only [jqn] at *); (try simp only [jqi] at *); (try simp only [real, jq1, jq2, jq3, jq4, jq5, jq6, sEq_dec, Bool.not_true, Bool.not_false, gt_iff_lt, ge_iff_le] at *); (try simp only [e8]); omega, by (try subst hM); (try simp only [jqn] at *); (try simp only [jqi] at *); (try simp only [real, jq1, jq2, jq3, jq4, jq5, jq6, sEq_dec, Bool.not_true, Bool.not_false, gt_iff_lt, ge_iff_le] at *); (try simp only [e8]); omega, by (try subst hM); (try simp only [jqn] at *); (try simp only [jqi] at *); (try simp only [real, jq1, jq2, jq3, jq4, jq5, jq6, sEq_dec, Bool.not_true, Bool.not_false, gt_iff_lt, ge_iff_le] at *); (try simp only [e8]); omega, by (try subst hM); (try simp only [jqn] at *); (try simp only [jqi] at *); (try simp only [real, jq1, jq2, jq3, jq4, jq5, jq6, sEq_dec, Bool.not_true, Bool.not_false, gt_iff_lt, ge_iff_le] at *); (try simp only [e8]); omega, by (try subst hM); (try simp only [jqn] at *); (try simp only [jqi] at *); (try simp only [real, jq1, jq2, jq3, jq4, jq5, jq6, sEq_dec, Bool.not_true, Bool.not_false, gt_iff_lt, ge_iff_le] at *); (try simp only [e8]); omega, by (try subst hM); (try simp only [jqn] at *); (try simp only [jqi] at *); (try simp only [real, jq1, jq2, jq3, jq4, jq5, jq6, sEq_dec, Bool.not_true, Bool.not_false, gt_iff_lt, ge_iff_le] at *); (try simp only [e8]); omega, ?_⟩
    refine ⟨rs.length - (i + 1), by omega, i + 1, _, _, ?_, hin, ?_, rfl, rfl⟩
    · (try subst hM); (try simp only [jqn] at *); (try simp only [jqi] at *); (try simp only [real, jq1, jq2, jq3, jq4, jq5, jq6, sEq_dec, Bool.not_true, Bool.not_false, gt_iff_lt, ge_iff_le] at *)
      rw [hj, w64 (by omega)]; omega
    · (try subst hM); (try simp only [jqn] at *); (try simp only [jqi] at *); (try simp only [real, jq1, jq2, jq3, jq4, jq5, jq6, sEq_dec, Bool.not_true, Bool.not_false, gt_iff_lt, ge_iff_le] at *)
      simp only [e4, e6, e8]
      have hji : j.toNat = i := by rw [hj]; simp
      rw [hji, hx]; rfl
  · rintro -
    (try subst hM); (try simp only [jqn] at *); (try simp only [jqi] at *); (try simp only [real, jq1, jq2, jq3, jq4, jq5, jq6, sEq_dec, Bool.not_true, Bool.not_false, gt_iff_lt, ge_iff_le] at *)
    have : i = rs.length := by omega
    subst this
    exact hx
end Go.Proofs.YtmjeghlfmhbjdaaDoor.EngTab

/- Contracts of the codecs' functions, third text: what a sound table is. -/
namespace Go.Proofs.YtmjeghlfmhbjdaaDoor.EngTab
open Go.Proofs.YtmjeghlfmhbjdaaDoor.Eng
open IntKind (wrap)
set_option maxRecDepth 100000
set_option linter.unusedVariables false
set_option linter.unusedSimpArgs false
def runOK (r : RunD) : Prop := 2 ≤ r.1 ∧ 1 ≤ r.2.1 ∧ r.1 ≤ 512 ∧ r.2.1 ≤ 512 ∧ r.1 + r.2.1 ≤ 512 ∧ 1 ≤ r.2.2.1 ∧ r.2.2.1 ≤ 65535
def stepOK (p r : RunD) : Prop := p.1 + p.2.1 ≤ r.1 ∧ ¬ (r.1 = p.1 + p.2.1 ∧ r.2.2.1 = p.2.2.1)
def runAt (rs : List RunD) (i : Nat) : RunD := rs.getD i (0, 0, 0, ())
def okAt (rs : List RunD) (i : Nat) : Prop := runOK (runAt rs i) ∧ (0 < i → stepOK (runAt rs (i - 1)) (runAt rs i))
def ordR (rs : List RunD) : Prop := ∀ i, i < rs.length → okAt rs i
theorem bad144 {rs : List RunD} {i : Nat} (hi : i < rs.length) (h : ¬ okAt rs i) : (false = true ↔ ordR rs) := ⟨fun e => (by cases e), fun ho => absurd (ho i hi) h⟩
def c90 : Con := Con.of ⟨[(false, 0, .sl tyRun)], [(0, .bool)], fun x => x.1.length ≤ 1048576, fun x y _ => (y.1 = true ↔ ordR x.1)⟩
theorem ok90 : FnOK Tryd.prog 90 c90 := by
  refine FnOK.of_vc mixed tabOk .nil Tryd.func90 rfl (by decide) lv90 hd90 ?_
  rintro ⟨(rs : List RunD), ⟨⟩⟩ (hl : rs.length ≤ 1048576) hwf
  generalize hM : real = M
  cbv
  refine ⟨fun m Γ => ∃ (i : Nat) (j : Int), j = i ∧ i ≤ rs.length ∧ (∀ k, k < i → okAt rs k) ∧ m = rs.length - i ∧ Γ = ⟨84, [(0, .pv [] (.sl tyRun) rs), (6, .pv [] (.sl tyRun) rs), (7, .pv [] (.int .i64) (M.ofN (M.len rs))), (8, .pv [] (.int .i64) j)], [], [.hole 0]⟩, ⟨_, 0, 0, rfl, Nat.zero_le _, by omega, rfl, rfl⟩, ?_⟩
  rintro m _ ⟨i, j, hj, hi, hx, rfl, rfl⟩ -
  cbv
  refine splM (fun h => ?_) (fun h => ?_) <;> cbv
  · have hin : i < rs.length := by
      (try subst hM); (try simp only [jqn] at *); (try simp only [jqi] at *); (try simp only [real, jq1, jq2, jq3, jq4, jq5, jq6, sEq_dec, Bool.not_true, Bool.not_false, gt_iff_lt, ge_iff_le] at *)
      omega
    (try simp only [jqn] at hi hj); (try simp only [jqi] at hi hj)
    have hji : j.toNat = i := by rw [hj]; simp
    refine ⟨by (try subst hM); (try simp only [jqn] at *); (try simp only [jqi] at *); (try simp only [real, jq1, jq2, jq3, jq4, jq5, jq6, sEq_dec, Bool.not_true, Bool.not_false, gt_iff_lt, ge_iff_le] at *); omega, by (try subst hM); (try simp only [jqn] at *); (try simp only [jqi] at *); (try simp only [real, jq1, jq2, jq3, jq4, jq5, jq6, sEq_dec, Bool.not_true, Bool.not_false, gt_iff_lt, ge_iff_le] at *); omega, ?_⟩
    have e0 : rs.getD j.toNat (0, 0, 0, PUnit.unit) = runAt rs i := by rw [hji]; rfl
    repeat' (refine splM (fun h => ?_) (fun h => ?_) <;> cbv)
    all_goals first
      | (rintro -; (try subst hM); (try simp only [jqn] at *); (try simp only [jqi] at *); (try simp only [real, jq1, jq2, jq3, jq4, jq5, jq6, sEq_dec, Bool.not_true, Bool.not_false, gt_iff_lt, ge_iff_le] at *); simp only [e0] at *; exact bad144 (rs := rs) (i := i) hin (fun ho => by obtain ⟨⟨o1, o2, o3, o4, o5, o6, o7⟩, _⟩ := ho; rw [w64 (by omega)] at *; omega))
      | (rintro -; (try subst hM); (try simp only [jqn] at *); (try simp only [jqi] at *); (try simp only [real, jq1, jq2, jq3, jq4, jq5, jq6, sEq_dec, Bool.not_true, Bool.not_false, gt_iff_lt, ge_iff_le] at *); simp only [e0] at *; exact bad144 (rs := rs) (i := i) hin (fun ho => by obtain ⟨⟨o1, o2, o3, o4, o5, o6, o7⟩, _⟩ := ho; omega))
      | skip
    · have hR : runOK (runAt rs i) := by
        (try subst hM); (try simp only [jqn] at *); (try simp only [jqi] at *); (try simp only [real, jq1, jq2, jq3, jq4, jq5, jq6, sEq_dec, Bool.not_true, Bool.not_false, gt_iff_lt, ge_iff_le] at *)
        simp only [e0] at *
        have hw := w64 (x := (runAt rs i).1 + (runAt rs i).2.1) (by omega)
        simp only [hw] at *
        unfold runOK
        omega
      have hi0 : i = 0 := by
        (try subst hM); (try simp only [jqn] at *); (try simp only [jqi] at *); (try simp only [real, jq1, jq2, jq3, jq4, jq5, jq6, sEq_dec, Bool.not_true, Bool.not_false, gt_iff_lt, ge_iff_le] at *)
        omega
      refine ⟨rs.length - (i + 1), by omega, i + 1, _, ?_, hin, ?_, rfl, rfl⟩
      · (try subst hM); (try simp only [jqn] at *); (try simp only [jqi] at *); (try simp only [real, jq1, jq2, jq3, jq4, jq5, jq6, sEq_dec, Bool.not_true, Bool.not_false, gt_iff_lt, ge_iff_le] at *)
        rw [hj, w64 (by omega)]; omega
      · intro k hk
        have : k = i := by omega
        subst this
        exact ⟨hR, by omega⟩
    · have hR : runOK (runAt rs i) := by
        (try subst hM); (try simp only [jqn] at *); (try simp only [jqi] at *); (try simp only [real, jq1, jq2, jq3, jq4, jq5, jq6, sEq_dec, Bool.not_true, Bool.not_false, gt_iff_lt, ge_iff_le] at *)
        simp only [e0] at *
        have hw := w64 (x := (runAt rs i).1 + (runAt rs i).2.1) (by omega)
        simp only [hw] at *
        unfold runOK
        omega
      have hi0 : 0 < i := by
        (try subst hM); (try simp only [jqn] at *); (try simp only [jqi] at *); (try simp only [real, jq1, jq2, jq3, jq4, jq5, jq6, sEq_dec, Bool.not_true, Bool.not_false, gt_iff_lt, ge_iff_le] at *)
        omega
      have hp := (hx (i - 1) (by omega)).1
      have e1 : wrap .i64 (j - 1) = ((i - 1 : Nat) : Int) := by rw [hj, w64 (by omega)]; omega
      have ep : rs.getD (((i - 1 : Nat) : Int)).toNat (0, 0, 0, PUnit.unit) = runAt rs (i - 1) := by rw [Int.toNat_natCast]; rfl
      refine ⟨(fun _ => by first | exact drawRd rfl (by decide +kernel) | exact drawTail (by decide +kernel)), by (try subst hM); (try simp only [jqn] at *); (try simp only [jqi] at *); (try simp only [real, jq1, jq2, jq3, jq4, jq5, jq6, sEq_dec, Bool.not_true, Bool.not_false, gt_iff_lt, ge_iff_le] at *); rw [e1]; omega, by (try subst hM); (try simp only [jqn] at *); (try simp only [jqi] at *); (try simp only [real, jq1, jq2, jq3, jq4, jq5, jq6, sEq_dec, Bool.not_true, Bool.not_false, gt_iff_lt, ge_iff_le] at *); rw [e1]; omega, ?_⟩
      refine ⟨by (try subst hM); (try simp only [jqn] at *); (try simp only [jqi] at *); (try simp only [real, jq1, jq2, jq3, jq4, jq5, jq6, sEq_dec, Bool.not_true, Bool.not_false, gt_iff_lt, ge_iff_le] at *); rw [e1]; omega, by (try subst hM); (try simp only [jqn] at *); (try simp only [jqi] at *); (try simp only [real, jq1, jq2, jq3, jq4, jq5, jq6, sEq_dec, Bool.not_true, Bool.not_false, gt_iff_lt, ge_iff_le] at *); rw [e1]; omega, (fun _ => by first | exact drawRd rfl (by decide +kernel) | exact drawTail (by decide +kernel)), ?_⟩
      have bad : ¬ stepOK (runAt rs (i - 1)) (runAt rs i) → ((false = true) ↔ ordR rs) := fun hs => bad144 hin (fun ho => hs (ho.2 hi0))
      have good : stepOK (runAt rs (i - 1)) (runAt rs i) → ∀ k, k < i + 1 → okAt rs k := fun hs k hk => by
        by_cases hk2 : k < i
        · exact hx k hk2
        · have : k = i := by omega
          subst this
          exact ⟨hR, fun _ => hs⟩
      have hwp := w64 (x := (runAt rs (i - 1)).1 + (runAt rs (i - 1)).2.1) (by obtain ⟨o1, o2, o3, o4, o5, o6, o7⟩ := hp; omega)
      repeat' (first | (refine splM (fun h => ?_) (fun h => ?_) <;> cbv) | (refine And.intro (by (try subst hM); (try simp only [jqn] at *); (try simp only [jqi] at *); (try simp only [real, jq1, jq2, jq3, jq4, jq5, jq6, sEq_dec, Bool.not_true, Bool.not_false, gt_iff_lt, ge_iff_le] at *); rw [e1]; omega) (And.intro (by (try subst hM); (try simp only [jqn] at *); (try simp only [jqi] at *); (try simp only [real, jq1, jq2, jq3, jq4, jq5, jq6, sEq_dec, Bool.not_true, Bool.not_false, gt_iff_lt, ge_iff_le] at *); rw [e1]; omega) ?_); cbv))
      all_goals first
        | (rintro -; refine bad (fun hs => ?_); (try subst hM); (try simp only [jqn] at *); (try simp only [jqi] at *); (try simp only [real, jq1, jq2, jq3, jq4, jq5, jq6, sEq_dec, Bool.not_true, Bool.not_false, gt_iff_lt, ge_iff_le] at *); simp only [e1, ep, e0, hwp] at *; unfold stepOK at hs; omega)
        | (refine ⟨rs.length - (i + 1), by omega, i + 1, _, ?_, hin, good ?_, rfl, rfl⟩
           · (try subst hM); (try simp only [jqn] at *); (try simp only [jqi] at *); (try simp only [real, jq1, jq2, jq3, jq4, jq5, jq6, sEq_dec, Bool.not_true, Bool.not_false, gt_iff_lt, ge_iff_le] at *)
             rw [hj, w64 (by omega)]; omega
           · (try subst hM); (try simp only [jqn] at *); (try simp only [jqi] at *); (try simp only [real, jq1, jq2, jq3, jq4, jq5, jq6, sEq_dec, Bool.not_true, Bool.not_false, gt_iff_lt, ge_iff_le] at *)
             simp only [e1, ep, e0, hwp] at *
             unfold stepOK
             omega)
  · rintro -
    (try subst hM); (try simp only [jqn] at *); (try simp only [jqi] at *); (try simp only [real, jq1, jq2, jq3, jq4, jq5, jq6, sEq_dec, Bool.not_true, Bool.not_false, gt_iff_lt, ge_iff_le] at *)
    have : i = rs.length := by omega
    subst this
    exact ⟨fun _ => hx, fun _ => rfl⟩
end Go.Proofs.YtmjeghlfmhbjdaaDoor.EngTab

/- Contracts of the codecs' functions, fourth text: sound tables and superblocks, a superblock's bytes. -/
namespace Go.Proofs.YtmjeghlfmhbjdaaDoor.EngTab
open Go.Proofs.YtmjeghlfmhbjdaaDoor.Eng
open IntKind (wrap)
set_option maxRecDepth 100000
set_option linter.unusedVariables false
set_option linter.unusedSimpArgs false
def tabOK (next : Int) (rs : List RunD) : Prop := (next = 0 ∨ 2 ≤ next ∧ next < 512) ∧ rs.length ≤ 20 ∧ ordR rs
def c89 : Con := Con.of ⟨[(false, 0, tyTF)], [(0, .bool)], fun x => x.1.2.1.2.1.length ≤ 1048576, fun x y _ => (y.1 = true ↔ tabOK x.1.2.1.1 x.1.2.1.2.1)⟩
theorem ok89 : FnOK Tryd.prog 89 c89 := by
  refine FnOK.of_vc mixed tabWOk (.cons en90 ok90 .nil) Tryd.func89 rfl (by decide) lv89 hd89 ?_
  rintro ⟨⟨⟨(k : Int), (c : Int), ⟨⟩⟩, ⟨(next : Int), (rs : List RunD), ⟨⟩⟩, ⟨⟩⟩, ⟨⟩⟩ (hl : rs.length ≤ 1048576) hwf
  generalize hM : real = M
  cbv
  repeat' (refine splM (fun h => ?_) (fun h => ?_) <;> cbv)
  all_goals first
    | (rintro -; (try subst hM); (try simp only [jqn] at *); (try simp only [jqi] at *); (try simp only [real, jq1, jq2, jq3, jq4, jq5, jq6, sEq_dec, Bool.not_true, Bool.not_false, gt_iff_lt, ge_iff_le] at *); show (false = true) ↔ tabOK next rs; exact ⟨fun e => (by cases e), fun ho => (by obtain ⟨o1, o2, o3⟩ := ho; omega)⟩)
    | (refine ⟨fun _ => hl, ?_⟩
       rintro ⟨(y : Bool), ⟨⟩⟩ x' (hy : y = true ↔ ordR rs) - -
       cbv
       rintro -
       (try subst hM); (try simp only [jqn] at *); (try simp only [jqi] at *); (try simp only [real, jq1, jq2, jq3, jq4, jq5, jq6, sEq_dec, Bool.not_true, Bool.not_false, gt_iff_lt, ge_iff_le] at *)
       show (y = true) ↔ tabOK next rs
       rw [hy]
       exact ⟨fun ho => ⟨by omega, by omega, ho⟩, fun ho => ho.2.2⟩)
abbrev tyRoot : Ty := .pair (.int .i64) (.pair (.int .i64) .unit)
abbrev tySup : Ty := .pair (.int .i64) (.pair (.int .i64) (.pair (.int .i64) (.pair (.int .i64) (.pair (.sl tyRoot) .unit))))
abbrev tySF : Ty := .pair tyHdr (.pair tySup .unit)
abbrev RootD : Type := Int × Int × Unit
def putRoot (b : List Int) (i : Nat) (r : RootD) : List Int := ovr (ovr b (16 + 4 * i) (numB r.1 2)) (18 + 4 * i) (numB r.2.1 2)
def layO (b : List Int) (rs : List RootD) : Nat → List Int
  | 0 => b
  | i + 1 => putRoot (layO b rs i) i (rs.getD i (0, 0, ()))
def layS (k c bl ge ne ta : Int) (rs : List RootD) : List Int := layO (ovr (ovr (ovr (ovr (begB k c) 2 (numB bl 2)) 4 (numB ge 8)) 12 (numB ne 2)) 14 (numB ta 2)) rs rs.length
def c91 : Con := Con.of ⟨[(false, 0, tySF)], [(0, tyA)], fun x => x.1.2.1.2.2.2.2.1.length ≤ 16, fun x y _ => y.1 = layS x.1.1.1 x.1.1.2.1 x.1.2.1.1 x.1.2.1.2.1 x.1.2.1.2.2.1 x.1.2.1.2.2.2.1 x.1.2.1.2.2.2.2.1⟩
theorem ok91 : FnOK Tryd.prog 91 c91 := by
  refine FnOK.of_vc mixed tabWOk (.cons en82 ok82 .nil) Tryd.func91 rfl (by decide) lv91 hd91 ?_
  rintro ⟨⟨⟨(k : Int), (c : Int), ⟨⟩⟩, ⟨(bl : Int), (ge : Int), (ne : Int), (ta : Int), (rs : List RootD), ⟨⟩⟩, ⟨⟩⟩, ⟨⟩⟩ (hl : rs.length ≤ 16) hwf
  generalize hM : real = M
  cbv
  refine ⟨fun _ => trivial, ?_⟩
  rintro ⟨(b0 : List Int), ⟨⟩⟩ x' (hb : b0 = begB k c) - -
  cbv
  repeat' (first | (refine And.intro (fun _ => by first | exact drawRd rfl (by decide +kernel) | exact drawTail (by decide +kernel)) ?_) | (refine And.intro (by (try subst hM); (try simp only [jqn] at *); (try simp only [jqi] at *); (try simp only [real, jq1, jq2, jq3, jq4, jq5, jq6, sEq_dec, Bool.not_true, Bool.not_false, gt_iff_lt, ge_iff_le] at *); omega) ?_))
  refine ⟨fun m Γ => ∃ (i : Nat) (j : Int) (xs : List Int), j = i ∧ i ≤ rs.length ∧ xs = layO (ovr (ovr (ovr (ovr (begB k c) 2 (numB bl 2)) 4 (numB ge 8)) 12 (numB ne 2)) 14 (numB ta 2)) rs i ∧ m = rs.length - i ∧ Γ = ⟨54, [(2, .arp 1 (.int .u8) 128), (3, .arp 2 (.int .u8) 128), (31, .pv [] (.sl tyRoot) rs), (32, .pv [] (.int .i64) (M.ofN (M.len rs))), (33, .pv [] (.int .i64) j)], [(1, .row 0 (.int .u8) (M.rep (M.ofN 128) 0)), (2, .row 0 (.int .u8) xs)], [.hole 0]⟩, ⟨_, 0, 0, _, rfl, Nat.zero_le _, ?_, rfl, rfl⟩, ?_⟩
  · (try subst hM); (try simp only [jqn] at *); (try simp only [jqi] at *); (try simp only [real, jq1, jq2, jq3, jq4, jq5, jq6, sEq_dec, Bool.not_true, Bool.not_false, gt_iff_lt, ge_iff_le] at *)
    subst hb; rfl
  rintro m _ ⟨i, j, xs, hj, hi, hx, rfl, rfl⟩ -
  cbv
  refine splM (fun h => ?_) (fun h => ?_) <;> cbv
  · have hin : i < rs.length := by
      (try subst hM); (try simp only [jqn] at *); (try simp only [jqi] at *); (try simp only [real, jq1, jq2, jq3, jq4, jq5, jq6, sEq_dec, Bool.not_true, Bool.not_false, gt_iff_lt, ge_iff_le] at *)
      omega
    (try simp only [jqn] at hi hj); (try simp only [jqi] at hi hj)
    have e4 : wrap .i64 (16 + wrap .i64 (4 * j)) = 16 + 4 * (i : Int) := by rw [hj, w64 (x := 4 * (i : Int)) (by omega), w64 (by omega)]
    have e6 : wrap .i64 (18 + wrap .i64 (4 * j)) = 18 + 4 * (i : Int) := by rw [hj, w64 (x := 4 * (i : Int)) (by omega), w64 (by omega)]
    repeat' (first | (refine And.intro (fun _ => by first | exact drawRd rfl (by decide +kernel) | exact drawTail (by decide +kernel)) ?_) | (refine And.intro (by (try subst hM); (try simp only [jqn] at *); (try simp only [jqi] at *); (try simp only [real, jq1, jq2, jq3, jq4, jq5, jq6, sEq_dec, Bool.not_true, Bool.not_false, gt_iff_lt, ge_iff_le] at *); (try simp only [e4, e6]); omega) ?_))
    refine ⟨rs.length - (i + 1), by omega, i + 1, _, _, ?_, hin, ?_, rfl, rfl⟩
    · (try subst hM); (try simp only [jqn] at *); (try simp only [jqi] at *); (try simp only [real, jq1, jq2, jq3, jq4, jq5, jq6, sEq_dec, Bool.not_true, Bool.not_false, gt_iff_lt, ge_iff_le] at *)
      rw [hj, w64 (by omega)]; omega
    · (try subst hM); (try simp only [jqn] at *); (try simp only [jqi] at *); (try simp only [real, jq1, jq2, jq3, jq4, jq5, jq6, sEq_dec, Bool.not_true, Bool.not_false, gt_iff_lt, ge_iff_le] at *)
      simp only [e4, e6]
      have hji : j.toNat = i := by rw [hj]; simp
      rw [hji, hx]; rfl
  · rintro -
    (try subst hM); (try simp only [jqn] at *); (try simp only [jqi] at *); (try simp only [real, jq1, jq2, jq3, jq4, jq5, jq6, sEq_dec, Bool.not_true, Bool.not_false, gt_iff_lt, ge_iff_le] at *)
    have : i = rs.length := by omega
    subst this
    exact hx
def rootAt (rs : List RootD) (i : Nat) : RootD := rs.getD i (0, 0, ())
def rootOK (bl ne : Int) (rs : List RootD) (i : Nat) : Prop := 0 ≤ (rootAt rs i).1 ∧ (rootAt rs i).1 < ne ∧ 2 ≤ (rootAt rs i).2.1 ∧ (rootAt rs i).2.1 < bl ∧ (0 < i → (rootAt rs (i - 1)).1 < (rootAt rs i).1)
def supOK (bl ge ne ta : Int) (rs : List RootD) : Prop := (8 ≤ bl ∧ bl ≤ 512 ∧ 1 ≤ ge ∧ ge ≤ 1099511627776) ∧ (1 ≤ ne ∧ ne ≤ 65535 ∧ 2 ≤ ta ∧ ta < bl) ∧ (1 ≤ rs.length ∧ rs.length ≤ 16) ∧ ∀ i, i < rs.length → rootOK bl ne rs i
def c92 : Con := Con.of ⟨[(false, 0, tySF)], [(0, .bool)], fun x => x.1.2.1.2.2.2.2.1.length ≤ 1048576, fun x y _ => (y.1 = true ↔ supOK x.1.2.1.1 x.1.2.1.2.1 x.1.2.1.2.2.1 x.1.2.1.2.2.2.1 x.1.2.1.2.2.2.2.1)⟩
theorem ok92 : FnOK Tryd.prog 92 c92 := by
  refine FnOK.of_vc mixed tabWOk .nil Tryd.func92 rfl (by decide) lv92 hd92 ?_
  rintro ⟨⟨⟨(k : Int), (c : Int), ⟨⟩⟩, ⟨(bl : Int), (ge : Int), (ne : Int), (ta : Int), (rs : List RootD), ⟨⟩⟩, ⟨⟩⟩, ⟨⟩⟩ (hl : rs.length ≤ 1048576) hwf
  generalize hM : real = M
  cbv
  repeat' (refine splM (fun h => ?_) (fun h => ?_) <;> cbv)
  all_goals first
    | (rintro -; (try subst hM); (try simp only [jqn] at *); (try simp only [jqi] at *); (try simp only [real, jq1, jq2, jq3, jq4, jq5, jq6, sEq_dec, Bool.not_true, Bool.not_false, gt_iff_lt, ge_iff_le] at *); show (false = true) ↔ supOK bl ge ne ta rs; exact ⟨fun e => (by cases e), fun ho => (by obtain ⟨⟨o1, o2, o3, o4⟩, ⟨o5, o6, o7, o8⟩, ⟨o9, o10⟩, _⟩ := ho; omega)⟩)
    | skip
  have hA : (8 ≤ bl ∧ bl ≤ 512 ∧ 1 ≤ ge ∧ ge ≤ 1099511627776) ∧ (1 ≤ ne ∧ ne ≤ 65535 ∧ 2 ≤ ta ∧ ta < bl) ∧ (1 ≤ rs.length ∧ rs.length ≤ 16) := by
    (try subst hM); (try simp only [jqn] at *); (try simp only [jqi] at *); (try simp only [real, jq1, jq2, jq3, jq4, jq5, jq6, sEq_dec, Bool.not_true, Bool.not_false, gt_iff_lt, ge_iff_le] at *)
    omega
  refine ⟨fun m Γ => ∃ (i : Nat) (j : Int), j = i ∧ i ≤ rs.length ∧ (∀ k, k < i → rootOK bl ne rs k) ∧ m = rs.length - i ∧ Γ = ⟨103, [(3, .ad 1 tySup 0 []), (57, .pv [] (.sl tyRoot) rs), (58, .pv [] (.int .i64) (M.ofN (M.len rs))), (59, .pv [] (.int .i64) j)], [(1, .box (.consA (.pv [] (.int .i64) bl) (.consA (.pv [] (.int .i64) ge) (.consA (.pv [] (.int .i64) ne) (.consA (.pv [] (.int .i64) ta) (.consA (.pv [] (.sl tyRoot) rs) .nilA))))))], [.hole 0]⟩, ⟨_, 0, 0, rfl, Nat.zero_le _, by omega, rfl, rfl⟩, ?_⟩
  rintro m _ ⟨i, j, hj, hi, hx, rfl, rfl⟩ -
  cbv
  refine splM (fun h => ?_) (fun h => ?_) <;> cbv
  · have hin : i < rs.length := by
      (try subst hM); (try simp only [jqn] at *); (try simp only [jqi] at *); (try simp only [real, jq1, jq2, jq3, jq4, jq5, jq6, sEq_dec, Bool.not_true, Bool.not_false, gt_iff_lt, ge_iff_le] at *)
      omega
    (try simp only [jqn] at hi hj); (try simp only [jqi] at hi hj)
    have hji : j.toNat = i := by rw [hj]; simp
    have e0 : rs.getD j.toNat (0, 0, PUnit.unit) = rootAt rs i := by rw [hji]; rfl
    have e1 : 0 < i → wrap .i64 (j - 1) = ((i - 1 : Nat) : Int) := fun hi0 => by rw [hj, w64 (by omega)]; omega
    have ep : rs.getD (((i - 1 : Nat) : Int)).toNat (0, 0, PUnit.unit) = rootAt rs (i - 1) := by rw [Int.toNat_natCast]; rfl
    have bad : ¬ rootOK bl ne rs i → ((false = true) ↔ supOK bl ge ne ta rs) := fun hb => ⟨fun e => (by cases e), fun ho => absurd (ho.2.2.2 i hin) hb⟩
    have good : rootOK bl ne rs i → ∀ k, k < i + 1 → rootOK bl ne rs k := fun hs k hk => by
      by_cases hk2 : k < i
      · exact hx k hk2
      · have : k = i := by omega
        subst this
        exact hs
    repeat' (first | (refine splM (fun h => ?_) (fun h => ?_) <;> cbv) | (refine And.intro (fun _ => by first | exact drawRd rfl (by decide +kernel) | exact drawTail (by decide +kernel)) ?_; cbv) | (refine And.intro (by (try subst hM); (try simp only [jqn] at *); (try simp only [jqi] at *); (try simp only [real, jq1, jq2, jq3, jq4, jq5, jq6, sEq_dec, Bool.not_true, Bool.not_false, gt_iff_lt, ge_iff_le] at *); (try rw [e1 (by omega)]); omega) ?_; cbv))
    all_goals first
      | (rintro -; refine bad (fun hs => ?_); obtain ⟨s1, s2, s3, s4, s5⟩ := hs; (try subst hM); (try simp only [jqn] at *); (try simp only [jqi] at *); (try simp only [real, jq1, jq2, jq3, jq4, jq5, jq6, sEq_dec, Bool.not_true, Bool.not_false, gt_iff_lt, ge_iff_le] at *); simp only [e0] at *; omega)
      | (rintro -; refine bad (fun hs => ?_); obtain ⟨s1, s2, s3, s4, s5⟩ := hs; (try subst hM); (try simp only [jqn] at *); (try simp only [jqi] at *); (try simp only [real, jq1, jq2, jq3, jq4, jq5, jq6, sEq_dec, Bool.not_true, Bool.not_false, gt_iff_lt, ge_iff_le] at *); have hi0 : 0 < i := by omega
         have s6 := s5 hi0; simp only [e0, e1 hi0, ep] at *; omega)
      | (refine ⟨rs.length - (i + 1), by omega, i + 1, _, ?_, hin, good ?_, rfl, rfl⟩
         · (try subst hM); (try simp only [jqn] at *); (try simp only [jqi] at *); (try simp only [real, jq1, jq2, jq3, jq4, jq5, jq6, sEq_dec, Bool.not_true, Bool.not_false, gt_iff_lt, ge_iff_le] at *)
           rw [hj, w64 (by omega)]; omega
         · (try subst hM); (try simp only [jqn] at *); (try simp only [jqi] at *); (try simp only [real, jq1, jq2, jq3, jq4, jq5, jq6, sEq_dec, Bool.not_true, Bool.not_false, gt_iff_lt, ge_iff_le] at *)
           refine ⟨?_, ?_, ?_, ?_, fun hi0 => ?_⟩
           all_goals (first | (simp only [e0] at *; omega) | (simp only [e0, e1 hi0, ep] at *; omega)))
  · rintro -
    (try subst hM); (try simp only [jqn] at *); (try simp only [jqi] at *); (try simp only [real, jq1, jq2, jq3, jq4, jq5, jq6, sEq_dec, Bool.not_true, Bool.not_false, gt_iff_lt, ge_iff_le] at *)
    have : i = rs.length := by omega
    subst this
    exact ⟨fun _ => ⟨hA.1, hA.2.1, hA.2.2, hx⟩, fun _ => rfl⟩
end Go.Proofs.YtmjeghlfmhbjdaaDoor.EngTab
