/- The law FnExactCrc32: of every list of bytes the program's Crc32 is the reference's. No condition. -/
import Derived.Test.YtajjimcplhfdoaaPFnExactCrc32x1
import Derived.Test.YtajjimcplhfdoaaPlain
import Derived.Test.YtajjimcplhfdoaaCounts
namespace Go.Proofs.Ytajjimcplhfdoaa.Pure
open Go.RowKit Go.Proofs.Ytajjimcplhfdoaa.PFnExactCrc32 Go.Proofs.YtajjimcplhfdoaaW.PrintWords Go.Proofs.YtajjimcplhfdoaaW.PrintLast Go.Proofs.Ytajjimcplhfdoaa.Plain
set_option linter.unusedVariables false

theorem tob_ev (x : List Int) (hb : x.length ≤ 1048576) : Ev (fun k => laws_toByteS.f k x) x := copy_ev (F := laws_toByteS.l0) (fun _ _ _ _ => rfl) _ (by decide) x hb
theorem eqb_ev (x : List Int) (hb : x.length ≤ 1048576) : Ev (fun k => laws_eqByteS.f k x x) true := eq_ev (F := laws_eqByteS.l0) (fun _ _ _ _ => rfl) x hb

/-- n turns of the register. -/
def crcN : Nat → Int → Int
  | 0, x => x
  | n + 1, x => crcN n (if Go.bits .and .u32 x 1 = 1 then Go.bits .xor .u32 (x / 2) 3988292384 else x / 2)
def crcL : List Int → Int → Int
  | [], x => x
  | b :: l, x => crcL l (crcN 8 (Go.bits .xor .u32 x (b % 4294967296)))
theorem drop_cons (l : List Int) (i : Nat) (h : i < l.length) : l.drop i = rd l (i : Int) :: l.drop (i + 1) := by rw [List.drop_eq_getElem_cons h, rd_eq l i h]
theorem xor_comm (a b : Int) : Go.bits .xor .u32 a b = Go.bits .xor .u32 b a := by
  unfold Go.bits; simp only [BitVec.xor_comm (BitVec.ofInt IntKind.u32.bits a)]

theorem spec1 (l : List Int) (j : Nat) (r : Int) (hr : ∀ x, Ev (fun k => spec_Crc32.l0 k l x ((j + 1 : Nat) : Int)) (Go.bits .xor .u32 (crcL (l.drop (j + 1)) x) 4294967295)) (hj : j ≤ 1048576) (d : Nat) :
    ∀ (i : Nat) (x : Int), i + d = 8 → Ev (fun k => spec_Crc32.l1 k l x (j : Int) (i : Int)) (Go.bits .xor .u32 (crcL (l.drop (j + 1)) (crcN d x)) 4294967295) := by
  induction d with
  | zero =>
    intro i x hi
    refine Ev.succ ?_
    simp only [spec_Crc32.l1, wr1 j (by omega)]
    exact Ev.neg (by omega) (hr x)
  | succ d ih =>
    intro i x hi
    refine Ev.succ ?_
    simp only [spec_Crc32.l1, wr1 i (by omega)]
    refine Ev.pos (by omega) ?_
    by_cases h : Go.bits .and .u32 x 1 = 1
    · refine Ev.pos h ?_
      have := ih (i + 1) (Go.bits .xor .u32 (x / 2) 3988292384) (by omega)
      simpa [crcN, h] using this
    · refine Ev.neg h ?_
      have := ih (i + 1) (x / 2) (by omega)
      simpa [crcN, h] using this
theorem spec0 (l : List Int) (hl : l.length ≤ 1048576) (d : Nat) : ∀ (j : Nat) (x : Int), j + d = l.length → Ev (fun k => spec_Crc32.l0 k l x (j : Int)) (Go.bits .xor .u32 (crcL (l.drop j) x) 4294967295) := by
  induction d with
  | zero =>
    intro j x hj
    refine Ev.succ ?_
    simp only [spec_Crc32.l0]
    refine Ev.neg (by omega) (Ev.const ?_)
    rw [List.drop_of_length_le (by omega)]; rfl
  | succ d ih =>
    intro j x hj
    refine Ev.succ ?_
    simp only [spec_Crc32.l0]
    refine Ev.pos (by omega) (Ev.pos (by omega) ?_)
    have := spec1 l j 0 (fun x => ih (j + 1) x (by omega)) (by omega) 8 0 (Go.bits .xor .u32 x (rd l (j : Int) % 4294967296)) (by omega)
    rw [drop_cons l j (by omega)]
    exact this
theorem impl1 (l : List Int) (j : Nat) (hr : ∀ x, Ev (fun k => impl_Crc32.l0 k x l (l.length : Int) ((j + 1 : Nat) : Int)) (Go.bits .xor .u32 (crcL (l.drop (j + 1)) x) 4294967295)) (hj : j ≤ 1048576) (d : Nat) :
    ∀ (i : Nat) (x : Int), i + d = 8 → Ev (fun k => impl_Crc32.l1 k x l (l.length : Int) (j : Int) (i : Int)) (Go.bits .xor .u32 (crcL (l.drop (j + 1)) (crcN d x)) 4294967295) := by
  induction d with
  | zero =>
    intro i x hi
    refine Ev.succ ?_
    simp only [impl_Crc32.l1, wr1 j (by omega)]
    exact Ev.neg (by omega) (hr x)
  | succ d ih =>
    intro i x hi
    refine Ev.succ ?_
    simp only [impl_Crc32.l1, wr1 i (by omega)]
    refine Ev.pos (by omega) ?_
    by_cases h : Go.bits .and .u32 x 1 = 1
    · refine Ev.pos h ?_
      have := ih (i + 1) (Go.bits .xor .u32 (x / 2) 3988292384) (by omega)
      simpa [crcN, h] using this
    · refine Ev.neg h ?_
      have := ih (i + 1) (x / 2) (by omega)
      simpa [crcN, h] using this
theorem impl0 (l : List Int) (hl : l.length ≤ 1048576) (d : Nat) : ∀ (j : Nat) (x : Int), j + d = l.length → Ev (fun k => impl_Crc32.l0 k x l (l.length : Int) (j : Int)) (Go.bits .xor .u32 (crcL (l.drop j) x) 4294967295) := by
  induction d with
  | zero =>
    intro j x hj
    refine Ev.succ ?_
    simp only [impl_Crc32.l0]
    refine Ev.neg (by omega) (Ev.const ?_)
    rw [List.drop_of_length_le (by omega), xor_comm]; rfl
  | succ d ih =>
    intro j x hj
    refine Ev.succ ?_
    simp only [impl_Crc32.l0]
    refine Ev.pos (by omega) (Ev.pos (by omega) (Ev.pos (by omega) ?_))
    have := impl1 l j (fun x => ih (j + 1) x (by omega)) (by omega) 8 0 (Go.bits .xor .u32 x (rd l (j : Int) % 4294967296)) (by omega)
    rw [drop_cons l j (by omega)]
    exact this
/-- What both answer. -/
def crc (l : List Int) : Int := Go.bits .xor .u32 (crcL l 4294967295) 4294967295
theorem spec_crc_ev (l : List Int) (hl : l.length ≤ 1048576) : Ev (fun k => spec_Crc32.f k l) (crc l) := by
  have := spec0 l hl l.length 0 4294967295 (by omega)
  rwa [List.drop_zero] at this
theorem impl_crc_ev (l : List Int) (hl : l.length ≤ 1048576) : Ev (fun k => impl_Crc32.f k l) (crc l) := by
  have := impl0 l hl l.length 0 4294967295 (by omega)
  rwa [List.drop_zero] at this

theorem FnExactCrc32 : laws_FnExactCrc32.Pure := by
  intro a _ _ _
  refine Ev.rounds (r := true) ?_
  unfold laws_FnExactCrc32.f
  by_cases ha : (a.length : Int) > 1048576
  · exact Ev.pos ha (Ev.const rfl)
  have ta := tob_ev a (by omega)
  refine Ev.neg ha (Ev.bind ta (Ev.bind (spec_crc_ev a (by omega)) (Ev.bind ta (Ev.bind (impl_crc_ev a (by omega)) (Ev.pos rfl (Ev.bind ta (Ev.bind (eqb_ev a (by omega)) (Ev.pos rfl (Ev.const rfl)))))))))

end Go.Proofs.Ytajjimcplhfdoaa.Pure
