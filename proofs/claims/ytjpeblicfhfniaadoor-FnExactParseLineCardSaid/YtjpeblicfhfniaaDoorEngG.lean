/- The engine, seventh part: the arithmetic as it is, and the operations that look at no memory. No condition. -/
import Derived.Test.YtjpeblicfhfniaaDoorEngF
import GoSem.Dispatch
namespace Go.Proofs.YtjpeblicfhfniaaDoor.Eng
open Go.RowKit
set_option linter.unusedVariables false
set_option linter.unusedSimpArgs false

noncomputable def rget {α γ : Type} : List (α × γ) → α → γ → γ
  | [], _, d => d
  | p :: l, k, d => @ite _ (p.1 = k) (Classical.propDecidable _) p.2 (rget l k d)
noncomputable def rput {α γ : Type} : List (α × γ) → α → γ → List (α × γ)
  | [], k, v => [(k, v)]
  | p :: l, k, v => @ite _ (p.1 = k) (Classical.propDecidable _) ((k, v) :: l) (p :: rput l k v)
noncomputable def rdel {α γ : Type} : List (α × γ) → α → List (α × γ)
  | [], _ => []
  | p :: l, k => @ite _ (p.1 = k) (Classical.propDecidable _) l (p :: rdel l k)
noncomputable def real : Mth where
  wrap := IntKind.wrap
  add x y := x + y
  sub x y := x - y
  mul x y := x * y
  quo := Int.tdiv
  rem := Int.tmod
  bit op k x y :=
    let a := BitVec.ofInt k.bits x
    let b := BitVec.ofInt k.bits y
    k.wrap (match op with | .and => a &&& b | .or => a ||| b | .xor => a ^^^ b | _ => a &&& ~~~b).toNat
  shl k x y := k.wrap (x * 2 ^ (min y.toNat k.bits))
  shr k x y := x.fdiv (2 ^ (min y.toNat k.bits))
  lt x y := x < y
  le x y := x ≤ y
  eq x y := x = y
  dec p := @decide p (Classical.propDecidable p)
  not := Bool.not
  same := fun a b => a == b
  or := Bool.or
  len := List.length
  get xs i d := xs.getD i.toNat d
  set xs i y := xs.set i.toNat y
  app xs ys := xs ++ ys
  cut xs lo hi := (xs.drop lo.toNat).take (hi.toNat - lo.toNat)
  rep n x := List.replicate n.toNat x
  ofN n := (n : Int)
  room xs ys := xs.length + ys.length ≤ 2 ^ 36
  makes n := 0 ≤ n ∧ n ≤ 2 ^ 36
  sEq a b := a.toList == b.toList
  sLt a b := Op.bytesLess a.toList b.toList
  sLen s := (s.size : Int)
  sGet s i := (((s[i.toNat]?).map fun b => (b.toNat : Int)).getD 0)
  sCut s lo hi := s.extract lo.toNat hi.toNat
  sApp a b := a ++ b
  sRoom a b := a.size + b.size ≤ maxL
  toB s := s.data.toList.map fun b => (b.toNat : Int)
  ofB l := ⟨(l.map fun x => UInt8.ofNat x.toNat).toArray⟩
  maxI x y := if y > x then y else x
  minI x y := if y < x then y else x
  rune s p := ((Utf8.decode s p.toNat).1 : Int)
  runeW s p := ((Utf8.decode s p.toNat).2 : Int)
  mget := rget
  mhas xs k := k ∈ xs.map (·.1)
  mput := rput
  mdel := rdel
  isN x := x = none
  val x d := x.getD d
  over xs lo ys := xs.take lo.toNat ++ ys ++ xs.drop (lo.toNat + ys.length)
  same2 xs ys := xs = ys
theorem dec_iff {p : Prop} : real.dec p = true ↔ p := by unfold real; simp
theorem dec_eq {p : Prop} {b : Bool} (h : b = true ↔ p) : real.dec p = b := by rw [Bool.eq_iff_iff, dec_iff, h]

section
variable {P : Program} {Bb : Nat → Prop} {w0 : World} {O0 : List Nat} {av : List Value} {Γ Γ' : Ctx} {a : Act} {w w' : World} {β : Nat → Value} {F : Nat → List Nat} {K : Ctx → Prop} {o : Oper} {Q : Exit → Act → World → Prop}
/-- What is to hold next. -/
def Nx (Bb : Nat → Prop) (w0 : World) (O0 : List Nat) (av : List Value) (K : Ctx → Prop) (a : Act) (w : World) : Prop := ∃ Γ' β F, K Γ' ∧ Sim Bb w0 O0 av Γ' a w β F
theorem wp_value {x : Value} {N : Act → World → Prop} (h : (execOp a.eval o).run P w = .ok (.value x) w') (hn : N (a.put o.dst x) w') : o.wp P a w N Q := by
  unfold Oper.wp; rw [h]; exact hn
theorem wp_skip' {N : Act → World → Prop} (h : (execOp a.eval o).run P w = .ok .skip w') (hn : N (a.put o.dst undef) w') : o.wp P a w N Q := by
  unfold Oper.wp; rw [h]; exact hn
theorem run_v {s : Sem Value} {x : Value} (h : s.run P w = .ok x w') : (do pure (Next.value (← s)) : Sem Next).run P w = .ok (.value x) w' := by
  show (Sem.bind _ _).run P w = _
  rw [run_bind_ok h]; rfl
/-- The operation yields a value and leaves the world as it is. -/
def Reads (P : Program) (o : Oper) (a : Act) (w : World) (N : Act → World → Prop) : Prop := ∃ x, (execOp a.eval o).run P w = .ok (.value x) w ∧ N (a.put o.dst x) w
theorem Reads.wp {N : Act → World → Prop} (h : Reads P o a w N) : o.wp P a w N Q := by
  obtain ⟨x, h1, h2⟩ := h
  exact wp_value h1 h2
/-- A value goes into the operation's slot; the world stays. -/
theorem go_value {x : Value} {v : SV} (S : Sim Bb w0 O0 av Γ a w β F) (h : (execOp a.eval o).run P w = .ok (.value x) w) (hv : SlotR (hp w) (ZdOf Bb F Γ.roots) β v x) (hk : Γ.on o.dst v K) : Reads P o a w (Nx Bb w0 O0 av K) := by
  unfold Ctx.on at hk
  split at hk
  · rename_i Γ' e; exact ⟨x, h, Γ', β, F, hk, S.put hv e⟩
  · exact hk.elim
theorem slot_pv {h : Hp} {Zd : List Nat → Nat → Prop} {d : List Nat} {t : Ty} {y : t.den} {x : Value} (s : SlotR h Zd β (.pv d t y) x) : ∃ cs, Own h (Zd d) t 0 [] cs y ∧ x = valOf t.agg cs := by
  rcases s with ⟨e, _⟩ | ⟨_, s⟩
  · cases e
  · rcases s with ⟨n, e⟩ | ⟨cs, s, e⟩
    · cases e
    · exact ⟨cs, s, e⟩
theorem slot_int {h : Hp} {Zd : List Nat → Nat → Prop} {d : List Nat} {k : IntKind} {y : Int} {x : Value} (s : SlotR h Zd β (.pv d (.int k) y) x) : x = .int k y ∧ InK k y := by
  obtain ⟨cs, ⟨_, rfl, h2⟩, h3⟩ := slot_pv s; exact ⟨h3, h2⟩
theorem slot_bool {h : Hp} {Zd : List Nat → Nat → Prop} {d : List Nat} {y : Bool} {x : Value} (s : SlotR h Zd β (.pv d .bool y) x) : x = .bool y := by
  obtain ⟨cs, ⟨_, rfl⟩, h3⟩ := slot_pv s; exact h3
theorem slot_str {h : Hp} {Zd : List Nat → Nat → Prop} {d : List Nat} {y : ByteArray} {x : Value} (s : SlotR h Zd β (.pv d .str y) x) : x = .string y ∧ y.size ≤ maxL := by
  obtain ⟨cs, ⟨_, rfl, h2⟩, h3⟩ := slot_pv s; exact ⟨h3, h2⟩
theorem mk_int {h : Hp} {Zd : List Nat → Nat → Prop} {d : List Nat} {k : IntKind} {y : Int} (hk : InK k y) : SlotR h Zd β (.pv d (.int k) y) (.int k y) := slot_c (v := .pv d (.int k) y) (cs := [.int k y]) rfl ⟨rfl, rfl, hk⟩
theorem mk_bool {h : Hp} {Zd : List Nat → Nat → Prop} {d : List Nat} {y : Bool} : SlotR h Zd β (.pv d .bool y) (.bool y) := slot_c (v := .pv d .bool y) (cs := [.bool y]) rfl ⟨rfl, rfl⟩
theorem mk_str {h : Hp} {Zd : List Nat → Nat → Prop} {d : List Nat} {y : ByteArray} (hk : y.size ≤ maxL) : SlotR h Zd β (.pv d .str y) (.string y) := slot_c (v := .pv d .str y) (cs := [.string y]) rfl ⟨rfl, rfl, hk⟩
theorem inK_wrap (k : IntKind) (n : Int) : InK k (k.wrap n) := by
  have e8 : (2 ^ 8 : Int) = 256 := by decide
  have e7 : (2 ^ (8 - 1) : Int) = 128 := by decide
  have e16 : (2 ^ 16 : Int) = 65536 := by decide
  have e15 : (2 ^ (16 - 1) : Int) = 32768 := by decide
  have e32 : (2 ^ 32 : Int) = 4294967296 := by decide
  have e31 : (2 ^ (32 - 1) : Int) = 2147483648 := by decide
  have e64 : (2 ^ 64 : Int) = 18446744073709551616 := by decide
  have e63 : (2 ^ (64 - 1) : Int) = 9223372036854775808 := by decide
  unfold InK IntKind.min IntKind.max IntKind.wrap
  cases k <;> simp only [IntKind.signed, IntKind.bits, e8, e7, e16, e15, e32, e31, e64, e63, Bool.true_and, Bool.false_and, if_true, if_false, Bool.false_eq_true, decide_eq_true_eq] <;> (try split) <;> omega
theorem inK_tmod {k : IntKind} {x y : Int} (hx : InK k x) (hy : InK k y) : InK k (x.tmod y) := by
  have h1 : -(x.natAbs : Int) ≤ x.tmod y ∧ x.tmod y ≤ x.natAbs ∧ (0 ≤ x → 0 ≤ x.tmod y) ∧ (x ≤ 0 → x.tmod y ≤ 0) := by
    have h3 : (x.tmod y).natAbs ≤ x.natAbs := by rw [Int.natAbs_tmod]; exact Nat.mod_le _ _
    refine ⟨by omega, by omega, fun h => Int.tmod_nonneg _ h, fun h => ?_⟩
    have : 0 ≤ (-x).tmod y := Int.tmod_nonneg _ (by omega)
    rw [Int.neg_tmod] at this; omega
  unfold InK IntKind.min IntKind.max at *
  cases k <;> simp only [IntKind.signed, IntKind.bits, if_true, if_false, Bool.false_eq_true] at * <;> omega
theorem inK_fdiv {k : IntKind} {x : Int} (hx : InK k x) (n : Nat) : InK k (x.fdiv (2 ^ n)) := by
  have hp : (0 : Int) < 2 ^ n := Int.pow_pos (by decide)
  have h1 : (0 ≤ x → 0 ≤ x.fdiv (2 ^ n)) ∧ (x ≤ 0 → x.fdiv (2 ^ n) ≤ 0) ∧ x.fdiv (2 ^ n) ≤ max x 0 ∧ min x 0 ≤ x.fdiv (2 ^ n) := by
    rw [Int.fdiv_eq_ediv_of_nonneg _ (Int.le_of_lt hp)]
    have hd := Int.ediv_mul_add_emod x (2 ^ n)
    have hm := Int.emod_nonneg x (Int.ne_of_gt hp)
    have hl := Int.emod_lt_of_pos x hp
    generalize he : x / 2 ^ n = q at *
    generalize x % 2 ^ n = r at *
    have h2 : (1 : Int) ≤ 2 ^ n := by omega
    generalize (2 : Int) ^ n = m at *
    refine ⟨fun h => ?_, fun h => ?_, ?_, ?_⟩
    · exact he ▸ Int.ediv_nonneg h (by omega)
    · rcases Int.lt_or_le 0 q with hq | hq
      · have : 1 * m ≤ q * m := Int.mul_le_mul_of_nonneg_right (by omega) (by omega)
        omega
      · exact hq
    · rcases Int.lt_or_le 0 q with hq | hq
      · have : q * 1 ≤ q * m := Int.mul_le_mul_of_nonneg_left h2 (by omega)
        omega
      · omega
    · rcases Int.lt_or_le q 0 with hq | hq
      · have h5 : q * m ≤ q * 1 := Int.mul_le_mul_of_nonpos_left (by omega) h2
        rcases Int.lt_or_le q x with h7 | h7
        · have h8 : (q + 1) * m ≤ (q + 1) * 1 := Int.mul_le_mul_of_nonpos_left (by omega) h2
          rw [Int.add_mul] at h8; omega
        · omega
      · omega
  unfold InK IntKind.min IntKind.max at *
  cases k <;> simp only [IntKind.signed, IntKind.bits, if_true, if_false, Bool.false_eq_true] at * <;> omega
end
/-! ### the binary operations -/
section
variable {t : TypeId} {k : IntKind} {a b : Int}
theorem b_add : binOp .add t (.int k a) (.int k b) = pure (.int k (k.wrap (a + b))) := by simp [binOp, Op.intArith]
theorem b_sub : binOp .sub t (.int k a) (.int k b) = pure (.int k (k.wrap (a - b))) := by simp [binOp, Op.intArith]
theorem b_mul : binOp .mul t (.int k a) (.int k b) = pure (.int k (k.wrap (a * b))) := by simp [binOp, Op.intArith]
theorem b_quo (h : b ≠ 0) : binOp .quo t (.int k a) (.int k b) = pure (.int k (k.wrap (a.tdiv b))) := by simp [binOp, Op.intDiv, h]
theorem b_rem (h : b ≠ 0) : binOp .rem t (.int k a) (.int k b) = pure (.int k (a.tmod b)) := by simp [binOp, Op.intDiv, h]
theorem b_and : binOp .and t (.int k a) (.int k b) = pure (.int k (real.bit .and k a b)) := by simp [binOp, Op.intBits, real]
theorem b_or : binOp .or t (.int k a) (.int k b) = pure (.int k (real.bit .or k a b)) := by simp [binOp, Op.intBits, real]
theorem b_xor : binOp .xor t (.int k a) (.int k b) = pure (.int k (real.bit .xor k a b)) := by simp [binOp, Op.intBits, real]
theorem b_andNot : binOp .andNot t (.int k a) (.int k b) = pure (.int k (real.bit .andNot k a b)) := by simp [binOp, Op.intBits, real]
theorem b_eql : binOp .eql t (.int k a) (.int k b) = pure (.bool (real.dec (a = b))) := by rw [dec_eq (b := (a == b)) (by simp)]; simp [binOp, Op.intCmp]
theorem b_neq : binOp .neq t (.int k a) (.int k b) = pure (.bool (!real.dec (a = b))) := by rw [dec_eq (b := (a == b)) (by simp)]; simp [binOp, Op.intCmp]; rfl
theorem b_lss : binOp .lss t (.int k a) (.int k b) = pure (.bool (real.dec (a < b))) := by rw [dec_eq (b := decide (a < b)) (by simp)]; simp [binOp, Op.intCmp]
theorem b_leq : binOp .leq t (.int k a) (.int k b) = pure (.bool (real.dec (a ≤ b))) := by rw [dec_eq (b := decide (a ≤ b)) (by simp)]; simp [binOp, Op.intCmp]
theorem b_gtr : binOp .gtr t (.int k a) (.int k b) = pure (.bool (real.dec (b < a))) := by rw [dec_eq (b := decide (a > b)) (by simp)]; simp [binOp, Op.intCmp]
theorem b_geq : binOp .geq t (.int k a) (.int k b) = pure (.bool (real.dec (b ≤ a))) := by rw [dec_eq (b := decide (a ≥ b)) (by simp)]; simp [binOp, Op.intCmp]
theorem b_shl {j : IntKind} (h : 0 ≤ b) : binOp .shl t (.int k a) (.int j b) = pure (.int k (k.wrap (a * 2 ^ (min b.toNat k.bits)))) := by simp [binOp, Op.shift, Int.not_lt.2 h]
theorem b_shr {j : IntKind} (h : 0 ≤ b) : binOp .shr t (.int k a) (.int j b) = pure (.int k (a.fdiv (2 ^ (min b.toNat k.bits)))) := by simp [binOp, Op.shift, Int.not_lt.2 h]
end
section
variable {P : Program} {w : World} {β : Nat → Value}
theorem run_pure {α : Type} {x : α} : (pure x : Sem α).run P w = .ok x w := rfl
theorem run_eq {s s' : Sem Value} {z : Value} (e : s = s') (h : s'.run P w = .ok z w) : s.run P w = .ok z w := by rw [e]; exact h
theorem run_bin {op : BinOp} {A B : SV} {x y : Value} {t : TypeId} {oa ob : Operand} {h : Hp} {Zd : List Nat → Nat → Prop} (ha : SlotR h Zd β A x) (hb : SlotR h Zd β B y) {KK : SV → Prop} (hk : bin real op A B KK) :
    ∃ v z, KK v ∧ SlotR h Zd β v z ∧ (do eqGuard op t oa ob x y; binOp op t x y : Sem Value).run P w = .ok z w := by
  have gi : ∀ k j a b, (eqGuard op t oa ob (.int k a) (.int j b)).run P w = .ok () w := by intro k j a b; unfold eqGuard; cases op <;> rfl
  have gs : ∀ a b, (eqGuard op t oa ob (.string a) (.string b)).run P w = .ok () w := by intro a b; unfold eqGuard; cases op <;> rfl
  unfold bin at hk
  split at hk
  · rename_i d1 k a d2 j b
    obtain ⟨rfl, ia⟩ := slot_int ha
    obtain ⟨rfl, ib⟩ := slot_int hb
    rw [run_bind (gi k j a b)]
    clear gi gs
    split at hk
    · exact ⟨_, _, hk.2, mk_int (inK_wrap k _), run_eq (b_shl hk.1) rfl⟩
    · exact ⟨_, _, hk.2, mk_int (inK_fdiv ia _), run_eq (b_shr hk.1) rfl⟩
    · split at hk
      · rename_i hkj; subst hkj
        rename_i op' n1 n2
        clear n1 n2
        cases op <;> (try simp only [intBin, cmp] at hk)
        case add => exact ⟨_, _, hk, mk_int (inK_wrap k _), run_eq b_add rfl⟩
        case sub => exact ⟨_, _, hk, mk_int (inK_wrap k _), run_eq b_sub rfl⟩
        case mul => exact ⟨_, _, hk, mk_int (inK_wrap k _), run_eq b_mul rfl⟩
        case quo => exact ⟨_, _, hk.2, mk_int (inK_wrap k _), run_eq (b_quo fun e => hk.1 e) rfl⟩
        case rem => exact ⟨_, _, hk.2, mk_int (inK_tmod ia ib), run_eq (b_rem fun e => hk.1 e) rfl⟩
        case and => exact ⟨_, _, hk, mk_int (inK_wrap k _), run_eq b_and rfl⟩
        case or => exact ⟨_, _, hk, mk_int (inK_wrap k _), run_eq b_or rfl⟩
        case xor => exact ⟨_, _, hk, mk_int (inK_wrap k _), run_eq b_xor rfl⟩
        case andNot => exact ⟨_, _, hk, mk_int (inK_wrap k _), run_eq b_andNot rfl⟩
        case eql => exact ⟨_, _, hk, mk_bool, run_eq b_eql rfl⟩
        case neq => exact ⟨_, _, hk, mk_bool, run_eq b_neq rfl⟩
        case lss => exact ⟨_, _, hk, mk_bool, run_eq b_lss rfl⟩
        case leq => exact ⟨_, _, hk, mk_bool, run_eq b_leq rfl⟩
        case gtr => exact ⟨_, _, hk, mk_bool, run_eq b_gtr rfl⟩
        case geq => exact ⟨_, _, hk, mk_bool, run_eq b_geq rfl⟩
        all_goals exact hk.elim
      · exact hk.elim
  · rename_i d1 a d2 b
    obtain ⟨rfl, ia⟩ := slot_str ha
    obtain ⟨rfl, ib⟩ := slot_str hb
    rw [run_bind (gs a b)]
    have nb : binOp op t (.string a) (.string b) = Op.stringOp op a b := by unfold binOp; cases op <;> rfl
    rw [nb]
    clear gi gs nb
    cases op <;> simp only [] at hk
    case add =>
      obtain ⟨hr, hk⟩ := hk
      have hr' : a.size + b.size ≤ maxL := hr
      refine ⟨_, _, hk, mk_str (y := a ++ b) (by rw [ByteArray.size_append]; exact hr'), ?_⟩
      unfold Op.stringOp
      simp only []
      rw [if_neg (by unfold maxL at hr'; unfold IntKind.max; simp only [IntKind.signed, IntKind.bits, if_true]; omega)]; rfl
    case eql => exact ⟨_, _, hk, mk_bool, rfl⟩
    case neq => exact ⟨_, _, hk, mk_bool, rfl⟩
    case lss => exact ⟨_, _, hk, mk_bool, rfl⟩
    case geq => exact ⟨_, _, hk, mk_bool, rfl⟩
    case leq => exact ⟨_, _, hk, mk_bool, rfl⟩
    case gtr => exact ⟨_, _, hk, mk_bool, rfl⟩
    all_goals exact hk.elim
  · exact hk.elim
end
end Go.Proofs.YtjpeblicfhfniaaDoor.Eng
