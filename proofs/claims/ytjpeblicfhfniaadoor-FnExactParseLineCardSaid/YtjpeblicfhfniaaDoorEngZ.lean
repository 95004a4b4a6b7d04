/- The engine: iterators over strings. No condition. -/
import Derived.Test.YtjpeblicfhfniaaDoorEngR
import Derived.Laws.RangeAny
namespace Go.Proofs.YtjpeblicfhfniaaDoor.Eng
open Go.RowKit
set_option linter.unusedVariables false
set_option linter.unusedSimpArgs false
/-- A choice on a bit that the machine may not know. -/
def spl (c : Bool) (A B : Unit → Prop) : Prop := match c with | true => A () | false => B ()
theorem spl_intro {c : Bool} {A B : Unit → Prop} (h : c = true → A ()) (h' : c = false → B ()) : spl c A B := by cases c <;> simp_all [spl]
theorem spl_cases {c : Bool} {A B : Unit → Prop} (h : spl c A B) : (c = true ∧ A ()) ∨ (c = false ∧ B ()) := by cases c <;> simp_all [spl]
section
variable (M : Mth) (T : Tab) (Γ : Ctx) (d : Option Nat) (K : Ctx → Prop)
def opRange (t : TypeId) (x : SV) : Prop :=
  match T.ty t, x with
  | some .str, .pv _ .str s => match has Γ.new Γ.roots with
    | false => ((Γ.map (kill Γ.new)).add Γ.new (.iter s 0)).on d (.ad Γ.new .unit 0 []) K
    | true => False
  | _, _ => False
def opNext (x : SV) (str : Bool) : Prop :=
  match x, str with
  | .ad r .unit i [], true => if i = 0 then match look r Γ.roots with
      | some (.iter s p) => spl (M.dec (M.lt p (M.sLen s)))
          (fun _ => ((Γ.map (killD r)).set r (.iter s (M.add p (M.runeW s p)))).on d (.consT (.pv [] .bool true) (.consT (.pv [] (.int .i64) p) (.consT (.pv [] (.int .i32) (M.rune s p)) .nilT))) K)
          (fun _ => Γ.on d (.consT (.pv [] .bool false) .nilT) K)
      | _ => False
    else False
  | _, _ => False
end
section
variable {P : Program} {T : Tab} {Bb : Nat → Prop} {w0 : World} {O0 : List Nat} {av : List Value} {Γ Γ' : Ctx} {a : Act} {w w' : World} {β : Nat → Value} {F : Nat → List Nat} {K : Ctx → Prop} {o : Oper} {Q : Exit → Act → World → Prop}
theorem sound_range (hT : TabOk P T) (S : Sim Bb w0 O0 av Γ a w β F) {t : TypeId} {x : Operand} (ho : o.op = .range t x) (hk : opRange T Γ o.dst K t (Γ.eval x)) : o.wp P a w (Nx Bb w0 O0 av K) Q := by
  have hx := S.eval x
  unfold opRange at hk
  split at hk
  · rename_i dd s ht hxe
    have hu : P.underlying t = some .string := (hT _ _ ht).1
    rw [hxe] at hx
    obtain ⟨e1, hs⟩ := slot_str hx
    split at hk
    · rename_i hnew
      generalize Γ.new = r at *
      have hnr := has_false hnew
      have hids : ((Γ.map (kill r)).roots).map (·.1) = Γ.roots.map (·.1) := mapC_ids _ _
      have hr : (execOp a.eval o).run P w = .ok (.value (.pointer (some ⟨w.heap.size, 0, none⟩))) { w with heap := w.heap.push (.stringIter s 0) } := by
        unfold execOp; rw [ho]
        refine run_v ?_
        rw [e1]
        simp [Instr.range, _root_.Go.run_underlying hu]
      refine wp_drawn hr ((S.soft (soft_kill r)).addRoot (c := .iter s 0) (hdr := .pointer (some ⟨w.heap.size, 0, none⟩)) (B := [w.heap.size]) (FitG.of (fit_kill r) Γ) (by rw [hids]; exact hnr) (fun q hq => heap_push q hq) (by simp) rfl rfl rfl ⟨by simp, fun b hb => ?_⟩ rfl ?_) ?_ hk
      · simp only [List.mem_singleton] at hb; subst hb; simp
      · exact ⟨w.heap.size, 0, upF_at, rfl, heap_push_new, rfl, hs⟩
      · refine slot_c (v := .ad r .unit 0 []) (cs := [.pointer (some ⟨w.heap.size, 0, none⟩)]) rfl ⟨w.heap.size, 0, by rw [upF_at]; rfl, by rw [offAt_nil]; simp⟩
    · exact hk.elim
  · exact hk.elim
theorem run_next_some {b n : Nat} {s : ByteArray} {ty : TypeId} (hb : w.heap[b]? = some (.stringIter s n)) (hn : n < s.size) :
    (Instr.next (.pointer (some ⟨b, 0, none⟩)) true ty).run P w = .ok (.tuple #[.bool true, .int .i64 n, .int .i32 (Utf8.decode s n).1]) (upd w b (.stringIter s (n + (Utf8.decode s n).2))) := by
  simp only [Instr.next, getObj, setObj, Sem.run_bind, Sem.run, hb, Result.andThen, hn, if_true]
  simp [goInt, upd]
theorem run_next_none {b n : Nat} {s : ByteArray} {ty : TypeId} (hb : w.heap[b]? = some (.stringIter s n)) (hn : ¬ n < s.size) :
    (Instr.next (.pointer (some ⟨b, 0, none⟩)) true ty).run P w = .ok (.tuple #[.bool false]) w := by
  simp [Instr.next, getObj, Sem.run, hb, hn]
theorem slot1_int {h : Hp} {Zd : List Nat → Nat → Prop} {k : IntKind} {y : Int} (hk : InK k y) : Slot1 h Zd β (.pv [] (.int k) y) (.int k y) := .inr ⟨[.int k y], ⟨rfl, rfl, hk⟩, rfl⟩
theorem slot1_bool {h : Hp} {Zd : List Nat → Nat → Prop} {y : Bool} : Slot1 h Zd β (.pv [] .bool y) (.bool y) := .inr ⟨[.bool y], ⟨rfl, rfl⟩, rfl⟩
theorem sound_next (S : Sim Bb w0 O0 av Γ a w β F) {x : Operand} {str : Bool} (ho : o.op = .next x str) (hk : opNext real Γ o.dst K (Γ.eval x) str) : o.wp P a w (Nx Bb w0 O0 av K) Q := by
  have hx := S.eval x
  unfold opNext at hk
  split at hk
  · rename_i r i hxe
    rw [hxe] at hx
    split at hk
    · rename_i hi
      subst hi
      split at hk
      · rename_i s p hr
        obtain ⟨cs, ⟨b, off, hb, rfl⟩, ex⟩ := slot_one hx rfl (by simp)
        obtain ⟨b', n, q1, q2, q3, q4, q5⟩ := S.roots r _ (look_mem hr)
        rw [q1] at hb
        simp only [baseA, Option.some.injEq, Prod.mk.injEq] at hb
        obtain ⟨rfl, rfl⟩ := hb
        have ex' : a.eval x = .pointer (some ⟨b', 0, none⟩) := by rw [ex]; simp [valOf, SV.isAgg, offAt]
        have hrun : ∀ {z w'}, (Instr.next (.pointer (some ⟨b', 0, none⟩)) true o.type).run P w = .ok z w' → (execOp a.eval o).run P w = .ok (.value z) w' := by
          intro z w' hz
          unfold execOp; rw [ho]
          refine run_v ?_
          rw [ex']; exact hz
        have q3' : w.heap[b']? = some (.stringIter s n) := q3
        have hlt : real.dec (real.lt p (real.sLen s)) = true ↔ n < s.size := by
          rw [dec_iff, q4]; show (n : Int) < (s.size : Int) ↔ _; omega
        rcases spl_cases hk with ⟨hc, hk⟩ | ⟨hc, hk⟩
        · have hn := hlt.1 hc
          have hin1 : r ∈ Γ.roots.map (·.1) := List.mem_map.2 ⟨_, look_mem hr, rfl⟩
          have S1 := S.soft (soft_killD r)
          have hzz : ZdOf Bb F (Γ.map (killD r)).roots = ZdOf Bb F Γ.roots := ZdOf_ids (mapC_ids _ _)
          have hk1 : InK .i64 p := by
            rw [q4]; unfold InK IntKind.min IntKind.max; unfold maxL at q5; simp [IntKind.signed, IntKind.bits]; omega
          have hk2 : InK .i32 (real.rune s p) := by
            have := decode_le s n
            show InK .i32 ((Utf8.decode s p.toNat).1 : Int)
            rw [q4, Int.toNat_natCast]; unfold InK IntKind.min IntKind.max; simp [IntKind.signed, IntKind.bits]; omega
          have hadd : real.add p (real.runeW s p) = ((n + (Utf8.decode s n).2 : Nat) : Int) := by
            show p + ((Utf8.decode s p.toNat).2 : Int) = _
            rw [q4, Int.toNat_natCast]; omega
          rw [hadd] at hk
          refine wp_drawn (hrun (run_next_some q3' hn)) (S1.setRoot (c := .iter s ((n + (Utf8.decode s n).2 : Nat) : Int)) (FitG.of (fit_killD r) Γ) (fun _ _ => rfl) (fun _ _ => rfl) S.bone (mem_mapC_iter (look_mem hr)) (F' := F) (fun q _ hq => ?_) (by rw [upd_size]; exact Nat.le_refl _) rfl rfl rfl (fun _ _ => rfl) ⟨nodup_F hin1 S.nodup, fun q hq => ?_⟩ ?_) ?_ hk
          · exact upd_ne (fun e => hq (by rw [q2, e]; simp))
          · rw [upd_size]; exact ⟨(S.own q (mem_allO.2 ⟨r, hin1, hq⟩)).1, .inl hq⟩
          · exact ⟨b', n + (Utf8.decode s n).2, q1, q2, upd_get q3', rfl, q5⟩
          · have hrn : real.rune s p = ((Utf8.decode s n).1 : Int) := by
              show ((Utf8.decode s p.toNat).1 : Int) = _
              rw [q4, Int.toNat_natCast]
            refine .inl ⟨rfl, [.bool true, .int .i64 n, .int .i32 (Utf8.decode s n).1], rfl, _, _, rfl, slot1_bool, _, _, rfl, ?_, _, _, rfl, ?_, rfl⟩
            · have := slot1_int (β := β) (h := hp (upd w b' (.stringIter s (n + (Utf8.decode s n).2)))) (Zd := ZdOf Bb F ((Γ.map (killD r)).set r (.iter s ((n + (Utf8.decode s n).2 : Nat) : Int))).roots) hk1
              rw [← q4]; exact this
            · have := slot1_int (β := β) (h := hp (upd w b' (.stringIter s (n + (Utf8.decode s n).2)))) (Zd := ZdOf Bb F ((Γ.map (killD r)).set r (.iter s ((n + (Utf8.decode s n).2 : Nat) : Int))).roots) hk2
              rw [← hrn]; exact this
        · have hn : ¬ n < s.size := fun h => by rw [hlt.2 h] at hc; cases hc
          refine wp_drawn (hrun (run_next_none q3' hn)) S ?_ hk
          exact .inl ⟨rfl, [.bool false], rfl, _, _, rfl, slot1_bool, rfl⟩
      · exact hk.elim
    · exact hk.elim
  · exact hk.elim
end
end Go.Proofs.YtjpeblicfhfniaaDoor.Eng
