/- Contracts of ParseLine's functions, sixth text: wordOf (a map), impl.ParseLine. -/
import Derived.Test.YtjpeblicfhfniaaDoorS
import Derived.Test.YtjpeblicfhfniaaDoorT
namespace Go.Proofs.YtjpeblicfhfniaaDoor.EngTabP
open Go.Proofs.YtjpeblicfhfniaaDoor.Eng
open Go.Proofs.YtjpeblicfhfniaaDoor.EngTab (byteAt)
set_option maxRecDepth 100000
set_option linter.unusedVariables false
set_option linter.unusedSimpArgs false
def lookB : List (ByteArray × Int × ByteArray × Unit) → ByteArray → Int × ByteArray
  | [], _ => (0, ⟨#[]⟩)
  | p :: l, s => if p.1 = s then (p.2.1, p.2.2.1) else lookB l s
def words : List (ByteArray × Int × ByteArray × Unit) := [(⟨#[99, 114, 101, 97, 116, 101]⟩, 1, ⟨#[116, 112]⟩, ()), (⟨#[109, 107, 100, 105, 114]⟩, 2, ⟨#[116, 112]⟩, ()), (⟨#[119, 114, 105, 116, 101]⟩, 3, ⟨#[116, 112, 111, 100]⟩, ()), (⟨#[102, 105, 108, 108]⟩, 4, ⟨#[116, 112, 111, 108, 99]⟩, ()), (⟨#[114, 101, 97, 100]⟩, 5, ⟨#[116, 112, 111, 108]⟩, ()), (⟨#[108, 105, 115, 116]⟩, 6, ⟨#[116, 112]⟩, ()), (⟨#[117, 110, 108, 105, 110, 107]⟩, 7, ⟨#[116, 112]⟩, ()), (⟨#[114, 101, 110, 97, 109, 101]⟩, 8, ⟨#[116, 112, 113]⟩, ()), (⟨#[99, 108, 111, 110, 101]⟩, 9, ⟨#[116]⟩, ()), (⟨#[100, 114, 111, 112]⟩, 10, ⟨#[116]⟩, ()), (⟨#[115, 121, 110, 99]⟩, 11, ⟨#[]⟩, ()), (⟨#[115, 112, 97, 99, 101]⟩, 12, ⟨#[]⟩, ()), (⟨#[99, 114, 97, 115, 104]⟩, 13, ⟨#[111, 109]⟩, ())]
def wordI (s : ByteArray) : Int × ByteArray := lookB words s
theorem look_get (s : ByteArray) : ∀ l, rget l s (0, ⟨#[]⟩, ()) = ((lookB l s).1, (lookB l s).2, ())
  | [] => rfl
  | p :: l => by
    unfold rget lookB
    by_cases h : p.1 = s
    · rw [if_pos h, if_pos h]
    · rw [if_neg h, if_neg h]; exact look_get s l
theorem look_has (s : ByteArray) : ∀ l : List (ByteArray × Int × ByteArray × Unit), (∀ p ∈ l, p.2.1 ≠ 0) → (s ∈ l.map (·.1) ↔ (lookB l s).1 ≠ 0)
  | [], _ => by simp [lookB]
  | p :: l, hl => by
    unfold lookB
    by_cases h : p.1 = s
    · rw [if_pos h]; exact ⟨fun _ => hl p (by simp), fun _ => by simp [h]⟩
    · rw [if_neg h, ← look_has s l (fun q hq => hl q (by simp [hq]))]
      simp only [List.map_cons, List.mem_cons]
      exact ⟨fun h1 => h1.resolve_left (fun e => h e.symm), .inr⟩
noncomputable def wordsM : List (ByteArray × Int × ByteArray × Unit) := (rput (rput (rput (rput (rput (rput (rput (rput (rput (rput (rput (rput (rput [] ⟨#[99, 114, 101, 97, 116, 101]⟩ (1, ⟨#[116, 112]⟩, ())) ⟨#[109, 107, 100, 105, 114]⟩ (2, ⟨#[116, 112]⟩, ())) ⟨#[119, 114, 105, 116, 101]⟩ (3, ⟨#[116, 112, 111, 100]⟩, ())) ⟨#[102, 105, 108, 108]⟩ (4, ⟨#[116, 112, 111, 108, 99]⟩, ())) ⟨#[114, 101, 97, 100]⟩ (5, ⟨#[116, 112, 111, 108]⟩, ())) ⟨#[108, 105, 115, 116]⟩ (6, ⟨#[116, 112]⟩, ())) ⟨#[117, 110, 108, 105, 110, 107]⟩ (7, ⟨#[116, 112]⟩, ())) ⟨#[114, 101, 110, 97, 109, 101]⟩ (8, ⟨#[116, 112, 113]⟩, ())) ⟨#[99, 108, 111, 110, 101]⟩ (9, ⟨#[116]⟩, ())) ⟨#[100, 114, 111, 112]⟩ (10, ⟨#[116]⟩, ())) ⟨#[115, 121, 110, 99]⟩ (11, ⟨#[]⟩, ())) ⟨#[115, 112, 97, 99, 101]⟩ (12, ⟨#[]⟩, ())) ⟨#[99, 114, 97, 115, 104]⟩ (13, ⟨#[111, 109]⟩, ()))
def putB {α γ : Type} [DecidableEq α] : List (α × γ) → α → γ → List (α × γ)
  | [], k, v => [(k, v)]
  | p :: l, k, v => if p.1 = k then (k, v) :: l else p :: putB l k v
theorem rput_dec {α γ : Type} [DecidableEq α] (k : α) (v : γ) : ∀ xs : List (α × γ), rput xs k v = putB xs k v
  | [] => rfl
  | p :: l => by
    unfold rput putB
    by_cases h : p.1 = k
    · rw [if_pos h, if_pos h]
    · rw [if_neg h, if_neg h, rput_dec k v l]
theorem wordsM_eq : wordsM = words := by
  unfold wordsM
  simp only [rput_dec]
  decide +kernel
def c21 : Con := Con.of ⟨[(false, 0, .str)], [(0, .pair (.int .i64) (.pair .str .unit)), (0, .bool)], fun _ => True, fun x y _ => y.1 = ((wordI x.1).1, (wordI x.1).2, ()) ∧ y.2.1 = decide ((wordI x.1).1 ≠ 0)⟩
theorem ok21 : FnOK Tryd.prog 21 c21 := by
  refine FnOK.of_vc mixed tabOk .nil Tryd.func21 rfl (by decide) lv21 hd21 ?_
  rintro ⟨(s : ByteArray), ⟨⟩⟩ - hwf
  clear hwf
  generalize hM : real = M
  cbv
  intro _
  rw [← hM]
  show rget wordsM s (0, ⟨#[]⟩, ()) = ((wordI s).1, (wordI s).2, ()) ∧ real.dec (s ∈ wordsM.map (·.1)) = decide ((wordI s).1 ≠ 0)
  rw [wordsM_eq]
  refine ⟨look_get s words, ?_⟩
  rw [Bool.eq_iff_iff, dec_iff, decide_eq_true_iff]
  exact look_has s words (by decide)
end Go.Proofs.YtjpeblicfhfniaaDoor.EngTabP
