/- The engine, part 21: code. No condition. -/
import Derived.Test.YtjpeblicfhfniaaDoorEngT
import Derived.Scope
import Derived.Control
import Derived.Deep.LoopGhost
namespace Go.Proofs.YtjpeblicfhfniaaDoor.Eng
open Go.RowKit
set_option linter.unusedVariables false
set_option linter.unusedSimpArgs false

/-! ### what is kept -/
def refsOf : SV → List Nat → List Nat
  | .ref r, acc => r :: acc
  | .ad r _ _ _, acc => r :: acc
  | .pv d _ _, acc => d ++ acc
  | .fad d _ _ _ _, acc => d ++ acc
  | .consA a b, acc => refsOf a (refsOf b acc)
  | .consT a b, acc => refsOf a (refsOf b acc)
  | .arp r _ _, acc => r :: acc
  | .vw r _ _ _, acc => r :: acc
  | .ifs _ _ v, acc => refsOf v acc
  | _, acc => acc
def refsS : List (Nat × SV) → List Nat → List Nat
  | [], acc => acc
  | (_, v) :: l, acc => refsOf v (refsS l acc)
def refsA : List SV → List Nat → List Nat
  | [], acc => acc
  | v :: l, acc => refsOf v (refsA l acc)
def refsC (ids : List Nat) : List (Nat × Ch) → List Nat → List Nat
  | [], acc => acc
  | (r, .box v) :: l, acc => match mem r ids with
    | true => refsOf v (refsC ids l acc)
    | false => refsC ids l acc
  | (_, .row _ _ _) :: l, acc => refsC ids l acc
  | (_, .iter _ _) :: l, acc => refsC ids l acc
  | (_, .mp _ _ _) :: l, acc => refsC ids l acc
  | (r, .glob _) :: l, acc => r :: refsC ids l acc
def pickS (slots : List (Nat × SV)) : List Nat → List (Nat × SV)
  | [] => []
  | n :: l => match look n slots with
    | some (.hole _) => pickS slots l
    | some v => (n, v) :: pickS slots l
    | none => pickS slots l
def insR (r : Nat) (c : Ch) : List (Nat × Ch) → List (Nat × Ch)
  | [] => [(r, c)]
  | (q, d) :: l => match Nat.blt r q with
    | true => (r, c) :: (q, d) :: l
    | false => (q, d) :: insR r c l
def gcR (ids : List Nat) : List (Nat × Ch) → List (Nat × Ch)
  | [] => []
  | (r, c) :: l => match mem r ids with
    | true => insR r c (gcR ids l)
    | false => gcR ids l
def keep (lv : List Nat) (Γ : Ctx) : Ctx :=
  let s := pickS Γ.slots lv
  let i0 := refsS s (refsA Γ.anch [])
  let i1 := refsC i0 Γ.roots i0
  let i2 := refsC i1 Γ.roots i1
  ⟨Γ.nt, s, gcR i2 Γ.roots, Γ.anch⟩
section
variable {Bb : Nat → Prop} {w0 : World} {O0 : List Nat} {av : List Value} {Γ Γ' : Ctx} {a : Act} {w w' : World} {β : Nat → Value} {F : Nat → List Nat}
theorem mem_pickS {slots : List (Nat × SV)} {n : Nat} {v : SV} : ∀ {l : List Nat}, (n, v) ∈ pickS slots l → (n, v) ∈ slots
  | [], h => by cases h
  | m :: l, h => by
    unfold pickS at h
    split at h
    · exact mem_pickS h
    · rename_i u _ hu
      rcases List.mem_cons.1 h with h | h
      · injection h with h1 h2; subst h1; subst h2; exact look_mem hu
      · exact mem_pickS h
    · exact mem_pickS h
theorem insR_perm {r : Nat} {c : Ch} : ∀ {l : List (Nat × Ch)}, (insR r c l).Perm ((r, c) :: l)
  | [] => .refl _
  | (q, d) :: l => by
    unfold insR; split
    · exact .refl _
    · exact (List.Perm.cons _ insR_perm).trans (List.Perm.swap _ _ _)
theorem gcR_sub {ids : List Nat} : ∀ {l : List (Nat × Ch)}, ∃ l', (gcR ids l).Perm l' ∧ l'.Sublist l
  | [] => ⟨[], .refl _, .refl _⟩
  | (r, c) :: l => by
    obtain ⟨l', h1, h2⟩ := gcR_sub (ids := ids) (l := l)
    unfold gcR; split
    · exact ⟨(r, c) :: l', insR_perm.trans (List.Perm.cons _ h1), h2.cons_cons _⟩
    · exact ⟨l', h1, h2.cons _⟩
/-- Some roots are let go. -/
theorem Sim.sub {S' : List (Nat × SV)} {R' : List (Nat × Ch)} (S : Sim Bb w0 O0 av Γ a w β F) (hs : ∀ p ∈ S', p ∈ Γ.slots) (hr : ∀ p ∈ R', p ∈ Γ.roots) (hi : (R'.map (·.1)).Nodup) : Sim Bb w0 O0 av ⟨Γ.nt, S', R', Γ.anch⟩ a w β F := by
  have hin : ∀ r ∈ R'.map (·.1), r ∈ Γ.roots.map (·.1) := fun r hr' => by
    obtain ⟨p, h1, rfl⟩ := List.mem_map.1 hr'; exact List.mem_map.2 ⟨p, hr p h1, rfl⟩
  have hO : ∀ b ∈ allO F R', b ∈ allO F Γ.roots := fun b hb => by
    obtain ⟨r, h1, h2⟩ := mem_allO.1 hb; exact mem_allO.2 ⟨r, hin r h1, h2⟩
  have hz : ∀ d b, ZdOf Bb F Γ.roots d b → ZdOf Bb F R' d b := by
    intro d b hz
    rcases hz with hz | ⟨r, r1, r2, r3⟩
    · exact .inl ⟨fun h => hz.1 (hO b h), hz.2⟩
    · by_cases h : r ∈ R'.map (·.1)
      · exact .inr ⟨r, r1, h, r3⟩
      · refine .inl ⟨fun hb => ?_, S.base b (S.own b (mem_allO.2 ⟨r, r2, r3⟩)).2⟩
        obtain ⟨q, h1, h2⟩ := mem_allO.1 hb
        have := disj S.ids S.nodup r2 (hin q h1) r3 h2
        subst this; exact h h1
  have S1 : Sim Bb w0 O0 av ⟨Γ.nt, Γ.slots, R', Γ.anch⟩ a w β F := by
    refine S.world (R' := R') (F' := F) (D := fun _ => True) (R := fun _ => True) ⟨fun _ v _ => fit_all v, fun _ v _ => fit_all v, fun v _ => fit_all v⟩ (fun d _ b h _ => ⟨rfl, hz d b h⟩) (fun _ _ => rfl) (fun r c hm => ?_) hi ?_ (fun b hb => S.own b (hO b hb)) S.frm S.bone
    · exact RootR.mono (D := fun _ => True) (R := fun _ => True) trivial (fun d _ b h _ => ⟨rfl, hz d b h⟩) (fun _ _ => rfl) rfl (fun _ _ => rfl) (fun v _ => fit_all v) (S.roots r c (hr _ hm))
    · rw [allO_eq]
      exact nodup_flatMap hi (fun r h => nodup_F (hin r h) S.nodup) (fun r h q h' hne b h1 h2 => hne (disj S.ids S.nodup (hin r h) (hin q h') h1 h2))
  exact ⟨S1.size, S1.defers, fun n v hm => S1.slots n v (hs _ hm), S1.roots, S1.anch, S1.ids, S1.nodup, S1.own, S1.frm, S1.bone, S1.base⟩
theorem Sim.keep (lv : List Nat) (S : Sim Bb w0 O0 av Γ a w β F) : Sim Bb w0 O0 av (Eng.keep lv Γ) a w β F := by
  unfold Eng.keep
  refine S.sub (fun p hp => mem_pickS (n := p.1) (v := p.2) hp) (fun p hp => ?_) ?_
  · obtain ⟨l', h1, h2⟩ := gcR_sub (ids := refsC (refsC (refsS (pickS Γ.slots lv) (refsA Γ.anch [])) Γ.roots (refsS (pickS Γ.slots lv) (refsA Γ.anch []))) Γ.roots (refsC (refsS (pickS Γ.slots lv) (refsA Γ.anch [])) Γ.roots (refsS (pickS Γ.slots lv) (refsA Γ.anch [])))) (l := Γ.roots)
    exact h2.subset (h1.subset hp)
  · obtain ⟨l', h1, h2⟩ := gcR_sub (ids := refsC (refsC (refsS (pickS Γ.slots lv) (refsA Γ.anch [])) Γ.roots (refsS (pickS Γ.slots lv) (refsA Γ.anch []))) Γ.roots (refsC (refsS (pickS Γ.slots lv) (refsA Γ.anch [])) Γ.roots (refsS (pickS Γ.slots lv) (refsA Γ.anch [])))) (l := Γ.roots)
    exact (h1.map _).nodup_iff.2 ((h2.map _).nodup S.ids)
end

/-! ### what data in memory is -/
def SvWF : SV → Prop
  | .pv _ t x => WF t x
  | .consA a b => SvWF a ∧ SvWF b
  | .ifs _ _ v => SvWF v
  | _ => True
def ChWF : Ch → Prop
  | .row _ e xs => WF (.sl e) xs
  | .box v => SvWF v
  | .iter s _ => s.size ≤ maxL
  | .mp k v xs => WF (.mp k v) (some xs)
  | .glob _ => True
def CtxWF (Γ : Ctx) : Prop := (∀ p ∈ Γ.slots, SvWF p.2) ∧ ∀ p ∈ Γ.roots, ChWF p.2
section
variable {Bb : Nat → Prop} {w0 : World} {O0 : List Nat} {av : List Value} {Γ Γ' : Ctx} {a : Act} {w w' : World} {β : Nat → Value} {F : Nat → List Nat}
theorem SVc.wf {h : Hp} {Zd : List Nat → Nat → Prop} : ∀ {v : SV} {cs : List Value}, SVc h Zd β v cs → SvWF v
  | .hole n, cs, o => trivial
  | .pv d t x, cs, o => Own.wf (show Own h (Zd d) t 0 [] cs x from o)
  | .nils, cs, o => trivial
  | .ref q, cs, o => trivial
  | .ad q e i p, cs, o => trivial
  | .fad d e xs i p, cs, o => trivial
  | .nilA, cs, o => trivial
  | .consA a b, cs, ⟨c1, c2, e, o1, o2⟩ => ⟨SVc.wf o1, SVc.wf o2⟩
  | .nilT, _, _ => trivial
  | .consT _ _, _, _ => trivial
  | .nilI, _, _ => trivial | .nilP, _, _ => trivial | .nilM, _, _ => trivial | .arp _ _ _, _, _ => trivial | .vw _ _ _ _, _, _ => trivial | .gl _, _, _ => trivial | .fn _, _, _ => trivial
  | .ifs _ _ v, _, ⟨_, _, o⟩ => SVc.wf (v := v) o
theorem Sim.wf (S : Sim Bb w0 O0 av Γ a w β F) : CtxWF Γ := by
  constructor
  · rintro ⟨n, v⟩ hm
    obtain ⟨x, _, h⟩ := S.slots n v hm
    rcases h with ⟨ht, _⟩ | ⟨_, ⟨m, rfl⟩ | ⟨cs, h, _⟩⟩
    · cases v <;> first | trivial | cases ht
    · trivial
    · exact SVc.wf h
  · rintro ⟨r, c⟩ hm
    have := S.roots r c hm
    cases c with
    | row l e xs => exact Own.wf (show Own _ _ (.sl e) (l + 1) _ _ xs from this)
    | box v => obtain ⟨_, _, _, _, _, _, h⟩ := this; exact SVc.wf h
    | iter s p => obtain ⟨b, n, h1, h2, h3, h4, h5⟩ := S.roots r _ hm; exact h5
    | mp k v xs => exact Own.wf (show Own _ _ (.mp k v) 1 _ _ (some xs) from this)
    | glob _ => trivial
end

/-! ### code -/
inductive Ex where
  | normal | exit (n : Nat) | ret
/-- The orders of a drawn region: `alt i t r`: operation i first, then t; or one of r. -/
inductive OT where
  | leaf | nil | alt (i : Nat) (t r : OT)
def OT.firsts : OT → List Nat
  | .alt i _ r => i :: r.firsts
  | _ => []
def okT (ops : Array Oper) : OT → Bool → Nat → Array Bool → Bool
  | .leaf, hd, _, listed => hd && (Region.ready .any ops listed).isEmpty
  | .nil, hd, _, _ => !hd
  | .alt i t r, hd, f, listed => match f with
    | 0 => false
    | g + 1 => (!hd || Region.ready .any ops listed == i :: r.firsts) && okT ops t true g (listed.setIfInBounds i true) && okT ops r false (g + 1) listed
def DrawOk (ops : Array Oper) (n : Nat) : Prop := (n = ops.size ∧ Region.lexB .any ops = true) ∨ Region.lexTailB .any ops n = true
def vcTree (M : Mth) (T : Tab) (C : FuncId → Option Con) (all : List Oper) : OT → Ctx → (Ctx → Prop) → Prop
  | .leaf, Γ, K => K Γ
  | .nil, _, _ => True
  | .alt i t r, Γ, K => (match nthO i all with
    | some o => vcG M T C all o Γ fun Γ => vcTree M T C all t Γ K
    | none => False) ∧ vcTree M T C all r Γ K
section
variable (M : Mth) (T : Tab) (C : FuncId → Option Con) (lv : Nat → List Nat) (hd : Nat → Nat)
def vc : Code → (Ex → Ctx → Prop) → Ctx → Prop
  | .skip, Q, Γ => Q .normal Γ
  | .ret, Q, Γ => Q .ret Γ
  | .exit n, Q, Γ => Q (.exit n) Γ
  | .seq a b, Q, Γ => vc a (fun e Γ => match e with | .normal => vc b Q Γ | .exit n => Q (.exit n) Γ | .ret => Q .ret Γ) Γ
  | .block id c, Q, Γ => vc c (fun e Γ => match e with | .exit n => match Nat.beq n id with | true => Q .normal Γ | false => Q (.exit n) Γ
                                                       | .normal => Q .normal Γ | .ret => Q .ret Γ) Γ
  | .cond x a b, Q, Γ => match Γ.eval x with
    | .pv _ .bool c => spl c (fun _ => vc a Q Γ) (fun _ => vc b Q Γ)
    | _ => False
  | .region id ops draw, Q, Γ => match draw with
    | false => vcOps M T C ops.toList ops.toList Γ fun Γ => Q .normal (keep (lv id) Γ)
    | true => match hd id with
      | 0 => ∃ t : OT, (True → okT ops t true ops.size (Array.replicate ops.size false) = true) ∧ vcTree M T C ops.toList t Γ fun Γ => Q .normal (keep (lv id) Γ)
      | n + 1 => (True → DrawOk ops (n + 1)) ∧ vcHead M T C ops.toList (n + 1) ops.toList Γ fun l Γ => vcOps M T C ops.toList l Γ fun Γ => Q .normal (keep (lv id) Γ)
  | .scope c, Q, Γ => vc c Q Γ
  | .label _, Q, Γ => Q .normal Γ
  | .loop c, Q, Γ => ∃ I : Nat → Ctx → Prop, (∃ n, I n Γ) ∧ ∀ n Γ, I n Γ → CtxWF Γ → vc c (fun e Γ => match e with | .normal => ∃ m, m < n ∧ I m Γ | .exit n => Q (.exit n) Γ | .ret => Q .ret Γ) Γ
  | _, _, _ => False
end
section
variable {P : Program} {T : Tab} {C : FuncId → Option Con} {lv : Nat → List Nat} {hd : Nat → Nat} {Bb : Nat → Prop} {w0 : World} {O0 : List Nat} {av : List Value}
def ExQ (Bb : Nat → Prop) (w0 : World) (O0 : List Nat) (av : List Value) (Q : Ex → Ctx → Prop) : Exit → Act → World → Prop
  | .normal, a, w => Nx Bb w0 O0 av (Q .normal) a w
  | .exit n, a, w => Nx Bb w0 O0 av (Q (.exit n)) a w
  | .ret, a, w => Nx Bb w0 O0 av (Q .ret) a w
  | _, _, _ => False
theorem sound_head (hT : TabOk P T) (hC : ConsOk P C) {all : List Oper} {w : World} {K : List Oper → Ctx → Prop} : ∀ {n : Nat} {l : List Oper} {Γ : Ctx} {a : Act} {β : Nat → Value} {F : Nat → List Nat} {N : Act → Prop}, Sim Bb w0 O0 av Γ a w β F → vcHead real T C all n l Γ K →
    (∀ a', Nx Bb w0 O0 av (K (l.drop n)) a' w → N a') → wpStill P all.toArray w N (l.take n) a
  | 0, l, Γ, a, β, F, N, S, hk, hn => hn a ⟨Γ, β, F, hk, S⟩
  | n + 1, [], Γ, a, β, F, N, S, hk, hn => hn a ⟨Γ, β, F, hk, S⟩
  | n + 1, o :: l, Γ, a, β, F, N, S, hk, hn => by
    simp only [vcHead] at hk
    split at hk
    · rename_i hrd
      refine wpStill_step fun N' hN' => ?_
      have cont : ∀ a', Nx Bb w0 O0 av (fun Γ => vcHead real T C all n l Γ K) a' w → N' a' := fun a' ⟨Γ', β', F', h1, h2⟩ => hN' a' (sound_head hT hC h2 h1 hn)
      rcases guard_ok S hk with ⟨h1, Γ', S', h2⟩ | ⟨h1, h2⟩
      · rw [if_pos h1]
        obtain ⟨x, r1, r2⟩ := sound_rd hT S' hrd h2
        unfold Oper.still
        rw [r1, Oper.stillUpon_value]
        exact cont _ r2
      · rw [if_neg (by rw [h1]; exact Bool.false_ne_true)]
        exact cont _ h2
    · exact hk.elim
theorem okT_firsts {ops : Array Oper} : ∀ {t : OT} {f : Nat} {l : Array Bool}, okT ops t true f l = true → Region.ready .any ops l = t.firsts
  | .leaf, f, l, h => by cases f <;> simpa [okT, OT.firsts] using h
  | .nil, f, l, h => by cases f <;> simp [okT] at h
  | .alt i t r, 0, l, h => by simp [okT] at h
  | .alt i t r, f + 1, l, h => by
    simp only [okT, Bool.not_true, Bool.false_or, Bool.and_eq_true, beq_iff_eq] at h
    exact h.1.1
theorem sound_tree (hT : TabOk P T) (hC : ConsOk P C) {all : List Oper} {K : Ctx → Prop} {Q : Exit → Act → World → Prop} (hq : ∀ a' w', Nx Bb w0 O0 av K a' w' → Q .normal a' w') : ∀ (t : OT) {f : Nat} {listed : Array Bool} {Γ : Ctx} {a : Act} {w : World} {β : Nat → Value} {F : Nat → List Nat},
    Sim Bb w0 O0 av Γ a w β F → vcTree real T C all t Γ K →
    (okT all.toArray t true f listed = true → wpAny P .any all.toArray Q f listed a w) ∧
    ((∃ b, okT all.toArray t b f listed = true) → ∀ g, f = g + 1 → ∀ i ∈ t.firsts, wpOp P all.toArray Q i (wpAny P .any all.toArray Q g (listed.setIfInBounds i true)) a w)
  | .leaf, f, listed, Γ, a, w, β, F, S, hk => by
    refine ⟨fun h => ?_, fun _ g _ i hi => by simp [OT.firsts] at hi⟩
    have hr := okT_firsts h
    have hqq := hq a w ⟨Γ, β, F, hk, S⟩
    cases f with
    | zero => exact ⟨hr, hqq⟩
    | succ f => exact ⟨fun _ => hqq, fun i hi => by rw [hr] at hi; simp [OT.firsts] at hi⟩
  | .nil, f, listed, Γ, a, w, β, F, S, hk => by
    refine ⟨fun h => by cases f <;> simp [okT] at h, fun _ g _ i hi => by simp [OT.firsts] at hi⟩
  | .alt i t r, f, listed, Γ, a, w, β, F, S, hk => by
    obtain ⟨hk1, hk2⟩ := hk
    have key : (∃ b, okT all.toArray (.alt i t r) b f listed = true) → ∀ g, f = g + 1 → ∀ j ∈ (OT.alt i t r).firsts, wpOp P all.toArray Q j (wpAny P .any all.toArray Q g (listed.setIfInBounds j true)) a w := by
      rintro ⟨b, hb⟩ g rfl j hj
      simp only [okT, Bool.and_eq_true] at hb
      rcases List.mem_cons.1 hj with rfl | hj
      · rw [nthO_eq] at hk1
        unfold wpOp
        have e0 : all.toArray[j]? = all[j]? := by simp
        rw [e0]
        split at hk1
        · rename_i o ho
          rw [ho]
          simp only []
          have cont : ∀ a' w', Nx Bb w0 O0 av (fun Γ => vcTree real T C all t Γ K) a' w' → wpAny P .any all.toArray Q g (listed.setIfInBounds j true) a' w' := fun a' w' ⟨Γ', β', F', h1, h2⟩ => (sound_tree hT hC hq t h2 h1).1 hb.1.2
          rcases guard_ok S hk1 with ⟨h1, Γ', S', h2⟩ | ⟨h1, h2⟩
          · rw [if_pos h1]
            exact .inl (Go.Oper.wp_mono cont (sound_op hT hC S' h2))
          · rw [if_neg (by rw [h1]; exact Bool.false_ne_true)]
            exact cont _ _ h2
        · exact hk1.elim
      · exact (sound_tree hT hC hq r S hk2).2 ⟨false, hb.2⟩ g rfl j hj
    refine ⟨fun h => ?_, key⟩
    have hr := okT_firsts h
    cases f with
    | zero => simp [okT] at h
    | succ g => exact ⟨fun h0 => by rw [h0] at hr; simp [OT.firsts] at hr, fun j hj => key ⟨true, h⟩ g rfl j (by rw [← hr]; exact hj)⟩
theorem sound_code (hm : P.follows .mixedOrders = true) (hT : TabOk P T) (hC : ConsOk P C) : ∀ {c : Code} {Q : Ex → Ctx → Prop} {Γ : Ctx} {a : Act} {w : World} {β : Nat → Value} {F : Nat → List Nat}, Sim Bb w0 O0 av Γ a w β F → vc real T C lv hd c Q Γ → c.wp P (ExQ Bb w0 O0 av Q) a w := by
  intro c
  induction c with
  | skip => intro Q Γ a w β F S hk; exact wp_skip (Q := ExQ Bb w0 O0 av Q) ⟨Γ, β, F, hk, S⟩
  | ret => intro Q Γ a w β F S hk; exact wp_ret (Q := ExQ Bb w0 O0 av Q) ⟨Γ, β, F, hk, S⟩
  | exit n => intro Q Γ a w β F S hk; exact wp_exit (Q := ExQ Bb w0 O0 av Q) ⟨Γ, β, F, hk, S⟩
  | seq x y ihx ihy =>
    intro Q Γ a w β F S hk
    refine wp_seq (wp_mono (ihx S hk) ?_)
    intro e a' w' h
    cases e with
    | normal => obtain ⟨Γ', β', F', h1, h2⟩ := h; exact ihy h2 h1
    | exit n => exact h
    | ret => exact h
    | _ => exact h.elim
  | block id c ih =>
    intro Q Γ a w β F S hk
    refine wp_block (wp_mono (ih S hk) ?_)
    intro e a' w' h
    cases e with
    | normal => exact h
    | exit n =>
      obtain ⟨Γ', β', F', h1, h2⟩ := h
      show if n = id then _ else _
      by_cases hn : n = id
      · rw [if_pos hn]
        have : Nat.beq n id = true := by rw [hn]; exact Nat.beq_refl id
        simp only [this] at h1
        exact ⟨Γ', β', F', h1, h2⟩
      · rw [if_neg hn]
        have : Nat.beq n id = false := by
          cases hb : Nat.beq n id with
          | false => rfl
          | true => exact absurd (Nat.eq_of_beq_eq_true hb) hn
        simp only [this] at h1
        exact ⟨Γ', β', F', h1, h2⟩
    | ret => exact h
    | _ => exact h.elim
  | cond x b c ihb ihc =>
    intro Q Γ a w β F S hk
    unfold vc at hk
    split at hk
    · rename_i d t ht
      have hs := S.eval x
      rw [ht] at hs
      have hc := slot_bool hs
      rcases spl_cases hk with ⟨hb, hk⟩ | ⟨hb, hk⟩
      · subst hb; exact wp_cond_true hc (ihb S hk)
      · subst hb; exact wp_cond_false hc (ihc S hk)
    · exact hk.elim
  | region id ops draw =>
    intro Q Γ a w β F S hk
    have hend : ∀ a' w', Nx Bb w0 O0 av (fun Γ => Q .normal (Eng.keep (lv id) Γ)) a' w' → ExQ Bb w0 O0 av Q .normal a' w' := fun a' w' ⟨Γ', β', F', h1, h2⟩ => ⟨_, β', F', h1, h2.keep (lv id)⟩
    have hops : ops = ops.toList.toArray := by simp
    unfold vc at hk
    split at hk
    · refine wp_region_list ?_
      have := sound_ops (Q := ExQ Bb w0 O0 av Q) hT hC S hk hend
      rwa [← hops] at this
    · have S' : Sim Bb w0 O0 av Γ a { w with drawn := w.drawn + 1 } β F := S.push rfl rfl rfl rfl
      split at hk
      · obtain ⟨t, ht, hk⟩ := hk
        refine wp_region_any hm ?_
        have := (sound_tree (Q := ExQ Bb w0 O0 av Q) hT hC hend t (f := ops.size) (listed := Array.replicate ops.size false) S' hk).1
        rw [← hops] at this
        exact this (ht trivial)
      · rename_i n hn0
        obtain ⟨hd', hk⟩ := hk
        rcases hd' trivial with ⟨hn, hB⟩ | hB
        · refine wp_region_still hm hB ?_
          have := sound_head (N := fun a' => ExQ Bb w0 O0 av Q .normal a' { w with drawn := w.drawn + 1 }) hT hC S' hk (fun a' h => by
            obtain ⟨Γ', β', F', h1, h2⟩ := h
            have hdrop : ops.toList.drop (n + 1) = [] := by rw [hn, ← Array.length_toList]; exact List.drop_length
            rw [hdrop] at h1
            exact hend a' _ ⟨Γ', β', F', h1, h2⟩)
          have htake : ops.toList.take (n + 1) = ops.toList := by rw [hn, ← Array.length_toList]; exact List.take_length
          rw [htake, ← hops] at this
          exact this
        · rw [hops]
          refine wp_region_still_tail (n + 1) hm (by rw [← hops]; exact hB) ?_
          refine sound_head hT hC S' hk (fun a' h => ?_)
          obtain ⟨Γ', β', F', h1, h2⟩ := h
          exact sound_ops (Q := ExQ Bb w0 O0 av Q) hT hC h2 h1 hend
  | scope c ih =>
    intro Q Γ a w β F S hk
    refine wp_scope_straight (wp_mono (ih S hk) ?_)
    intro e a' w' h
    cases e <;> first | exact h | exact h.elim
  | label l => intro Q Γ a w β F S hk; exact wp_label ⟨Γ, β, F, hk, S⟩
  | loop c ih =>
    intro Q Γ a w β F S hk
    obtain ⟨I, ⟨n0, h0⟩, hr⟩ := hk
    refine wp_loop_ghost (fun n a w => Nx Bb w0 O0 av (I n) a w) n0 ⟨Γ, β, F, h0, S⟩ ?_
    intro n a1 w1 ⟨Γ1, β1, F1, h1, S1⟩
    refine wp_mono (ih S1 (hr n Γ1 h1 S1.wf)) ?_
    intro e a' w' h
    cases e with
    | normal =>
      obtain ⟨Γ', β', F', ⟨m, h3, h4⟩, h2⟩ := h
      exact ⟨m, h3, Γ', β', F', h4, h2⟩
    | exit n => exact h
    | ret => exact h
    | _ => exact h.elim
  | _ => intro Q Γ a w β F S hk; exact hk.elim
end
end Go.Proofs.YtjpeblicfhfniaaDoor.Eng
