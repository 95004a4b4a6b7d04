/- The engine, part 22: a function, whole. No condition. -/
import Derived.Test.YtjpeblicfhfniaaDoorEngU
namespace Go.Proofs.YtjpeblicfhfniaaDoor.Eng
open Go.RowKit
set_option linter.unusedVariables false
set_option linter.unusedSimpArgs false

/-! ### the entry -/
/-- The parameters' states, their roots (named by ids). -/
def entry : (ps : List (Bool × Nat × Ty)) → DP ps → List Nat → List SV × List SV × List (Nat × Ch)
  | [], _, _ => ([], [], [])
  | (io, n, t) :: ps, x, ids =>
    let p := resV [] n t x.1 ids []
    let q := entry ps x.2 p.2.1
    (p.1 :: q.1, (match io with | true => p.1 | false => .hole 0) :: q.2.1, p.2.2 ++ q.2.2)
def wantP : (ps : List (Bool × Nat × Ty)) → DP ps → Nat
  | [], _ => 0
  | (_, n, t) :: l, x => (match n with | 0 => 0 | _ + 1 => slots t x.1) + wantP l x.2
def psRoots : List (Bool × Nat × Ty) → Bool
  | [] => true
  | (_, n, t) :: l => rootsOk n t && psRoots l
def upto : Nat → Nat → List Nat
  | 0, _ => []
  | n + 1, k => k :: upto n (k + 1)
def number : Nat → List SV → List (Nat × SV)
  | _, [] => []
  | n, v :: l => (n, v) :: number (n + 1) l
def globR : List (Nat × Value) → List (Nat × Ch)
  | [] => []
  | g => [(1000000, .glob g)]
def entryG (nt : Nat) (ps : List (Bool × Nat × Ty)) (x : DP ps) (gl : List (Nat × Value)) : Ctx :=
  let e := entry ps x (upto (wantP ps x) 0)
  ⟨nt, number 0 e.1, e.2.2 ++ globR gl, e.2.1⟩
/-! ### the exit -/
def resSV (T : Tab) (Γ : Ctx) : List ResultVar → Option (List SV)
  | [] => some []
  | .tmp t :: l => (resSV T Γ l).map fun vs => Γ.get t :: vs
  | .cell a t :: l => match Γ.get a, T.ty t with
    | .ad r e i p, some u => match look r Γ.roots with
      | some (.box v) => if fits v e = true ∧ i = 0 ∧ tyAt e p = some u then match svAt v p with
          | some s => if s.isAgg = u.agg then (resSV T Γ l).map fun vs => s :: vs else none
          | none => none
        else none
      | _ => none
    | _, _ => none
def retD (R : List (Nat × Ch)) : (rs : List (Nat × Ty)) → List SV → Option (DR rs × List Nat × List Nat)
  | [], [] => some ((), [], [])
  | (n, t) :: rs, v :: vs => match n with
    | 0 => match den0 R t v, retD R rs vs with
      | some y, some q => some ((y.1, q.1), y.2 ++ q.2.1, q.2.2)
      | _, _ => none
    | n + 1 => match denN R (n + 1) t v, retD R rs vs with
      | some y, some q => some ((y.1, q.1), q.2.1, y.2 ++ q.2.2)
      | _, _ => none
  | _, _ => none
def outD (R : List (Nat × Ch)) : (ps : List (Bool × Nat × Ty)) → DP ps → List SV → Option (DP ps × List Nat)
  | [], _, [] => some ((), [])
  | (io, n, t) :: ps, x, v :: vs => match io, n with
    | true, m + 1 => match denN R (m + 1) t v, outD R ps x.2 vs with
      | some y, some q => some ((y.1, q.1), y.2 ++ q.2)
      | _, _ => none
    | _, _ => (outD R ps x.2 vs).map fun q => ((x.1, q.1), q.2)
  | _, _, _ => none
def vcRet (T : Tab) (c : Con) (rvs : List ResultVar) (x : DP c.ps) (Γ : Ctx) : Prop :=
  match resSV T Γ rvs with
  | none => False
  | some vs => match retD Γ.roots c.rs vs, outD Γ.roots c.ps x Γ.anch with
    | some y, some z => if nodupB (z.2 ++ y.2.2) = true ∧ apartB y.2.1 (z.2 ++ y.2.2) = true then (True → c.post x y.1 z.1) else False
    | _, _ => False
def vcFn (M : Mth) (T : Tab) (C : FuncId → Option Con) (lv : Nat → List Nat) (hd : Nat → Nat) (nt : Nat) (rvs : List ResultVar) (code : Code) (c : Con) (x : DP c.ps) : Prop :=
  if psRoots c.ps = true ∧ Nat.blt (wantP c.ps x) 1000000 = true then vc M T C lv hd code (fun e Γ => match e with | .normal => vcRet T c rvs x Γ | .ret => vcRet T c rvs x Γ | .exit _ => False) (entryG nt c.ps x c.gl) else False
section
variable {P : Program} {T : Tab} {C : FuncId → Option Con} {lv : Nat → List Nat} {hd : Nat → Nat} {Bb : Nat → Prop} {w0 : World} {O0 : List Nat} {av : List Value} {Γ Γ' : Ctx} {a : Act} {w w' : World} {β : Nat → Value} {F : Nat → List Nat}
theorem ArgsR.wf {h : Hp} {Z : Nat → Prop} : ∀ {ps : List (Bool × Nat × Ty)} {Bs : List (List Nat)} {vs : List Value} {x : DP ps}, ArgsR h Z ps Bs vs x → WFp ps x := by
  intro ps
  induction ps with
  | nil => intro _ _ _ _; trivial
  | cons p ps ih => intro Bs vs x ⟨_, _, _, _, _, _, _, o, _, r⟩; exact ⟨o.wf, ih r⟩
theorem entry_ok {h : Hp} {Z : Nat → Prop} : ∀ {ps : List (Bool × Nat × Ty)} {Bs : List (List Nat)} {vals : List Value} {x : DP ps} (ids : List Nat), psRoots ps = true → ArgsR h Z ps Bs vals x → wantP ps x ≤ ids.length → ids.Nodup → Bs.flatten.Nodup →
    ∃ used β1 F1, NewR h Z used (entry ps x ids).2.2 β1 F1 Bs.flatten ∧ (∀ r ∈ used, r ∈ ids) ∧ used.Nodup ∧
      ∀ (β' : Nat → Value) (Zd : List Nat → Nat → Prop), (∀ r ∈ used, β' r = β1 r) → (∀ b, Z b → Zd [] b) →
        (∀ (k : Nat) (v : SV), (entry ps x ids).1[k]? = some v → ∃ z, vals[k]? = some z ∧ SlotR h Zd β' v z) ∧ AnchR h Zd β' (entry ps x ids).2.1 vals := by
  intro ps
  induction ps with
  | nil =>
    intro Bs vals x ids _ hA _ _ _
    obtain ⟨rfl, rfl⟩ := hA
    exact ⟨[], fun _ => undef, fun _ => [], ⟨.refl _, ⟨by simp, by simp, by simp⟩, by simp [entry], by simp⟩, by simp, .nil, fun β' Zd _ _ => ⟨fun k v hv => by simp [entry] at hv, trivial⟩⟩
  | cons p ps ih =>
    intro Bs vals x ids hro hA hl hi hB
    obtain ⟨io, n, t⟩ := p
    have hro' : (rootsOk n t && psRoots ps) = true := hro
    simp only [Bool.and_eq_true] at hro'
    obtain ⟨B, Bs', v, vs', cs, rfl, rfl, o, ev, hA⟩ := hA
    have o : Own h Z t n B cs x.1 := o
    have hw : (0 < n → wantP ((io, n, t) :: ps) x = slots t x.1 + wantP ps x.2) ∧ (n = 0 → wantP ((io, n, t) :: ps) x = wantP ps x.2) := by cases n <;> simp [wantP]
    simp only [List.flatten_cons] at hB
    have hB2 := List.nodup_append.1 hB
    obtain ⟨u1, n1, β1, F1, e1, l1, z1, m1, q1, k1⟩ := resV_ok [] ids [] hro'.1 o (fun h => by have := hw.1 h; omega) hi hB2.1
    have hi1 := hi
    rw [e1, List.nodup_append] at hi1
    have h3 := congrArg List.length e1
    rw [List.length_append] at h3
    have hlen2 : wantP ps x.2 ≤ (resV [] n t x.1 ids []).2.1.length := by
      rcases Nat.eq_zero_or_pos n with h0 | h0
      · have h4 := z1 h0
        have h5 := hw.2 h0
        rw [h4] at h3; simp at h3; omega
      · have := hw.1 h0; have := l1 h0; omega
    obtain ⟨u2, β2, F2, q2, s2, d2, k2⟩ := ih (resV [] n t x.1 ids []).2.1 hro'.2 hA hlen2 hi1.2.1 hB2.2.1
    have hg : ∀ r ∈ u1, r ∉ u2 := fun r h1 h2 => hi1.2.2 r h1 r (s2 r h2) rfl
    have b1 : ∀ r ∈ u1, (if r ∈ u1 then β1 r else β2 r) = β1 r := fun r hr => if_pos hr
    have b2 : ∀ r ∈ u2, (if r ∈ u1 then β1 r else β2 r) = β2 r := fun r hr => if_neg (fun h => hg r h hr)
    rw [List.append_nil] at m1
    have hj := NewR.join q1 q2 hg (fun b h1 h2 => hB2.2.2 b h1 b h2 rfl)
    have hnew : (entry ((io, n, t) :: ps) x ids).2.2 = n1 ++ (entry ps x.2 (resV [] n t x.1 ids []).2.1).2.2 := by
      show (resV [] n t x.1 ids []).2.2 ++ _ = _
      rw [m1]
    refine ⟨u1 ++ u2, fun r => if r ∈ u1 then β1 r else β2 r, fun r => if r ∈ u1 then F1 r else F2 r, ?_, fun r hr => ?_, List.nodup_append.2 ⟨hi1.1, d2, fun p hp q hq e => hg p hp (e ▸ hq)⟩, ?_⟩
    · rw [hnew]
      exact ⟨by rw [List.map_append]; exact List.Perm.append q1.perm q2.perm, hj.pr, fun r c hm => hj.row r c (by
        rcases List.mem_append.1 hm with hm | hm
        · exact List.mem_append_right _ hm
        · exact List.mem_append_left _ hm), hj.one⟩
    · rcases List.mem_append.1 hr with hr | hr
      · rw [e1]; exact List.mem_append_left _ hr
      · rw [e1]; exact List.mem_append_right _ (s2 r hr)
    · intro β' Zd hβ hz
      obtain ⟨x1, x2, x3⟩ := k1 β' Zd (fun r hr => (hβ r (List.mem_append_left _ hr)).trans (b1 r hr)) (fun _ => hz)
      obtain ⟨y1, y2⟩ := k2 β' Zd (fun r hr => (hβ r (List.mem_append_right _ hr)).trans (b2 r hr)) hz
      have hs : SlotR h Zd β' (resV [] n t x.1 ids []).1 v := .inr ⟨x3, .inr ⟨cs, x1, by rw [x2]; exact ev⟩⟩
      refine ⟨fun k w hw => ?_, ?_, y2⟩
      · cases k with
        | zero =>
          have : some (resV [] n t x.1 ids []).1 = some w := hw
          simp only [Option.some.injEq] at this; subst this
          exact ⟨v, rfl, hs⟩
        | succ k => exact y1 k w hw
      · cases io with
        | true => exact hs
        | false => exact .inr ⟨rfl, .inl ⟨0, rfl⟩⟩
theorem upto_mem : ∀ {n k r : Nat}, r ∈ upto n k → k ≤ r
  | 0, _, _, h => by cases h
  | n + 1, k, r, h => by
    rcases List.mem_cons.1 h with rfl | h
    · exact Nat.le_refl _
    · exact Nat.le_trans (Nat.le_succ k) (upto_mem h)
theorem upto_nodup : ∀ {n k : Nat}, (upto n k).Nodup
  | 0, _ => .nil
  | n + 1, k => List.nodup_cons.2 ⟨fun h => by have := upto_mem h; omega, upto_nodup⟩
theorem upto_len : ∀ {n k : Nat}, (upto n k).length = n
  | 0, _ => rfl
  | n + 1, k => by simp [upto, upto_len]
theorem mem_number {v : SV} : ∀ {l : List SV} {n k : Nat}, (k, v) ∈ number n l → n ≤ k ∧ l[k - n]? = some v
  | [], _, _, h => by cases h
  | u :: l, n, k, h => by
    rcases List.mem_cons.1 h with h | h
    · injection h with h1 h2; subst h1; subst h2; simp
    · obtain ⟨h1, h2⟩ := mem_number h
      refine ⟨by omega, ?_⟩
      rw [show k - n = (k - (n + 1)) + 1 by omega]; exact h2
theorem entry_len : ∀ {ps : List (Bool × Nat × Ty)} {x : DP ps} {ids : List Nat}, (entry ps x ids).1.length = ps.length := by
  intro ps
  induction ps with
  | nil => intro _ _; rfl
  | cons p ps ih => intro x ids; simp [entry, ih]
theorem ArgsR.len {h : Hp} {Z : Nat → Prop} : ∀ {ps : List (Bool × Nat × Ty)} {Bs : List (List Nat)} {vs : List Value} {x : DP ps}, ArgsR h Z ps Bs vs x → vs.length = ps.length := by
  intro ps
  induction ps with
  | nil => intro _ _ _ ⟨_, h⟩; rw [h]; rfl
  | cons p ps ih => intro Bs vs x ⟨_, _, _, _, _, _, e, _, _, r⟩; rw [e]; simp [ih r]
/-- What may be read. -/
def BbOf (w : World) (Z : Nat → Prop) (Bs : List (List Nat)) (b : Nat) : Prop := Z b ∨ (b ∈ Bs.flatten ∨ w.heap.size ≤ b)
theorem upto_lt : ∀ {n k r : Nat}, r ∈ upto n k → r < k + n
  | 0, _, _, h => by cases h
  | n + 1, k, r, h => by
    rcases List.mem_cons.1 h with rfl | h
    · omega
    · have := upto_lt h; omega
theorem mem_globR {l : List (Nat × Value)} {p : Nat × Ch} (h : p ∈ globR l) : p = (1000000, .glob l) := by
  cases l with
  | nil => cases h
  | cons a l => simpa [globR] using h
theorem globR_nodup {l : List (Nat × Value)} : ((globR l).map (·.1)).Nodup := by cases l <;> simp [globR]
/-- The state at a function's entry. -/
theorem entry_sim {c : Con} {nt : Nat} {Z : Nat → Prop} {Bs : List (List Nat)} {vals : List Value} {x : DP c.ps} (hro : psRoots c.ps = true) (hlt : wantP c.ps x < 1000000) (hG : GOk (hp w) Z c.gl) (hA : ArgsR (hp w) Z c.ps Bs vals x) (hB : Bs.flatten.Nodup) (hZ : ∀ b ∈ Bs.flatten, b < w.heap.size ∧ ¬ Z b) (hnt : c.ps.length ≤ nt) :
    ∃ β F, Sim (BbOf w Z Bs) w Bs.flatten vals (entryG nt c.ps x c.gl) { tmps := vals.toArray ++ Array.replicate (nt - vals.toArray.size) undef, defers := [] } w β F := by
  obtain ⟨used, β1, F1, q, s, hun, k⟩ := entry_ok (upto (wantP c.ps x) 0) hro hA (by rw [upto_len]; exact Nat.le_refl _) upto_nodup hB
  have h6 : 1000000 ∉ used := fun h => by have := upto_lt (s _ h); omega
  have eF : ∀ r ∈ used, (fun r => if r ∈ used then F1 r else []) r = F1 r := fun r hr => if_pos hr
  have eF' : ∀ r, r ∉ used → (fun r => if r ∈ used then F1 r else []) r = [] := fun r hr => if_neg hr
  generalize hF0 : (fun r => if r ∈ used then F1 r else []) = F0 at eF eF'
  have hlen := hA.len
  have hroots : (entryG nt c.ps x c.gl).roots = (entry c.ps x (upto (wantP c.ps x) 0)).2.2 ++ globR c.gl := rfl
  have hmem : ∀ r, r ∈ (entryG nt c.ps x c.gl).roots.map (·.1) ↔ r ∈ used ∨ r ∈ (globR c.gl).map (·.1) := fun r => by
    rw [hroots, List.map_append, List.mem_append, q.perm.mem_iff]
  have hgid : ∀ r ∈ (globR c.gl).map (·.1), r = 1000000 := fun r hr => by
    obtain ⟨p, h1, rfl⟩ := List.mem_map.1 hr; rw [mem_globR h1]
  have hsub : ∀ b, b ∈ allO F0 (entryG nt c.ps x c.gl).roots → b ∈ Bs.flatten := fun b hb => by
    obtain ⟨r, h1, h2⟩ := mem_allO.1 hb
    by_cases hr : r ∈ used
    · rw [eF r hr] at h2; exact q.pr.sub r hr b h2
    · rw [eF' r hr] at h2; cases h2
  have hzz : ∀ b, Z b → ZdOf (BbOf w Z Bs) F0 (entryG nt c.ps x c.gl).roots [] b := fun b hz => .inl ⟨fun hb => (hZ b (hsub b hb)).2 hz, .inl hz⟩
  have eβ : ∀ r ∈ used, (fun r => if r ∈ used then β1 r else .slice none 0 0) r = β1 r := fun r hr => if_pos hr
  obtain ⟨k1, k2⟩ := k (fun r => if r ∈ used then β1 r else .slice none 0 0) (ZdOf (BbOf w Z Bs) F0 (entryG nt c.ps x c.gl).roots) eβ hzz
  have hids : ((entryG nt c.ps x c.gl).roots.map (·.1)).Nodup := by
    rw [hroots, List.map_append, List.nodup_append]
    refine ⟨q.perm.nodup_iff.2 hun, globR_nodup, fun a ha b hb e => ?_⟩
    have h7 := hgid b hb
    rw [e, h7] at ha
    exact h6 (q.perm.mem_iff.1 ha)
  refine ⟨_, F0, ?_, rfl, ?_, ?_, k2, hids, ?_, ?_, Frm.refl _ _, ?_, fun b hb => .inr hb⟩
  · simp only [Array.size_append, List.size_toArray, Array.size_replicate]
    show _ = nt
    rw [hlen]; omega
  · intro n v hm
    obtain ⟨_, h2⟩ := mem_number hm
    obtain ⟨z, h3, h4⟩ := k1 (n - 0) v h2
    refine ⟨z, ?_, h4⟩
    have hn : n < vals.length := (List.getElem?_eq_some_iff.1 h3).1
    rw [Array.getElem?_append_left (by simpa using hn)]
    simpa using h3
  · intro r ch hm
    rw [hroots] at hm
    rcases List.mem_append.1 hm with hm | hm
    · have hr : r ∈ used := q.perm.mem_iff.1 (List.mem_map.2 ⟨_, hm, rfl⟩)
      have := q.row r ch hm
      rw [eF r hr]
      cases ch with
      | row l e xs =>
        have h1 : Own (hp w) Z (.sl e) (l + 1) (F1 r) [β1 r] xs := this
        show Own _ _ _ _ _ [(fun r => if r ∈ used then β1 r else .slice none 0 0) r] _
        rw [eβ r hr]; exact h1.weaken hzz
      | mp k v xs =>
        have h1 : Own (hp w) Z (.mp k v) 1 (F1 r) [β1 r] (some xs) := this
        show Own _ _ _ _ _ [(fun r => if r ∈ used then β1 r else .slice none 0 0) r] _
        rw [eβ r hr]; exact h1.weaken hzz
      | box _ => exact this.elim
      | iter _ _ => exact this.elim
      | glob _ => exact this.elim
    · have := mem_globR hm
      simp only [Prod.mk.injEq] at this
      obtain ⟨rfl, rfl⟩ := this
      refine ⟨eF' _ h6, fun p hp' => ?_⟩
      obtain ⟨g1, g2⟩ := hG p hp'
      exact ⟨hzz _ g1, g2⟩
  · rw [allO_eq]
    refine nodup_flatMap hids (fun r h => ?_) (fun r h p hp hne b h1 h2 => ?_)
    · by_cases hr : r ∈ used
      · rw [eF r hr]; exact q.pr.nd r hr
      · rw [eF' r hr]; exact .nil
    · by_cases hr : r ∈ used
      · by_cases hp2 : p ∈ used
        · rw [eF r hr] at h1; rw [eF p hp2] at h2; exact q.pr.ap r hr p hp2 hne b h1 h2
        · rw [eF' p hp2] at h2; cases h2
      · rw [eF' r hr] at h1; cases h1
  · intro b hb
    have := hsub b hb
    exact ⟨(hZ b this).1, .inl this⟩
  · intro r
    show one (if r ∈ used then β1 r else .slice none 0 0) = true
    split
    · rename_i h; exact q.one r h
    · rfl
end
end Go.Proofs.YtjpeblicfhfniaaDoor.Eng
