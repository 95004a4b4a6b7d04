/- The engine, thirteenth part: structs and rows that are written out. No condition. -/
import Derived.Test.YtjpeblicfhfniaaDoorEngL
namespace Go.Proofs.YtjpeblicfhfniaaDoor.Eng
open Go.RowKit
set_option linter.unusedVariables false
set_option linter.unusedSimpArgs false
section
variable {P : Program} {T : Tab} {Bb : Nat → Prop} {w0 : World} {O0 : List Nat} {av : List Value} {Γ Γ' : Ctx} {a : Act} {w w' : World} {β : Nat → Value} {F : Nat → List Nat} {K : Ctx → Prop} {o : Oper} {Q : Exit → Act → World → Prop}
theorem run_mapM {α γ : Type} (f : α → Sem γ) (g : α → γ) : ∀ (l : List α), (∀ x ∈ l, (f x).run P w = .ok (g x) w) → (l.mapM f).run P w = .ok (l.map g) w
  | [], _ => rfl
  | x :: l, h => by
    rw [List.mapM_cons]
    show (Sem.bind _ _).run P w = _
    rw [run_bind_ok (h x (by simp))]
    show (Sem.bind _ _).run P w = _
    rw [run_bind_ok (run_mapM f g l (fun y hy => h y (by simp [hy])))]; rfl
theorem run_mapA {α γ : Type} (f : α → Sem γ) (g : α → γ) (l : Array α) (h : ∀ x ∈ l.toList, (f x).run P w = .ok (g x) w) : (l.mapM f).run P w = .ok (l.map g) w := by
  have e : l.mapM f = List.toArray <$> (l.toList.mapM f) := Array.mapM_eq_mapM_toList
  rw [e]
  show (Sem.bind _ _).run P w = _
  rw [run_bind_ok (run_mapM f g l.toList h)]
  show Result.ok _ w = _
  congr 1
  rw [← Array.toList_map, Array.toArray_toList]
theorem foldl_set (vs : List Value) (off : Nat) : ∀ (k : Nat) (cs : Array Value), off + k + vs.length ≤ cs.size → (vs.zipIdx k).foldl (fun cs (p : Value × Nat) => cs.setIfInBounds (off + p.2) p.1) cs = (splice cs.toList (off + k) vs).toArray := by
  induction vs with
  | nil => intro k cs h; unfold splice; simp
  | cons v vs ih =>
    intro k cs h
    simp only [List.length_cons] at h
    rw [List.zipIdx_cons, List.foldl_cons, ih (k + 1) _ (by simp; omega)]
    congr 1
    apply List.ext_getElem?
    intro i
    rw [splice_get (by simp; omega), splice_get (by simp; omega)]
    simp only [Array.toList_setIfInBounds, List.length_cons, List.getElem?_set]
    by_cases h1 : i < off + k
    · rw [if_pos (by omega), if_pos h1, if_neg (by omega)]
    · rw [if_neg h1]
      by_cases h2 : i = off + k
      · subst h2
        rw [if_pos (by omega), if_pos rfl, if_pos (by simp; omega), if_pos (by omega), Nat.sub_self]; rfl
      · rw [if_neg (by omega)]
        by_cases h3 : i < off + (k + 1) + vs.length
        · rw [if_pos h3, if_pos (by omega), show i - (off + k) = (i - (off + (k + 1))) + 1 by omega]; rfl
        · rw [if_neg h3, if_neg (by omega), if_neg (by omega)]
theorem fill_cons {place : Nat → Option (Nat × Nat)} {cells : List Value} {i off size : Nat} {v : Value} {vs : List Value} {rest : List (Nat × Value)} (hp : place i = some (off, size)) (hv : v.cells.toList = vs) (hs : vs.length = size) (hl : off + size ≤ cells.length) :
    Instr.fill place cells.toArray ((i, v) :: rest) = Instr.fill place (splice cells off vs).toArray rest := by
  have hsz : v.cells.size = size := by rw [← Array.length_toList, hv, hs]
  conv => lhs; unfold Instr.fill
  rw [hp]
  simp only [hsz, ne_eq, not_true_eq_false, decide_false, Bool.false_or, List.size_toArray]
  rw [if_neg (by simp; omega)]
  have e : v.cells.zipIdx.foldl (fun cs (x : Value × Nat) => cs.setIfInBounds (off + x.2) x.1) cells.toArray = (splice cells off vs).toArray := by
    have := foldl_set vs off 0 cells.toArray (by simp; omega)
    rw [← hv] at this ⊢
    rw [Nat.add_zero] at this
    simp only [List.toList_toArray] at this
    rw [← this, ← Array.foldl_toList]
    congr 1
    simp
  exact congrArg (fun z => Instr.fill place z rest) e
theorem zeroSV_ok {h : Hp} {Zd : List Nat → Nat → Prop} : ∀ (t : Ty), SVc h Zd β (zeroSV t) t.zc
  | .unit => rfl
  | .int k => Own.zero (h := h) (Z := Zd []) (.int k) 0
  | .bool => Own.zero (h := h) (Z := Zd []) .bool 0
  | .str => Own.zero (h := h) (Z := Zd []) .str 0
  | .pair a b => ⟨a.zc, b.zc, rfl, zeroSV_ok a, zeroSV_ok b⟩
  | .sl _ => rfl
  | .any => rfl | .inil => rfl | .ialt _ _ _ => rfl | .ptr _ => rfl | .mp _ _ => rfl
  | .arr n e => Own.zero (h := h) (Z := Zd []) (.arr n e) 0
theorem fits_zero : ∀ (t : Ty), fits (zeroSV t) t = true
  | .unit => rfl
  | .int k => by simp [zeroSV, fits]
  | .bool => by simp [zeroSV, fits]
  | .str => by simp [zeroSV, fits]
  | .pair a b => by simp [zeroSV, fits, fits_zero a, fits_zero b]
  | .sl _ => rfl
  | .any => rfl | .inil => rfl | .ialt _ _ _ => rfl | .ptr _ => rfl | .mp _ _ => rfl
  | .arr n e => by simp [zeroSV, fits]
theorem agg_zero (t : Ty) : (zeroSV t).isAgg = t.agg := by cases t <;> rfl
theorem fits_svSet1 : ∀ {v : SV} {e : Ty} {p : List Nat} {u v' : SV} {τ : Ty}, fits v e = true → fits u τ = true → tyAt e p = some τ → svSet v p u = some v' → fits v' e = true
  | v, e, [], u, v', τ, f, g, ht, es => by
      rw [tyAt_nil, Option.some.injEq] at ht; subst ht
      have es' : (if u.sz = v.sz ∧ u.isAgg = v.isAgg then some u else none) = some v' := by cases v <;> exact es
      split at es'
      · simp only [Option.some.injEq] at es'; subst es'; exact g
      · cases es'
  | .consA a b, .pair x y, 0 :: p, u, v', τ, f, g, ht, es => by
      simp only [fits, Bool.and_eq_true] at f
      simp only [svSet, Option.map_eq_some_iff] at es
      obtain ⟨z, es, rfl⟩ := es
      simp only [fits, Bool.and_eq_true]; exact ⟨fits_svSet1 f.1 g ht es, f.2⟩
  | .consA a b, .pair x y, (n + 1) :: p, u, v', τ, f, g, ht, es => by
      simp only [fits, Bool.and_eq_true] at f
      simp only [svSet, Option.map_eq_some_iff] at es
      obtain ⟨z, es, rfl⟩ := es
      simp only [fits, Bool.and_eq_true]; exact ⟨f.1, fits_svSet1 f.2 g ht es⟩
  | .consA _ _, .unit, k :: p, u, v', τ, f, g, ht, es => by cases f
  | .consA _ _, .int _, k :: p, u, v', τ, f, g, ht, es => by cases f
  | .consA _ _, .bool, k :: p, u, v', τ, f, g, ht, es => by cases f
  | .consA _ _, .str, k :: p, u, v', τ, f, g, ht, es => by cases f
  | .consA _ _, .sl _, k :: p, u, v', τ, f, g, ht, es => by cases f
  | .consA _ _, .any, k :: p, u, v', τ, f, g, ht, es => by cases f
  | .consA _ _, .arr _ _, k :: p, u, v', τ, f, g, ht, es => by cases f
  | .consA _ _, .mp _ _, k :: p, u, v', τ, f, g, ht, es => by cases f
  | .consA _ _, .ptr _, k :: p, u, v', τ, f, g, ht, es => by cases f
  | .consA _ _, .inil, k :: p, u, v', τ, f, g, ht, es => by cases f
  | .consA _ _, .ialt _ _ _, k :: p, u, v', τ, f, g, ht, es => by cases f
  | .pv _ _ _, e, k :: p, u, v', τ, f, g, ht, es => by cases k <;> simp [svSet] at es
  | .hole _, e, k :: p, u, v', τ, f, g, ht, es => by cases k <;> simp [svSet] at es
  | .nils, e, k :: p, u, v', τ, f, g, ht, es => by cases k <;> simp [svSet] at es
  | .ref _, e, k :: p, u, v', τ, f, g, ht, es => by cases k <;> simp [svSet] at es
  | .ad _ _ _ _, e, k :: p, u, v', τ, f, g, ht, es => by cases k <;> simp [svSet] at es
  | .fad _ _ _ _ _, e, k :: p, u, v', τ, f, g, ht, es => by cases k <;> simp [svSet] at es
  | .nilA, e, k :: p, u, v', τ, f, g, ht, es => by cases k <;> simp [svSet] at es
  | .nilT, e, k :: p, u, v', τ, f, g, ht, es => by cases k <;> simp [svSet] at es
  | .consT _ _, e, k :: p, u, v', τ, f, g, ht, es => by cases k <;> simp [svSet] at es
theorem noHole_slot {h : Hp} {Zd : List Nat → Nat → Prop} {v : SV} {x : Value} {τ : Ty} (s : SlotR h Zd β v x) (hf : fits v τ = true) (ha : v.isAgg = τ.agg) (ht : v.tup = false) (hn : noHole v = true) (hb : ∀ q, one (β q) = true) :
    ∃ cs, SVc h Zd β v cs ∧ x.cells.toList = cs ∧ cs.length = τ.sz := by
  obtain ⟨cs, h1, h2⟩ := slot_one s ht (by rintro m hm; rw [hm] at hn; cases hn)
  have hl : cs.length = τ.sz := by rw [h1.len, fits_sz hf]
  refine ⟨cs, h1, ?_, hl⟩
  rw [h2]
  refine cells_valOf fun hg => ?_
  rw [ha] at hg
  have hs1 : τ.sz = 1 := by cases τ <;> first | rfl | cases hg
  have ho := SVc.one hb hn h1
  rw [hs1] at hl
  match cs, hl, ho with
  | [z], _, ho => exact ⟨z, rfl, ho z (by simp)⟩
theorem TyF.all : ∀ {s : Ty} {fs : List Field} {off : Nat}, (TyF P s).2 fs off → ∀ f ∈ fs, ∃ τ, TyOk P τ f.type
  | .unit, fs, off, h, f, hf => by rw [show fs = [] from h] at hf; cases hf
  | .int _, fs, off, h, f, hf => h.elim
  | .bool, fs, off, h, f, hf => h.elim
  | .str, fs, off, h, f, hf => h.elim
  | .sl _, fs, off, h, f, hf => h.elim
  | .any, fs, off, h, f, hf => h.elim
  | .arr _ _, fs, off, h, f, hf => h.elim
  | .mp _ _, fs, off, h, f, hf => h.elim
  | .ptr _, fs, off, h, f, hf => h.elim
  | .inil, fs, off, h, f, hf => h.elim
  | .ialt _ _ _, fs, off, h, f, hf => h.elim
  | .pair a b, fs, off, ⟨g, l, e, _, h1, h2⟩, f, hf => by
      subst e
      rcases List.mem_cons.1 hf with rfl | hf
      · exact ⟨a, h1⟩
      · exact TyF.all h2 f hf
theorem buildSV_ok {s : Ty} {t : TypeId} (ht : TyOk P s t) (S : Sim Bb w0 O0 av Γ a w β F) (place : Nat → Option (Nat × Nat)) (hp' : ∀ n τ, tyAt s [n] = some τ → place n = some (offAt s [n], τ.sz)) :
    ∀ (ps : List (Nat × Operand)) (v v' : SV) (cs : List Value), (∀ p ∈ ps, noHole (Γ.eval p.2) = true) → SVc (hp w) (ZdOf Bb F Γ.roots) β v cs → fits v s = true → buildSV s v (ps.map fun p => (p.1, Γ.eval p.2)) = some v' →
      ∃ cs', Instr.fill place cs.toArray (ps.map fun p => (p.1, a.eval p.2)) = some cs'.toArray ∧ SVc (hp w) (ZdOf Bb F Γ.roots) β v' cs' ∧ fits v' s = true ∧ (v.isAgg = true → s.agg = true → v'.isAgg = true)
  | [], v, v', cs, _, hv, hf, hb => by
      simp only [List.map_nil, buildSV, Option.some.injEq] at hb; subst hb
      exact ⟨cs, rfl, hv, hf, fun h _ => h⟩
  | (n, x) :: ps, v, v', cs, hn, hv, hf, hb => by
      simp only [List.map_cons, buildSV] at hb
      split at hb
      · rename_i τ hτ
        split at hb
        · rename_i hc
          obtain ⟨h1, h2, h3⟩ := hc
          split at hb
          · rename_i v1 hv1
            obtain ⟨vs, g1, g2, g3⟩ := noHole_slot (S.eval x) h1 h2 h3 (hn (n, x) (by simp)) S.bone
            have hle := offAt_le hτ
            rw [← fits_sz hf, ← hv.len] at hle
            obtain ⟨q1, q2⟩ := SVc.put hv hf hv1 g1 hτ
            have hf1 := fits_svSet1 hf h1 hτ hv1
            obtain ⟨cs', r1, r2, r3, r4⟩ := buildSV_ok ht S place hp' ps v1 v' _ (fun p hp => hn p (by simp [hp])) q1 hf1 hb
            refine ⟨cs', ?_, r2, r3, fun ha hs => r4 ?_ hs⟩
            · rw [List.map_cons, fill_cons (hp' n τ hτ) g2 g3 hle]; exact r1
            · cases v <;> cases n <;> first | (simp [svSet] at hv1; done) | (simp only [svSet, Option.map_eq_some_iff] at hv1; obtain ⟨z, _, rfl⟩ := hv1; rfl)
          · cases hb
        · cases hb
      · cases hb
theorem sound_build (hT : TabOk P T) (S : Sim Bb w0 O0 av Γ a w β F) {t : TypeId} {ps : Array (Nat × Operand)} (ho : o.op = .build t ps) (hn : ∀ p ∈ ps.toList, noHole (Γ.eval p.2) = true)
    (hk : opBuild T Γ o.dst K t (ps.toList.map fun p => (p.1, Γ.eval p.2))) : Reads P o a w (Nx Bb w0 O0 av K) := by
  have hrun : ∀ z, (Instr.build t (ps.map fun (i, x) => (i, a.eval x))).run P w = .ok z w → (execOp a.eval o).run P w = .ok (.value z) w := fun z hz => by unfold execOp; rw [ho]; exact run_v hz
  unfold opBuild at hk
  split at hk
  · exact hk.elim
  rename_i s hs
  split at hk
  · rename_i hst
    have hag : s.agg = true := by cases s <;> first | rfl | cases hst
    split at hk
    · rename_i v hv
      have ht := hT _ _ hs
      obtain ⟨fs, hu⟩ : ∃ fs, P.underlying t = some (.struct fs) := by
        cases s with
        | unit => obtain ⟨fs, h, _⟩ := ht; exact ⟨fs, h⟩
        | pair a b => obtain ⟨fs, h, _⟩ := ht; exact ⟨fs, h⟩
        | _ => cases hst
      have hsz : ∀ f ∈ fs.toList, ((fun f : Field => do pure (f.offset, ← sizeOf f.type)) f : Sem (Nat × Nat)).run P w = .ok (f.offset, P.cellsOf f.type) w := by
        intro f hf
        obtain ⟨τ, hτ⟩ : ∃ τ, TyOk P τ f.type := by
          cases s with
          | unit =>
            obtain ⟨fs', h1, h2, _⟩ := ht
            rw [hu] at h1; simp only [Option.some.injEq, TypeDesc.struct.injEq] at h1; subst h1
            rw [h2] at hf; cases hf
          | pair p q =>
            obtain ⟨fs', h1, h2, _⟩ := ht
            rw [hu] at h1; simp only [Option.some.injEq, TypeDesc.struct.injEq] at h1; subst h1
            exact TyF.all (s := .pair p q) (off := 0) h2 f hf
          | _ => cases hst
        obtain ⟨i, i1, i2, _⟩ := hτ.info
        show (Sem.bind _ _).run P w = _
        rw [run_bind_ok (run_size hτ.info)]
        have : P.cellsOf f.type = τ.sz := by simp only [Program.cellsOf, i1, i2, Option.map_some, Option.getD_some]
        rw [this]; rfl
      have hplace : ∀ n τ, tyAt s [n] = some τ → (fs.map fun f => (f.offset, P.cellsOf f.type))[n]? = some (offAt s [n], τ.sz) := by
        intro n τ hτ
        obtain ⟨fs', f, h1, h2, h3, h4⟩ := ht.field hτ
        rw [hu] at h1
        simp only [Option.some.injEq, TypeDesc.struct.injEq] at h1; subst h1
        obtain ⟨i, i1, i2, _⟩ := h4.info
        simp only [Array.getElem?_map, h2, Option.map_some, h3, Program.cellsOf, i1, i2, Option.getD_some]
      obtain ⟨cs', r1, r2, r3, r4⟩ := buildSV_ok ht S (fun i => (fs.map fun f => (f.offset, P.cellsOf f.type))[i]?) hplace ps.toList (zeroSV s) v s.zc hn (zeroSV_ok s) (fits_zero s) hv
      have hva : v.isAgg = true := r4 (by rw [agg_zero]; exact hag) hag
      have hvt : v.tup = false := by cases v <;> first | rfl | cases hva
      refine go_value S (hrun (valOf true cs') ?_) (by rw [← hva]; exact slot_c hvt r2) hk
      unfold Instr.build
      show (Sem.bind _ _).run P w = _
      rw [run_bind_ok (run_zero ht.info)]
      show (Sem.bind _ _).run P w = _
      rw [run_bind_ok (run_under hu)]
      show (Sem.bind _ _).run P w = _
      rw [run_bind_ok (run_mapA _ _ fs hsz)]
      have hz : (valOf s.agg s.zc).cells = s.zc.toArray := by rw [hag]; rfl
      have hps : (ps.map fun (i, x) => (i, a.eval x)).toList = ps.toList.map fun p => (p.1, a.eval p.2) := by simp
      rw [hz, hps]
      simp only [r1]; rfl
    · exact hk.elim
  · exact hk.elim
end
end Go.Proofs.YtjpeblicfhfniaaDoor.Eng
