/- impl.codeOf at every fault of the package. -/
import Derived.Test.YtmjeghlfmhbjdaaDoorIs
import Derived.LaidEql
namespace Go.Proofs.YtmjeghlfmhbjdaaDoor.EngTab
open Go.RowKit Go.Extern.Stop Go.Stop Go.Extern Go.Proofs.YtmjeghlfmhbjdaaDoor.Eng
set_option linter.unusedVariables false
set_option linter.unusedSimpArgs false
set_option maxRecDepth 100000
theorem cell_lt {w : World} {q : Addr} {v : Value} (h : w.cell? q = some v) : q.block < w.heap.size := by
  rcases Nat.lt_or_ge q.block w.heap.size with h' | h'
  · exact h'
  · simp [World.cell?, Array.getElem?_eq_none h'] at h
theorem ptd_below {w w' : World} {q : Addr} (hB : Below w.heap.size w w') (h : Ptd w q) : Ptd w' q := by
  obtain ⟨c, t, h⟩ := h
  exact ⟨c, t, (hB.block _ (Array.getElem?_eq_some_iff.1 h).1).trans h⟩
structure Aside0 (p : Prop) : Prop where
  mk :: (out : p)
set_option maxHeartbeats 4000000 in
theorem code_size (b o : Nat) (p : Int) (w : World) (a sz sm : Addr) (hg : w.cell? ⟨3, 0, none⟩ = some vHand) (hc : w.cell? ⟨b, o, none⟩ = some (.int .i64 p)) (hc1 : w.cell? ⟨b, o + 1, none⟩ = some (.iface 145 (.pointer (some a)))) (hp : ¬ p < 0)
    (hsz : w.cell? ⟨1, 0, none⟩ = some (.iface 145 (.pointer (some sz)))) (hsm : w.cell? ⟨2, 0, none⟩ = some (.iface 145 (.pointer (some sm)))) (ha : Ptd w a) (hz : Ptd w sz) (hm : Ptd w sm) (D1 : decide (a = sz) = true) (D2 : decide (a = sm) = false) :
    Calls Tryd.prog 30 #[.iface 96 (.pointer (some ⟨b, o, none⟩))] w fun e w' => e = .returned (.int .i64 3) ∧ Below w.heap.size w w' := by
  have hlt : 3 < w.heap.size := cell_lt hg
  have hbl : b < w.heap.size := cell_lt hc
  have hgA : (w.alloc (.cells #[.pointer none] 96)).cell? ⟨3, 0, none⟩ = some (.iface 130 (.agg #[.pointer (some ⟨4, 66, none⟩)])) := by
    rw [World.cell?_alloc_lt _ _ ⟨3, 0, none⟩ hlt]; exact hg
  have h0 : decide (p < 0) = false := decide_eq_false hp
  replace D1 := Aside0.mk D1
  replace D2 := Aside0.mk D2
  go_enter Tryd.func30, Tryd.ntmps30
  go_wp2_with (first
    | (go_at_call 45
       refine (as_hit2 w ⟨b, o, none⟩ hgA).mono ?_
       rintro e w' ⟨rfl, hB, hcell⟩
       have hcb : w'.cell? ⟨b, o, none⟩ = some (.int .i64 p) := (hB.cell hbl).trans hc
       have hcb1 : w'.cell? ⟨b, o + 1, none⟩ = some (.iface 145 (.pointer (some a))) := (hB.cell hbl).trans hc1
       have hsz' : w'.cell? ⟨1, 0, none⟩ = some (.iface 145 (.pointer (some sz))) := (hB.cell (cell_lt hsz)).trans hsz
       have hsm' : w'.cell? ⟨2, 0, none⟩ = some (.iface 145 (.pointer (some sm))) := (hB.cell (cell_lt hsm)).trans hsm)
    | (go_at_call 46
       first
         | (fail_if_success have := HD1
            refine (is_any b o sz a _ hcb1 (ptd_below hB ha) (ptd_below hB hz)).mono ?_
            rintro e2 w2 ⟨rfl, rfl⟩
            rw [D1.out]
            have HD1 := True.intro)
         | (refine (is_any b o sm a _ hcb1 (ptd_below hB ha) (ptd_below hB hm)).mono ?_
            rintro e3 w3 ⟨rfl, rfl⟩
            rw [D2.out])))
  go_ret
  exact ⟨rfl, hB⟩
set_option maxHeartbeats 4000000 in
theorem code_sum (b o : Nat) (p : Int) (w : World) (a sz sm : Addr) (hg : w.cell? ⟨3, 0, none⟩ = some vHand) (hc : w.cell? ⟨b, o, none⟩ = some (.int .i64 p)) (hc1 : w.cell? ⟨b, o + 1, none⟩ = some (.iface 145 (.pointer (some a)))) (hp : ¬ p < 0)
    (hsz : w.cell? ⟨1, 0, none⟩ = some (.iface 145 (.pointer (some sz)))) (hsm : w.cell? ⟨2, 0, none⟩ = some (.iface 145 (.pointer (some sm)))) (ha : Ptd w a) (hz : Ptd w sz) (hm : Ptd w sm) (D1 : decide (a = sz) = false) (D2 : decide (a = sm) = true) :
    Calls Tryd.prog 30 #[.iface 96 (.pointer (some ⟨b, o, none⟩))] w fun e w' => e = .returned (.int .i64 6) ∧ Below w.heap.size w w' := by
  have hlt : 3 < w.heap.size := cell_lt hg
  have hbl : b < w.heap.size := cell_lt hc
  have hgA : (w.alloc (.cells #[.pointer none] 96)).cell? ⟨3, 0, none⟩ = some (.iface 130 (.agg #[.pointer (some ⟨4, 66, none⟩)])) := by
    rw [World.cell?_alloc_lt _ _ ⟨3, 0, none⟩ hlt]; exact hg
  have h0 : decide (p < 0) = false := decide_eq_false hp
  replace D1 := Aside0.mk D1
  replace D2 := Aside0.mk D2
  go_enter Tryd.func30, Tryd.ntmps30
  go_wp2_with (first
    | (go_at_call 45
       refine (as_hit2 w ⟨b, o, none⟩ hgA).mono ?_
       rintro e w' ⟨rfl, hB, hcell⟩
       have hcb : w'.cell? ⟨b, o, none⟩ = some (.int .i64 p) := (hB.cell hbl).trans hc
       have hcb1 : w'.cell? ⟨b, o + 1, none⟩ = some (.iface 145 (.pointer (some a))) := (hB.cell hbl).trans hc1
       have hsz' : w'.cell? ⟨1, 0, none⟩ = some (.iface 145 (.pointer (some sz))) := (hB.cell (cell_lt hsz)).trans hsz
       have hsm' : w'.cell? ⟨2, 0, none⟩ = some (.iface 145 (.pointer (some sm))) := (hB.cell (cell_lt hsm)).trans hsm)
    | (go_at_call 46
       first
         | (fail_if_success have := HD1
            refine (is_any b o sz a _ hcb1 (ptd_below hB ha) (ptd_below hB hz)).mono ?_
            rintro e2 w2 ⟨rfl, rfl⟩
            rw [D1.out]
            have HD1 := True.intro)
         | (refine (is_any b o sm a _ hcb1 (ptd_below hB ha) (ptd_below hB hm)).mono ?_
            rintro e3 w3 ⟨rfl, rfl⟩
            rw [D2.out])))
  go_ret
  exact ⟨rfl, hB⟩
set_option maxHeartbeats 4000000 in
theorem code_form (b o : Nat) (p : Int) (w : World) (a sz sm : Addr) (hg : w.cell? ⟨3, 0, none⟩ = some vHand) (hc : w.cell? ⟨b, o, none⟩ = some (.int .i64 p)) (hc1 : w.cell? ⟨b, o + 1, none⟩ = some (.iface 145 (.pointer (some a)))) (hp : ¬ p < 0)
    (hsz : w.cell? ⟨1, 0, none⟩ = some (.iface 145 (.pointer (some sz)))) (hsm : w.cell? ⟨2, 0, none⟩ = some (.iface 145 (.pointer (some sm)))) (ha : Ptd w a) (hz : Ptd w sz) (hm : Ptd w sm) (D1 : decide (a = sz) = false) (D2 : decide (a = sm) = false) :
    Calls Tryd.prog 30 #[.iface 96 (.pointer (some ⟨b, o, none⟩))] w fun e w' => e = .returned (.int .i64 5) ∧ Below w.heap.size w w' := by
  have hlt : 3 < w.heap.size := cell_lt hg
  have hbl : b < w.heap.size := cell_lt hc
  have hgA : (w.alloc (.cells #[.pointer none] 96)).cell? ⟨3, 0, none⟩ = some (.iface 130 (.agg #[.pointer (some ⟨4, 66, none⟩)])) := by
    rw [World.cell?_alloc_lt _ _ ⟨3, 0, none⟩ hlt]; exact hg
  have h0 : decide (p < 0) = false := decide_eq_false hp
  replace D1 := Aside0.mk D1
  replace D2 := Aside0.mk D2
  go_enter Tryd.func30, Tryd.ntmps30
  go_wp2_with (first
    | (go_at_call 45
       refine (as_hit2 w ⟨b, o, none⟩ hgA).mono ?_
       rintro e w' ⟨rfl, hB, hcell⟩
       have hcb : w'.cell? ⟨b, o, none⟩ = some (.int .i64 p) := (hB.cell hbl).trans hc
       have hcb1 : w'.cell? ⟨b, o + 1, none⟩ = some (.iface 145 (.pointer (some a))) := (hB.cell hbl).trans hc1
       have hsz' : w'.cell? ⟨1, 0, none⟩ = some (.iface 145 (.pointer (some sz))) := (hB.cell (cell_lt hsz)).trans hsz
       have hsm' : w'.cell? ⟨2, 0, none⟩ = some (.iface 145 (.pointer (some sm))) := (hB.cell (cell_lt hsm)).trans hsm)
    | (go_at_call 46
       first
         | (fail_if_success have := HD1
            refine (is_any b o sz a _ hcb1 (ptd_below hB ha) (ptd_below hB hz)).mono ?_
            rintro e2 w2 ⟨rfl, rfl⟩
            rw [D1.out]
            have HD1 := True.intro)
         | (refine (is_any b o sm a _ hcb1 (ptd_below hB ha) (ptd_below hB hm)).mono ?_
            rintro e3 w3 ⟨rfl, rfl⟩
            rw [D2.out])))
  go_ret
  exact ⟨rfl, hB⟩
/-- The three faults are pointers to three places. -/
def Sen.good (g : Sen) : Prop := ∃ a b c : Addr, g.size = .iface 145 (.pointer (some a)) ∧ g.sum = .iface 145 (.pointer (some b)) ∧ g.form = .iface 145 (.pointer (some c)) ∧ a ≠ b ∧ a ≠ c ∧ b ≠ c
def faultOK (g : Sen) : ErrD2 → Prop
  | .inl (some q) => q.2.1 = g.size ∨ q.2.1 = g.sum ∨ q.2.1 = g.form
  | .inl none => False
  | .inr _ => True
open Classical in
noncomputable def codeB (g : Sen) : ErrD2 → Int
  | .inl (some q) => if q.1 < 0 then 5 else if q.2.1 = g.size then 3 else if q.2.1 = g.sum then 6 else 5
  | _ => 0
def c30b (g : Sen) : Con := { ps := [(false, 0, tyErr)], rs := [(0, .int .i64)], pre := fun x => faultOK g x.1, post := fun x y _ => y.1 = codeB g x.1, gl := g.gl4 }
theorem in64 {z : Int} (h : 0 ≤ z ∧ z ≤ 10) : InK .i64 z := by
  unfold InK IntKind.min IntKind.max IntKind.signed IntKind.bits
  simp; omega
theorem ok30b (g : Sen) (hgood : g.good) : FnOK Tryd.prog 30 (c30b g) := by
  refine FnOK.of_callsG (by intro p hp; simp [c30b, Con.of] at hp; subst hp; rfl) ?_
  rintro w Z Bs vals ⟨x, ⟨⟩⟩ hA hG hpre
  obtain ⟨B, Bs', v, vs', cs, rfl, rfl, o, ev, rfl, rfl⟩ := hA
  have cellOf : ∀ {n : Nat} {z : Value}, (n, z) ∈ g.gl4 → w.cell? ⟨n, 0, none⟩ = some z := fun {n z} hm => by
    obtain ⟨_, arr, ty, fz, h1, h2, _⟩ := hG (n, z) hm
    unfold World.cell?
    have h1' : w.heap[n]? = some (.cells arr ty fz) := h1
    simp only [h1']
    simpa using h2
  have ptdOf : ∀ {n : Nat} {z : Value} {u : TypeId} {a : Addr}, (n, z) ∈ g.gl4 → z = .iface u (.pointer (some a)) → Ptd w a := fun {n z u a} hm e => by
    obtain ⟨_, arr, ty, fz, _, _, _, h3⟩ := hG (n, z) hm
    obtain ⟨_, c, t, h4⟩ := h3 u a e
    exact ⟨c, t, h4⟩
  have hh : w.cell? ⟨3, 0, none⟩ = some vHand := cellOf (by simp [Sen.gl4])
  obtain ⟨sz, sm, fm, e1, e2, e3, n1, n2, n3⟩ := hgood
  have hsz : w.cell? ⟨1, 0, none⟩ = some (.iface 145 (.pointer (some sz))) := e1 ▸ cellOf (by simp [Sen.gl4])
  have hsm : w.cell? ⟨2, 0, none⟩ = some (.iface 145 (.pointer (some sm))) := e2 ▸ cellOf (by simp [Sen.gl4])
  have psz : Ptd w sz := ptdOf (n := 1) (by simp [Sen.gl4]) e1
  have psm : Ptd w sm := ptdOf (n := 2) (by simp [Sen.gl4]) e2
  have pfm : Ptd w fm := ptdOf (n := 0) (by simp [Sen.gl4]) e3
  have fin : ∀ {c : Int} {w' : World} (hc : 0 ≤ c ∧ c ≤ 10) (hB : Below w.heap.size w w') (x : ErrD2), codeB g x = c →
      ∃ rv y Rs, Ending.returned (.int .i64 c) = .returned rv ∧ (c30b g).post (x, ()) y (x, ()) ∧ Frm [] w w' ∧ Rs.flatten = [] ∧ RetR (hp w') Z (c30b g).rs Rs rv y := fun {c w'} hc hB x hx =>
    ⟨_, (c, ()), [[]], rfl, hx.symm, frm_below hB, rfl, ret_int (in64 hc)⟩
  match x, o, hpre with
  | .inr u, o, _ =>
    have hcs : cs = [.nilIface] := by
      rcases o with ⟨_, h, _⟩ | ⟨_, h⟩
      · exact h
      · exact h.2
    subst hcs
    have e2 : v = .nilIface := ev
    subst e2
    refine (code_nil w).mono ?_
    rintro e w' ⟨rfl, rfl⟩
    exact fin (by omega) (Below.refl _ _) _ rfl
  | .inl none, o, hp => exact False.elim hp
  | .inl (some q), o, hp =>
    obtain ⟨cs', e4, o1⟩ := o
    subst e4
    obtain ⟨_, b, off, arr, ty, fz, rfl, hz, hb, hl, ho⟩ := o1
    have e5 : v = .iface 96 (.pointer (some ⟨b, off, none⟩)) := ev
    subst e5
    have hb' : w.heap[b]? = some (.cells arr ty fz) := hb
    have hseg : seg arr.toList off tyMisp.sz = [.int .i64 q.1, q.2.1] := by
      obtain ⟨B1, B2, c1, c2, _, hcc, ⟨_, hc1, _⟩, ⟨B3, B4, c3, c4, _, hc34, ⟨_, hc3, _⟩, ⟨_, hc4⟩⟩⟩ := ho
      rw [hcc, hc1, hc34, hc3, hc4]; rfl
    have hc0 : w.cell? ⟨b, off, none⟩ = some (.int .i64 q.1) := by
      have hs : (seg arr.toList off tyMisp.sz)[0]? = some (.int .i64 q.1) := by rw [hseg]; rfl
      rw [seg_get] at hs
      unfold World.cell?
      simp only [hb']
      simpa [Ty.sz] using hs
    have hc1 : w.cell? ⟨b, off + 1, none⟩ = some q.2.1 := by
      have hs : (seg arr.toList off tyMisp.sz)[1]? = some q.2.1 := by rw [hseg]; rfl
      rw [seg_get] at hs
      unfold World.cell?
      simp only [hb']
      simpa [Ty.sz] using hs
    by_cases hneg : q.1 < 0
    · refine (code_neg b off q.1 w hh hc0 hneg).mono ?_
      rintro e w' ⟨rfl, hB⟩
      exact fin (by omega) hB _ (by unfold codeB; simp only []; rw [if_pos hneg])
    have pn : ∀ {p q : Addr}, p ≠ q → (Value.iface 145 (.pointer (some p)) = Value.iface 145 (.pointer (some q))) → False := fun h e => by
      simp only [Value.iface.injEq, Value.pointer.injEq, Option.some.injEq, true_and] at e
      exact h e
    rcases hp with hp | hp | hp
    · rw [hp, e1] at hc1
      refine (code_size b off q.1 w sz sz sm hh hc0 hc1 hneg hsz hsm psz psz psm (by simp) (by simp [n1])).mono ?_
      rintro e w' ⟨rfl, hB⟩
      exact fin (by omega) hB _ (by unfold codeB; simp only []; rw [if_neg hneg, if_pos hp])
    · rw [hp, e2] at hc1
      refine (code_sum b off q.1 w sm sz sm hh hc0 hc1 hneg hsz hsm psm psz psm (by simp [n1.symm]) (by simp)).mono ?_
      rintro e w' ⟨rfl, hB⟩
      exact fin (by omega) hB _ (by unfold codeB; simp only []; rw [if_neg hneg, if_neg (by rw [hp, e1, e2]; exact pn n1.symm), if_pos hp])
    · rw [hp, e3] at hc1
      refine (code_form b off q.1 w fm sz sm hh hc0 hc1 hneg hsz hsm pfm psz psm (by simp [n2.symm]) (by simp [n3.symm])).mono ?_
      rintro e w' ⟨rfl, hB⟩
      exact fin (by omega) hB _ (by unfold codeB; simp only []; rw [if_neg hneg, if_neg (by rw [hp, e1, e3]; exact pn n2.symm), if_neg (by rw [hp, e2, e3]; exact pn n3.symm)])
end Go.Proofs.YtmjeghlfmhbjdaaDoor.EngTab
