/- Two operations of a statement whose order is open may change places. No condition. -/
import Derived.Test.YtdggkhnelmonkaaDoorP1
import Derived.Still
namespace Go.Pv

inductive Eff where
  | N | R | S | F | Cp | Ci | W | A | X | C0 | Z
  deriving DecidableEq

/-- May what stands ahead in the text come behind? -/
def Eff.ok : Eff → Eff → Bool
  | .N, .Z | .S, .Z => true
  | .Z, _ | _, .Z => false
  | .N, _ | _, .N => true
  | .R, .R | .R, .S | .S, .R | .S, .S => true
  | .R, .F | .S, .F | .F, .R | .F, .S | .F, .F => true
  | .R, .Cp | .S, .Cp | .Cp, .R | .Cp, .S | .Cp, .F => true
  | .S, .Ci | .Ci, .S | .S, .W | .W, .S => true
  | .A, .R | .A, .S | .R, .A | .S, .A => true
  | .C0, .F => true
  | _, _ => false

def NF.eff : NF → Eff
  | .n _ => .N
  | .r .. => .R
  | .s .. => .S
  | .f .. => .F
  | .w .. => .W
  | .a .. => .A
  | .ci .. => .Ci
  | .cp .. => .Cp
  | .c0 .. => .C0
  | .any => .X
  | .wo .. => .X
  | .ab .. => .X
  | .bad => .N
  | .x _ => .X
  | .ce .. => .Z

/-- A call that leaves the state alone does so beside one variable more. -/
def CFrame (C : CallsP) : Prop := (∀ (f : FuncId) (as : List AV) (st : St) (R : AV → Prop) (b : Nat) (cells : List AV), C f as st (fun r st' => st' = st ∧ R r) → st.fresh b → C f as (st.setBox b cells) (fun r st' => st' = st.setBox b cells ∧ R r)) ∧
  ∀ (f : FuncId) (as : List AV) (st : St) (R : AV → St → Prop) (b : Nat) (cells : List AV), C f as st R → st.fresh b → C f as (st.setBox b cells) (fun r st'' => ∃ st', R r st' ∧ st'.fresh b ∧ st'' = st'.setBox b cells)

theorem see_see (m : Mx) (b c : Nat) (k l : List AV) : (m.see b k).see c l = (m.see c l).see b k := by
  unfold Mx.see
  simp only [Mx.mk.injEq, true_and, and_true]
  funext d e
  apply propext
  constructor <;> (rintro ((h | h) | h)) <;> simp [h]

theorem holds_see {m : Mx} {b : Nat} {k : List AV} {st' : St} : (m.see b k).holds st' ↔ m.holds st' ∧ st'.box b = some k := by
  constructor
  · exact fun h => ⟨fun c l hc => h c l (.inl hc), h b k (.inr ⟨rfl, rfl⟩)⟩
  · rintro ⟨h1, h2⟩ c l (hc | ⟨rfl, rfl⟩)
    · exact h1 c l hc
    · exact h2

theorem past_see (m : Mx) (b : Nat) (k : List AV) (st' : St) : (m.see b k).past st' = (m.past st').see b k := rfl
theorem setSt_see (m : Mx) (b : Nat) (k : List AV) (st' : St) : (m.see b k).setSt st' = (m.setSt st').see b k := rfl

theorem St.box_fresh {s : St} {b : Nat} (h : s.fresh b) (cells : List AV) {c : Nat} {l : List AV} (hc : s.box c = some l) : (s.setBox b cells).box c = some l := by
  rw [St.box_setBox, if_neg (fun e => by subst e; rw [h.1] at hc; cases hc)]; exact hc
theorem St.box_fresh' {s : St} {b : Nat} (cells : List AV) {c : Nat} (hne : c ≠ b) : (s.setBox b cells).box c = s.box c := by
  rw [St.box_setBox, if_neg hne]

theorem St.setBox_comm (s : St) {b c : Nat} (h : b ≠ c) (k l : List AV) : (s.setBox b k).setBox c l = (s.setBox c l).setBox b k := by
  refine St.ext' (funext fun d => ?_) rfl
  simp only [St.box_setBox]
  by_cases h1 : d = c
  · subst h1; simp [Ne.symm h]
  · simp [h1]

theorem NF.swap {C : CallsP} (hC : CFrame C) {i j : NF} (hok : i.eff.ok j.eff = true) {m : Mx} {Q : AV → AV → Mx → Prop}
    (h : i.step C m fun v m1 => j.step C m1 fun u m2 => Q v u m2) : j.step C m fun u m1 => i.step C m1 fun v m2 => Q v u m2 := by
  cases i with
  | bad => exact h.elim
  | c0 g as =>
    obtain ⟨R, k1, k2, h⟩ := h
    obtain ⟨q0, st0, hq0, _⟩ := k2 [] (fun _ h => by cases h)
    cases j with
    | n e =>
      obtain ⟨u, e, _⟩ := h q0 st0 hq0
      refine ⟨u, e, R, k1, k2, fun q st' hq => ?_⟩
      obtain ⟨u', e', h2⟩ := h q st' hq
      rw [e] at e'; cases e'; exact h2
    | f c l val =>
      refine ⟨(h q0 st0 hq0).1, fun b hb => ⟨_, hC.2 g as m.st R b l k1 hb, fun L hL => ?_, ?_⟩⟩
      · obtain ⟨r, st', hr, hf⟩ := k2 (b :: L) (fun c hc => by
          rcases List.mem_cons.1 hc with rfl | hc
          · exact hb
          · have := hL c hc
            have hne : c ≠ b := fun e => by subst e; have := this.1; simp [Mx.setSt] at this
            exact ⟨by have := this.1; rwa [show ((m.setSt (m.st.setBox b l)).st).box c = m.st.box c from St.box_fresh' l hne] at this, this.2⟩)
        refine ⟨r, st'.setBox b l, ⟨st', hr, hf b List.mem_cons_self, rfl⟩, fun c hc => ?_⟩
        have hne : c ≠ b := fun e => by subst e; have := (hL c hc).1; simp [Mx.setSt] at this
        exact ⟨by rw [St.box_fresh' l hne]; exact (hf c (List.mem_cons_of_mem _ hc)).1, (hf c (List.mem_cons_of_mem _ hc)).2⟩
      · rintro r st'' ⟨st', hr, hf, rfl⟩
        exact (h r st' hr).2 b hf
    | bad => exact (h q0 st0 hq0).elim
    | r => cases hok
    | s => cases hok
    | w => cases hok
    | a => cases hok
    | ci => cases hok
    | cp => cases hok
    | any => cases hok
    | wo => cases hok
    | ab => cases hok
    | x => cases hok
    | ce => cases hok
    | c0 => cases hok
  | any =>
    cases j with
    | n e =>
      obtain ⟨u, e, _⟩ := h true
      exact ⟨u, e, fun b => by obtain ⟨u', e', k⟩ := h b; rw [e] at e'; cases e'; exact k⟩
    | bad => exact (h true).elim
    | r => cases hok
    | s => cases hok
    | f => cases hok
    | w => cases hok
    | a => cases hok
    | ci => cases hok
    | cp => cases hok
    | any => cases hok
    | wo => cases hok
    | ab => cases hok
    | x => cases hok
    | ce => cases hok
    | c0 => cases hok
  | wo b o sz cs =>
    have h0 := h
    cases j with
    | n e =>
      have hu : ∃ u, e = some u :=
        NF.step_const rfl (NF.step_mono (Q' := fun _ _ => ∃ u, e = some u) (fun v m1 (k : ∃ u, e = some u ∧ Q v u m1) => let ⟨u, e, _⟩ := k; ⟨u, e⟩) h0)
      obtain ⟨u, hu⟩ := hu
      refine ⟨u, hu, NF.step_mono (fun v m1 (k : ∃ u, e = some u ∧ Q v u m1) => ?_) h0⟩
      obtain ⟨u', e', k⟩ := k
      rw [hu] at e'; cases e'; exact k
    | bad => exact NF.step_const rfl (c := False) h0
    | r => cases hok
    | s => cases hok
    | f => cases hok
    | w => cases hok
    | a => cases hok
    | ci => cases hok
    | cp => cases hok
    | any => cases hok
    | wo => cases hok
    | ab => cases hok
    | x => cases hok
    | ce => cases hok
    | c0 => cases hok
  | ab sz bytes x news =>
    have h0 := h
    cases j with
    | n e =>
      have hu : ∃ u, e = some u :=
        NF.step_const rfl (NF.step_mono (Q' := fun _ _ => ∃ u, e = some u) (fun v m1 (k : ∃ u, e = some u ∧ Q v u m1) => let ⟨u, e, _⟩ := k; ⟨u, e⟩) h0)
      obtain ⟨u, hu⟩ := hu
      refine ⟨u, hu, NF.step_mono (fun v m1 (k : ∃ u, e = some u ∧ Q v u m1) => ?_) h0⟩
      obtain ⟨u', e', k⟩ := k
      rw [hu] at e'; cases e'; exact k
    | bad => exact NF.step_const rfl (c := False) h0
    | r => cases hok
    | s => cases hok
    | f => cases hok
    | w => cases hok
    | a => cases hok
    | ci => cases hok
    | cp => cases hok
    | any => cases hok
    | wo => cases hok
    | ab => cases hok
    | x => cases hok
    | ce => cases hok
    | c0 => cases hok
  | x sx =>
    have h0 := h
    cases j with
    | n e =>
      have hu : ∃ u, e = some u :=
        NF.step_const rfl (NF.step_mono (Q' := fun _ _ => ∃ u, e = some u) (fun v m1 (k : ∃ u, e = some u ∧ Q v u m1) => let ⟨u, e, _⟩ := k; ⟨u, e⟩) h0)
      obtain ⟨u, hu⟩ := hu
      refine ⟨u, hu, NF.step_mono (fun v m1 (k : ∃ u, e = some u ∧ Q v u m1) => ?_) h0⟩
      obtain ⟨u', e', k⟩ := k
      rw [hu] at e'; cases e'; exact k
    | bad => exact NF.step_const rfl (c := False) h0
    | r => cases hok
    | s => cases hok
    | f => cases hok
    | w => cases hok
    | a => cases hok
    | ci => cases hok
    | cp => cases hok
    | any => cases hok
    | wo => cases hok
    | ab => cases hok
    | x => cases hok
    | ce => cases hok
    | c0 => cases hok
  | ce g as => cases j <;> cases hok
  | n e =>
    obtain ⟨v, e, h⟩ := h
    exact NF.step_mono (fun u m1 k => ⟨v, e, k⟩) h
  | r b o ag sz =>
    obtain ⟨cells, e1, v, e2, h⟩ := h
    cases j with
    | n e => obtain ⟨u, e, h⟩ := h; exact ⟨u, e, cells, e1, v, e2, h⟩
    | r b' o' ag' sz' => obtain ⟨c', f1, u, f2, h⟩ := h; exact ⟨c', f1, u, f2, cells, e1, v, e2, h⟩
    | s b' o' ag' sz' => obtain ⟨c', f1, u, f2, f3, h⟩ := h; exact ⟨c', f1, u, f2, f3, cells, e1, v, e2, h⟩
    | f c l val => exact ⟨h.1, fun b' hb' => ⟨cells, St.box_fresh hb' l e1, v, e2, h.2 b' hb'⟩⟩
    | cp g as => obtain ⟨R, k1, k2, h⟩ := h; exact ⟨R, k1, k2, fun q hq => ⟨cells, e1, v, e2, h q hq⟩⟩
    | a sz' bytes x news =>
      obtain ⟨hs, k⟩ := h
      refine ⟨hs, ?_⟩
      revert k
      split
      · rintro ⟨k1, k2, k⟩
        refine ⟨k1, k2, ?_⟩
        split
        · rename_i hn; rw [if_pos hn] at k; exact ⟨cells, e1, v, e2, k⟩
        · rename_i hn; rw [if_neg hn] at k; exact fun b' cap' hb => ⟨cells, e1, v, e2, k b' cap' hb⟩
      · exact fun ⟨k1, k2, k3, k4, k⟩ => ⟨k1, k2, k3, ⟨cells, e1, v, e2, k4⟩, fun b' cap' hb => ⟨cells, e1, v, e2, k b' cap' hb⟩⟩
      · exact id
    | any => cases hok
    | wo => cases hok
    | ab => cases hok
    | x => cases hok
    | ce => cases hok
    | c0 => cases hok
    | bad => exact h
    | w => cases hok
    | ci => cases hok
  | s b o ag sz =>
    obtain ⟨cells, e1, v, e2, e3, h⟩ := h
    cases j with
    | n e => obtain ⟨u, e, h⟩ := h; exact ⟨u, e, cells, e1, v, e2, e3, h⟩
    | r b' o' ag' sz' => obtain ⟨c', f1, u, f2, h⟩ := h; exact ⟨c', f1, u, f2, cells, e1, v, e2, e3, h⟩
    | s b' o' ag' sz' =>
      obtain ⟨c', f1, u, f2, f3, h⟩ := h
      refine ⟨c', f1, u, f2, f3, cells, e1, v, e2, e3, ?_⟩
      rw [see_see]; exact h
    | f c l val => exact ⟨h.1, fun b' hb' => ⟨cells, St.box_fresh hb' l e1, v, e2, e3, h.2 b' hb'⟩⟩
    | cp g as => obtain ⟨R, k1, k2, h⟩ := h; exact ⟨R, k1, k2, fun q hq => ⟨cells, e1, v, e2, e3, h q hq⟩⟩
    | ci g as =>
      obtain ⟨R, k1, k2, h⟩ := h
      refine ⟨R, k1, k2, fun q st' hq => ?_⟩
      obtain ⟨h1, h2⟩ := h q st' hq
      obtain ⟨h3, h4⟩ := holds_see.1 h1
      refine ⟨h3, cells, h4, v, e2, ?_, h2⟩
      rintro d (hd | rfl)
      · exact e3 d hd
      · exact e1
    | w b' o' sz' cs =>
      obtain ⟨c', f1, f2, f3, f4, h⟩ := h
      obtain ⟨h3, h4⟩ := holds_see.1 f4
      refine ⟨c', f1, f2, f3, h3, cells, h4, v, e2, ?_, h⟩
      rintro d (hd | rfl)
      · exact e3 d hd
      · exact e1
    | a sz' bytes x news =>
      obtain ⟨hs, k⟩ := h
      refine ⟨hs, ?_⟩
      revert k
      split
      · rintro ⟨k1, k2, k⟩
        refine ⟨k1, k2, ?_⟩
        split
        · rename_i hn; rw [if_pos hn] at k; exact ⟨cells, e1, v, e2, e3, k⟩
        · rename_i hn; rw [if_neg hn] at k; exact fun b' cap' hb => ⟨cells, e1, v, e2, e3, k b' cap' hb⟩
      · exact fun ⟨k1, k2, k3, k4, k⟩ => ⟨k1, k2, k3, ⟨cells, e1, v, e2, e3, k4⟩, fun b' cap' hb => ⟨cells, e1, v, e2, e3, k b' cap' hb⟩⟩
      · exact id
    | any => cases hok
    | wo => cases hok
    | ab => cases hok
    | x => cases hok
    | ce g as =>
      obtain ⟨R, k1, h⟩ := h
      refine ⟨R, k1, fun q st' hq => ?_⟩
      obtain ⟨h1, h2⟩ := h q st' hq
      obtain ⟨h3, h4⟩ := holds_see.1 h1
      refine ⟨h3, cells, h4, v, e2, ?_, h2⟩
      rintro d (hd | rfl)
      · exact e3 d hd
      · exact e1
    | c0 => cases hok
    | bad => exact h
  | f c l val =>
    obtain ⟨hc, h⟩ := h
    cases j with
    | n e =>
      obtain ⟨b0, hb0⟩ := m.st.has_fresh
      obtain ⟨u, e, _⟩ := h b0 hb0
      refine ⟨u, e, hc, fun b hb => ?_⟩
      obtain ⟨u', e', h'⟩ := h b hb
      rw [e] at e'; cases e'; exact h'
    | r b' o' ag' sz' =>
      obtain ⟨b0, hne, hb0⟩ := m.st.has_fresh_ne b'
      obtain ⟨c', f1, u, f2, _⟩ := h b0 hb0
      have f1' : m.st.box b' = some c' := by rw [← St.box_fresh' l (Ne.symm hne)]; exact f1
      refine ⟨c', f1', u, f2, hc, fun b hb => ?_⟩
      obtain ⟨c2, g1, u2, g2, h'⟩ := h b hb
      have g1' : (m.st.setBox b l).box b' = some c2 := g1
      rw [St.box_fresh hb l f1'] at g1'; cases g1'; rw [f2] at g2; cases g2; exact h'
    | s b' o' ag' sz' =>
      obtain ⟨b0, hne, hb0⟩ := m.st.has_fresh_ne b'
      obtain ⟨c', f1, u, f2, f3, _⟩ := h b0 hb0
      have f1' : m.st.box b' = some c' := by rw [← St.box_fresh' l (Ne.symm hne)]; exact f1
      refine ⟨c', f1', u, f2, f3, hc, fun b hb => ?_⟩
      obtain ⟨c2, g1, u2, g2, g3, h'⟩ := h b hb
      have g1' : (m.st.setBox b l).box b' = some c2 := g1
      have hb : m.st.fresh b := hb
      rw [St.box_fresh hb l f1'] at g1'; cases g1'; rw [f2] at g2; cases g2; exact h'
    | f c' l' val' =>
      obtain ⟨b0, hb0⟩ := m.st.has_fresh
      refine ⟨(h b0 hb0).1, fun b' hb' => ⟨hc, fun b hb => ?_⟩⟩
      have hb' : m.st.fresh b' := hb'
      have hb : (m.st.setBox b' l').fresh b := hb
      have hne : b ≠ b' := fun e => by subst e; have := hb.1; simp at this
      have hb1 : m.st.fresh b := ⟨by have := hb.1; rwa [St.box_fresh' l' hne] at this, hb.2⟩
      have hb2 : (m.st.setBox b l).fresh b' := ⟨by rw [St.box_fresh' l (Ne.symm hne)]; exact hb'.1, hb'.2⟩
      have := (h b hb1).2 b' hb2
      unfold Mx.setSt at *
      dsimp only at *
      rw [St.setBox_comm _ (Ne.symm hne)]; exact this
    | any => cases hok
    | wo => cases hok
    | ab => cases hok
    | x => cases hok
    | ce => cases hok
    | c0 => cases hok
    | bad => obtain ⟨b0, hb0⟩ := m.st.has_fresh; exact (h b0 hb0).elim
    | w => cases hok
    | a => cases hok
    | ci => cases hok
    | cp => cases hok
  | w b o sz cs =>
    obtain ⟨cells, e1, e2, e3, e4, h⟩ := h
    cases j with
    | n e => obtain ⟨u, e, h⟩ := h; exact ⟨u, e, cells, e1, e2, e3, e4, h⟩
    | s b' o' ag' sz' =>
      obtain ⟨c', f1, u, f2, f3, h⟩ := h
      exact ⟨c', f3 m.st (.inr rfl), u, f2, fun d hd => f3 d (.inl hd), cells, e1, e2, e3, holds_see.2 ⟨e4, f1⟩, h⟩
    | any => cases hok
    | wo => cases hok
    | ab => cases hok
    | x => cases hok
    | ce => cases hok
    | c0 => cases hok
    | bad => exact h
    | r => cases hok
    | f => cases hok
    | w => cases hok
    | a => cases hok
    | ci => cases hok
    | cp => cases hok
  | a sz bytes x news =>
    have h0 := h
    obtain ⟨hs, k⟩ := h
    cases j with
    | n e =>
      have hu : ∃ u, e = some u :=
        NF.step_const rfl (NF.step_mono (Q' := fun _ _ => ∃ u, e = some u) (fun v m1 (k : ∃ u, e = some u ∧ Q v u m1) => let ⟨u, e, _⟩ := k; ⟨u, e⟩) h0)
      obtain ⟨u, hu⟩ := hu
      refine ⟨u, hu, NF.step_mono (fun v m1 (k : ∃ u, e = some u ∧ Q v u m1) => ?_) h0⟩
      obtain ⟨u', e', k⟩ := k
      rw [hu] at e'; cases e'; exact k
    | r b' o' ag' sz' =>
      have hu : ∃ c' u, m.st.box b' = some c' ∧ ldv ag' sz' (c'.drop o') = some u := by
        obtain ⟨b0, hb0⟩ := m.st.has_fresh
        revert k
        split
        · rintro ⟨_, _, k⟩
          split at k
          · obtain ⟨c', f1, u, f2, _⟩ := k; exact ⟨c', u, f1, f2⟩
          · obtain ⟨c', f1, u, f2, _⟩ := k b0 0 hb0; exact ⟨c', u, f1, f2⟩
        · rintro ⟨_, _, _, ⟨c', f1, u, f2, _⟩, _⟩; exact ⟨c', u, f1, f2⟩
        · exact False.elim
      obtain ⟨c', u, f1, f2⟩ := hu
      refine ⟨c', f1, u, f2, hs, ?_⟩
      have fin : ∀ v st', st'.box = m.st.box → (∃ cells, st'.box b' = some cells ∧ ∃ w, ldv ag' sz' (cells.drop o') = some w ∧ Q v w (m.setSt st')) → Q v u (m.setSt st') := by
        rintro v st' hst ⟨c2, g1, w, g2, h'⟩
        rw [hst, f1] at g1; cases g1; rw [f2] at g2; cases g2; exact h'
      revert k
      split
      · rintro ⟨k1, k2, k⟩
        refine ⟨k1, k2, ?_⟩
        split
        · rename_i hn; rw [if_pos hn] at k; exact fin _ m.st rfl k
        · rename_i hn; rw [if_neg hn] at k; exact fun b2 cap' hb => fin _ _ rfl (k b2 cap' hb)
      · exact fun ⟨k1, k2, k3, k4, k⟩ => ⟨k1, k2, k3, fin _ _ rfl k4, fun b2 cap' hb => fin _ _ rfl (k b2 cap' hb)⟩
      · exact id
    | s b' o' ag' sz' =>
      have hu : ∃ c' u, m.st.box b' = some c' ∧ ldv ag' sz' (c'.drop o') = some u ∧ ∀ h, m.hist h → h.box b' = some c' := by
        obtain ⟨b0, hb0⟩ := m.st.has_fresh
        revert k
        split
        · rintro ⟨_, _, k⟩
          split at k
          · obtain ⟨c', f1, u, f2, f3, _⟩ := k; exact ⟨c', u, f1, f2, f3⟩
          · obtain ⟨c', f1, u, f2, f3, _⟩ := k b0 0 hb0; exact ⟨c', u, f1, f2, f3⟩
        · rintro ⟨_, _, _, ⟨c', f1, u, f2, f3, _⟩, _⟩; exact ⟨c', u, f1, f2, f3⟩
        · exact False.elim
      obtain ⟨c', u, f1, f2, f3⟩ := hu
      refine ⟨c', f1, u, f2, f3, hs, ?_⟩
      have fin : ∀ v st', st'.box = m.st.box → (∃ cells, st'.box b' = some cells ∧ ∃ w, ldv ag' sz' (cells.drop o') = some w ∧ (∀ h, m.hist h → h.box b' = some cells) ∧ Q v w ((m.setSt st').see b' cells)) →
          Q v u ((m.see b' c').setSt st') := by
        rintro v st' hst ⟨c2, g1, w, g2, _, h'⟩
        rw [hst, f1] at g1; cases g1; rw [f2] at g2; cases g2; exact h'
      revert k
      split
      · rintro ⟨k1, k2, k⟩
        refine ⟨k1, k2, ?_⟩
        split
        · rename_i hn; rw [if_pos hn] at k; exact fin _ m.st rfl k
        · rename_i hn; rw [if_neg hn] at k; exact fun b2 cap' hb => fin _ _ rfl (k b2 cap' hb)
      · exact fun ⟨k1, k2, k3, k4, k⟩ => ⟨k1, k2, k3, fin _ _ rfl k4, fun b2 cap' hb => fin _ _ rfl (k b2 cap' hb)⟩
      · exact id
    | any => cases hok
    | wo => cases hok
    | ab => cases hok
    | x => cases hok
    | ce => cases hok
    | c0 => cases hok
    | bad => exact NF.step_const rfl (c := False) h0
    | f => cases hok
    | w => cases hok
    | a => cases hok
    | ci => cases hok
    | cp => cases hok
  | ci g as =>
    obtain ⟨R, k1, ⟨q0, st0, hq0⟩, h⟩ := h
    cases j with
    | n e =>
      obtain ⟨_, u, e, _⟩ := h q0 st0 hq0
      refine ⟨u, e, R, k1, ⟨q0, st0, hq0⟩, fun q st' hq => ?_⟩
      obtain ⟨h1, u', e', h2⟩ := h q st' hq
      rw [e] at e'; cases e'; exact ⟨h1, h2⟩
    | s b' o' ag' sz' =>
      obtain ⟨_, c', f1, u, f2, f3, _⟩ := h q0 st0 hq0
      refine ⟨c', f3 m.st (.inr rfl), u, f2, fun d hd => f3 d (.inl hd), R, k1, ⟨q0, st0, hq0⟩, fun q st' hq => ?_⟩
      obtain ⟨h1, c2, g1, u2, g2, g3, h2⟩ := h q st' hq
      have : c2 = c' := by have a1 := g3 m.st (.inr rfl); have a2 := f3 m.st (.inr rfl); rw [a1] at a2; cases a2; rfl
      subst this
      rw [f2] at g2; cases g2
      exact ⟨holds_see.2 ⟨h1, g1⟩, h2⟩
    | any => cases hok
    | wo => cases hok
    | ab => cases hok
    | x => cases hok
    | ce => cases hok
    | c0 => cases hok
    | bad => exact (h q0 st0 hq0).2.elim
    | r => cases hok
    | f => cases hok
    | w => cases hok
    | a => cases hok
    | ci => cases hok
    | cp => cases hok
  | cp g as =>
    obtain ⟨R, k1, ⟨q0, hq0⟩, h⟩ := h
    cases j with
    | n e =>
      obtain ⟨u, e, _⟩ := h q0 hq0
      refine ⟨u, e, R, k1, ⟨q0, hq0⟩, fun q hq => ?_⟩
      obtain ⟨u', e', h2⟩ := h q hq
      rw [e] at e'; cases e'; exact h2
    | r b' o' ag' sz' =>
      obtain ⟨c', f1, u, f2, _⟩ := h q0 hq0
      refine ⟨c', f1, u, f2, R, k1, ⟨q0, hq0⟩, fun q hq => ?_⟩
      obtain ⟨c2, g1, u2, g2, h2⟩ := h q hq
      rw [f1] at g1; cases g1; rw [f2] at g2; cases g2; exact h2
    | s b' o' ag' sz' =>
      obtain ⟨c', f1, u, f2, f3, _⟩ := h q0 hq0
      refine ⟨c', f1, u, f2, f3, R, k1, ⟨q0, hq0⟩, fun q hq => ?_⟩
      obtain ⟨c2, g1, u2, g2, g3, h2⟩ := h q hq
      rw [f1] at g1; cases g1; rw [f2] at g2; cases g2; exact h2
    | f c l val =>
      refine ⟨(h q0 hq0).1, fun b hb => ⟨R, ?_, ⟨q0, hq0⟩, fun q hq => (h q hq).2 b hb⟩⟩
      exact hC.1 g as m.st R b l k1 hb
    | any => cases hok
    | wo => cases hok
    | ab => cases hok
    | x => cases hok
    | ce => cases hok
    | c0 => cases hok
    | bad => exact (h q0 hq0).elim
    | w => cases hok
    | a => cases hok
    | ci => cases hok
    | cp => cases hok

end Go.Pv
/- A statement whose order is open, by value: one walk in the text's order serves every order. No condition. -/
namespace Go.Pv

def Arg.tmps : Arg → List Nat
  | .t n => [n]
  | _ => []
def tmpsL (l : List Arg) : List Nat := l.flatMap Arg.tmps
def tmpsO (l : Option Arg) : List Nat := match l with | some a => a.tmps | none => []
def POp.tmps : POp → List Nat
  | .mov x | .isNil _ _ x | .isNilS _ x | .not x | .neg x | .cpl x | .cvt _ x | .cvtF _ x | .cvtI _ x | .nat _ x | .same x | .strOf x | .bytesOf x | .nilchk x | .faddr _ x | .field _ _ _ x | .ext x _ | .len x | .lenS x | .mki _ x
  | .load _ _ x _ | .box _ x | .tassert _ _ x | .clr _ x => x.tmps
  | .pick c a b => c.tmps ++ a.tmps ++ b.tmps
  | .bin _ x y | .eqB _ x y | .eqAgg _ _ x y | .iaddr _ x y | .iaddrA _ _ x y | .idxS x y | .idxA _ _ _ x y | .store _ x y | .storeo _ x y | .appB _ _ x y | .app _ _ x y | .appS x y | .make _ _ _ x y | .copy _ x y => x.tmps ++ y.tmps
  | .minmax _ x rest => x.tmps ++ tmpsL rest
  | .slc _ x lo hi | .slcA _ _ x lo hi | .slcS x lo hi => x.tmps ++ tmpsO lo ++ tmpsO hi
  | .bld _ parts => parts.flatMap fun p => p.2.2.tmps
  | .bsl _ parts => tmpsL parts
  | .mkfn _ first captured => tmpsL first ++ tmpsL captured
  | .alloc _ | .mkmap _ => []
  | .mget _ _ _ x y => x.tmps ++ y.tmps
  | .mins _ x y z => x.tmps ++ y.tmps ++ z.tmps
  | .call _ args | .callp _ args | .call0 _ args | .callE _ args => tmpsL args
  | .callv x args | .callvp x args | .callv0 x args => x.tmps ++ tmpsL args

section
variable {G : Glob}

theorem Arg.ev_congr {s s' : Slots} {a : Arg} (h : ∀ t ∈ a.tmps, s t = s' t) : a.ev G s = a.ev G s' := by
  cases a with
  | t n => exact h n (by simp [Arg.tmps])
  | c v => rfl
  | g n => rfl

theorem evL_congr {s s' : Slots} {l : List Arg} (h : ∀ t ∈ tmpsL l, s t = s' t) : (l.map fun (p : Arg) => p.ev G s) = l.map fun (p : Arg) => p.ev G s' :=
  List.map_congr_left fun a ha => Arg.ev_congr fun t ht => h t (List.mem_flatMap.2 ⟨a, ha, ht⟩)
theorem evO_congr {s s' : Slots} {l : Option Arg} (h : ∀ t ∈ tmpsO l, s t = s' t) : (l.map fun (p : Arg) => p.ev G s) = l.map fun (p : Arg) => p.ev G s' := by
  cases l with
  | none => rfl
  | some a => simp only [Option.map_some]; rw [Arg.ev_congr h]

theorem nf_congr {s s' : Slots} {o : POp} (h : ∀ t ∈ o.tmps, s t = s' t) : nf G s o = nf G s' o := by
  cases o with
  | mov x | isNil _ _ x | not x | neg x | cpl x | cvt _ x | cvtF _ x | cvtI _ x | same x | strOf x | bytesOf x | nilchk x | faddr _ x | field _ _ _ x | ext x _ | len x | lenS x | mki _ x | load _ _ x _ | box _ x | tassert _ _ x | clr _ x =>
    simp only [nf, ev]; rw [Arg.ev_congr (a := x) h]
  | isNilS _ x => simp only [nf]; rw [Arg.ev_congr (a := x) h]
  | nat n x =>
    rcases n with _ | _ | n
    · simp only [nf, ev]; rw [Arg.ev_congr (a := x) h]
    · simp only [nf, ev]; rw [Arg.ev_congr (a := x) h]
    · simp only [nf, ev]
  | pick c a b =>
    simp only [POp.tmps, List.mem_append] at h
    simp only [nf, ev]
    rw [Arg.ev_congr (a := c) (fun t ht => h t (.inl (.inl ht))), Arg.ev_congr (a := a) (fun t ht => h t (.inl (.inr ht))), Arg.ev_congr (a := b) (fun t ht => h t (.inr ht))]
  | bin _ x y | eqB _ x y | eqAgg _ _ x y | iaddr _ x y | iaddrA _ _ x y | idxS x y | idxA _ _ _ x y | store _ x y | storeo _ x y | appB _ _ x y | app _ _ x y | appS x y | make _ _ _ x y | copy _ x y =>
    simp only [POp.tmps, List.mem_append] at h
    simp only [nf, ev]
    rw [Arg.ev_congr (a := x) (fun t ht => h t (.inl ht)), Arg.ev_congr (a := y) (fun t ht => h t (.inr ht))]
  | minmax _ x rest =>
    simp only [POp.tmps, List.mem_append] at h
    simp only [nf, ev]
    rw [Arg.ev_congr (a := x) (fun t ht => h t (.inl ht)), evL_congr (l := rest) (fun t ht => h t (.inr ht))]
  | slc _ x lo hi | slcA _ _ x lo hi | slcS x lo hi =>
    simp only [POp.tmps, List.mem_append] at h
    simp only [nf, ev]
    rw [Arg.ev_congr (a := x) (fun t ht => h t (.inl (.inl ht))), evO_congr (l := lo) (fun t ht => h t (.inl (.inr ht))), evO_congr (l := hi) (fun t ht => h t (.inr ht))]
  | bld _ parts =>
    simp only [nf, ev]
    rw [List.map_congr_left fun p hp => by rw [Arg.ev_congr (a := p.2.2) (s := s) (s' := s') (fun t ht => h t (List.mem_flatMap.2 ⟨p, hp, ht⟩))]]
  | bsl _ parts => simp only [nf, ev]; rw [evL_congr (l := parts) h]
  | mkfn _ first captured =>
    simp only [POp.tmps, List.mem_append] at h
    simp only [nf, ev]
    rw [evL_congr (l := first) (fun t ht => h t (.inl ht)), evL_congr (l := captured) (fun t ht => h t (.inr ht))]
  | alloc _ => rfl
  | mkmap _ => rfl
  | mget _ _ _ x y =>
    simp only [POp.tmps, List.mem_append] at h
    simp only [nf]
    rw [Arg.ev_congr (a := x) (fun t ht => h t (.inl ht)), Arg.ev_congr (a := y) (fun t ht => h t (.inr ht))]
  | mins _ x y z =>
    simp only [POp.tmps, List.mem_append] at h
    simp only [nf]
    rw [Arg.ev_congr (a := x) (fun t ht => h t (.inl (.inl ht))), Arg.ev_congr (a := y) (fun t ht => h t (.inl (.inr ht))), Arg.ev_congr (a := z) (fun t ht => h t (.inr ht))]
  | call _ args | callp _ args | call0 _ args | callE _ args => simp only [nf]; rw [evL_congr (l := args) h]
  | callv x args | callvp x args | callv0 x args =>
    simp only [POp.tmps, List.mem_append] at h
    simp only [nf]
    rw [Arg.ev_congr (a := x) (fun t ht => h t (.inl ht)), evL_congr (l := args) (fun t ht => h t (.inr ht))]

def POp.eff : POp → Eff
  | .load _ _ _ st => if st = true then .S else .R
  | .box .. | .alloc _ | .make .. => .F
  | .store .. => .W
  | .isNilS .. => .X
  | .storeo .. | .appB .. | .copy .. | .clr .. | .mkmap .. | .mins .. | .mget .. => .X
  | .app .. | .appS .. => .A
  | .call .. | .callv .. => .Ci
  | .call0 .. | .callv0 .. => .C0
  | .callp .. | .callvp .. => .Cp
  | .callE .. => .Z
  | _ => .N

theorem nf_eff (s : Slots) (o : POp) : (nf G s o).eff = o.eff ∨ (nf G s o).eff = .N := by
  cases o <;> simp only [nf, POp.eff] <;> (repeat' split) <;> simp_all [NF.eff]

theorem Eff.ok_N_left {e : Eff} : Eff.ok .N e = true := by cases e <;> rfl
theorem Eff.ok_N_right {e : Eff} (h : e ≠ .Z) : Eff.ok e .N = true := by cases e <;> first | rfl | exact absurd rfl h
theorem Eff.ok_Z {e f : Eff} (h : e.ok f = true) : e ≠ .Z := by
  rintro rfl; cases f <;> cases h
theorem nf_isZ {s : Slots} {o : POp} (h : o.eff ≠ .Z) : (nf G s o).isZ = false := by
  have : (nf G s o).eff ≠ .Z := by
    rcases nf_eff (G := G) s o with e | e <;> rw [e]
    · exact h
    · exact fun k => by cases k
  generalize nf G s o = x at this
  cases x <;> first | rfl | exact absurd rfl this

def POper.looks (o : POper) : List Nat := o.op.tmps ++ (match o.guard with | some (t, _) => [t] | none => [])
/-- May the two change places: apart by their slots, and by what they do? -/
def POper.free (x y : POper) : Bool :=
  (match x.dst with
   | some d => !(y.looks.contains d) && y.dst != some d
   | none => true) &&
  (match y.dst with
   | some d => !(x.looks.contains d)
   | none => true) && x.op.eff.ok y.op.eff

theorem put_other {s : Slots} {d : Option Nat} {v : AV} {t : Nat} (h : d ≠ some t) : put s d v t = s t := by
  cases d with
  | none => rfl
  | some u => simp only [put]; rw [if_neg (fun e => h (by rw [e]))]
theorem put_comm {s : Slots} {d e : Option Nat} {v u : AV} (h : ∀ t, d = some t → e ≠ some t) : put (put s d v) e u = put (put s e u) d v := by
  cases d with
  | none => rfl
  | some a =>
    cases e with
    | none => rfl
    | some b =>
      have hne : a ≠ b := fun e => h a rfl (by rw [e])
      funext t
      simp only [put]
      by_cases h1 : t = b
      · subst h1; simp [Ne.symm hne]
      · simp [h1]

theorem POper.free_spec {x y : POper} (h : x.free y = true) :
    (∀ t ∈ y.looks, x.dst ≠ some t) ∧ (∀ t, x.dst = some t → y.dst ≠ some t) ∧ (∀ t ∈ x.looks, y.dst ≠ some t) ∧ x.op.eff.ok y.op.eff = true := by
  unfold POper.free at h
  simp only [Bool.and_eq_true] at h
  obtain ⟨⟨h1, h2⟩, h3⟩ := h
  refine ⟨fun t ht e => ?_, fun t e => ?_, fun t ht e => ?_, h3⟩
  · rw [e] at h1
    simp only [Bool.and_eq_true] at h1
    have := h1.1
    simp only [Bool.not_eq_true', List.contains_eq_mem, decide_eq_false_iff_not] at this
    exact this ht
  · rw [e] at h1
    simp only [Bool.and_eq_true] at h1
    simpa using h1.2
  · rw [e] at h2
    simp only [Bool.not_eq_true', List.contains_eq_mem, decide_eq_false_iff_not] at h2
    exact h2 ht

theorem wants_put {o : POper} {s : Slots} {d : Option Nat} {v : AV} (h : ∀ t ∈ o.looks, d ≠ some t) : wants (put s d v) o.guard = wants s o.guard := by
  unfold wants
  cases hg : o.guard with
  | none => rfl
  | some g =>
    obtain ⟨t, b⟩ := g
    dsimp only
    rw [put_other (h t (by simp [POper.looks, hg]))]
theorem nf_put {o : POper} {s : Slots} {d : Option Nat} {v : AV} (h : ∀ t ∈ o.looks, d ≠ some t) : nf G (put s d v) o.op = nf G s o.op :=
  nf_congr fun t ht => put_other (h t (by simp [POper.looks, ht]))

variable {C : CallsP}

theorem pstep_swap (hC : CFrame C) {i j : POper} (hf : i.free j = true) {K : X → Prop} {x : X} (h : pstep G C i (pstep G C j K) x) : pstep G C j (pstep G C i K) x := by
  obtain ⟨h1, h2, h3, h4⟩ := POper.free_spec hf
  have hjw : ∀ v, wants (put x.sl i.dst v) j.guard = wants x.sl j.guard := fun v => wants_put h1
  have hiw : ∀ v, wants (put x.sl j.dst v) i.guard = wants x.sl i.guard := fun v => wants_put h3
  have hjn : ∀ v, nf G (put x.sl i.dst v) j.op = nf G x.sl j.op := fun v => nf_put h1
  have hin : ∀ v, nf G (put x.sl j.dst v) i.op = nf G x.sl i.op := fun v => nf_put h3
  have hp : ∀ v u, put (put x.sl i.dst v) j.dst u = put (put x.sl j.dst u) i.dst v := fun v u => put_comm h2
  unfold pstep ostep at h ⊢
  simp only [hjw, hiw, hjn, hin] at h ⊢
  cases ei : wants x.sl i.guard with
  | none => rw [ei] at h; exact h.elim
  | some bi =>
    rw [ei] at h
    cases ej : wants x.sl j.guard with
    | none =>
      rw [ej] at h
      cases bi with
      | true => exact NF.step_const (nf_isZ (Eff.ok_Z h4)) (c := False) h
      | false => exact h.elim
    | some bj =>
      rw [ej] at h
      cases bi <;> cases bj <;> dsimp only at h ⊢
      · rw [← hp]; exact h
      · exact NF.step_mono (fun u m k => by rw [← hp]; exact k) h
      · exact NF.step_mono (fun v m k => by rw [← hp]; exact k) h
      · have hok : (nf G x.sl i.op).eff.ok (nf G x.sl j.op).eff = true := by
          rcases nf_eff (G := G) x.sl i.op with e1 | e1 <;> rcases nf_eff (G := G) x.sl j.op with e2 | e2 <;> rw [e1, e2]
          · exact h4
          · exact Eff.ok_N_right (Eff.ok_Z h4)
          · exact Eff.ok_N_left
          · rfl
        refine NF.step_mono (fun u m k => ?_) (NF.swap hC hok h)
        exact NF.step_mono (fun v m2 k2 => by rw [← hp]; exact k2) k

/-! Any order that the edges let. -/
def pOp (G : Glob) (C : CallsP) (pl : List POper) (i : Nat) (K : X → Prop) (x : X) : Prop :=
  match pl[i]? with
  | none => K x
  | some o => pstep G C o K x
theorem pOp_mono {pl : List POper} {i : Nat} {K K' : X → Prop} {x : X} (h : ∀ x, K x → K' x) (hh : pOp G C pl i K x) : pOp G C pl i K' x := by
  unfold pOp at *
  split
  · rename_i e; rw [e] at hh; exact h _ hh
  · rename_i o e; rw [e] at hh; exact pstep_mono h hh
theorem pOp_const {pl : List POper} {i : Nat} (hz : ∀ o, pl[i]? = some o → o.op.eff ≠ .Z) {c : Prop} {x : X} (hh : pOp G C pl i (fun _ => c) x) : c := by
  unfold pOp at hh
  split at hh
  · exact hh
  · rename_i o ho
    unfold pstep at hh
    split at hh
    · exact NF.step_const (nf_isZ (hz o ho)) hh
    · exact hh
    · exact hh.elim

def pAny (G : Glob) (C : CallsP) (ops : Array Oper) (pl : List POper) (Q : X → Prop) : Nat → Array Bool → X → Prop
  | 0, listed, x => Region.ready .any ops listed = [] ∧ Q x
  | fuel + 1, listed, x =>
    (Region.ready .any ops listed = [] → Q x) ∧
    ∀ i ∈ Region.ready .any ops listed, pOp G C pl i (pAny G C ops pl Q fuel (listed.setIfInBounds i true)) x

variable {ops : Array Oper} {pl : List POper}

/-! What an operation follows, by whatever road: bits. -/
def mask1 (o : Oper) (acc : Array Nat) : Nat :=
  o.after.foldl (fun s e => if Region.binds .any e = true then s ||| 2 ^ e.on ||| acc.getD e.on 0 else s) 0
def masks : List Oper → Array Nat → Array Nat
  | [], acc => acc
  | o :: r, acc => masks r (acc.push (mask1 o acc))

theorem mask1_bit (o : Oper) (acc : Array Nat) (i : Nat) (h : (mask1 o acc).testBit i = true) :
    ∃ e ∈ o.after, Region.binds .any e = true ∧ (e.on = i ∨ (acc.getD e.on 0).testBit i = true) := by
  unfold mask1 at h
  rw [← Array.foldl_toList] at h
  have key : ∀ (l : List Edge) (s : Nat), ((l.foldl (fun s e => if Region.binds .any e = true then s ||| 2 ^ e.on ||| acc.getD e.on 0 else s) s).testBit i = true) →
      s.testBit i = true ∨ ∃ e ∈ l, Region.binds .any e = true ∧ (e.on = i ∨ (acc.getD e.on 0).testBit i = true) := by
    intro l
    induction l with
    | nil => intro s h; exact .inl h
    | cons e l ih =>
      intro s h
      simp only [List.foldl_cons] at h
      rcases ih _ h with h1 | ⟨e', he', h1⟩
      · by_cases hb : Region.binds .any e = true
        · rw [if_pos hb] at h1
          simp only [Nat.testBit_or, Nat.testBit_two_pow, Bool.or_eq_true, decide_eq_true_eq] at h1
          rcases h1 with (h1 | h1) | h1
          · exact .inl h1
          · exact .inr ⟨e, by simp, hb, .inl h1⟩
          · exact .inr ⟨e, by simp, hb, .inr h1⟩
        · rw [if_neg hb] at h1; exact .inl h1
      · exact .inr ⟨e', by simp [he'], h1⟩
  rcases key _ 0 h with h1 | ⟨e, he, h1⟩
  · simp at h1
  · exact ⟨e, by simpa using he, h1⟩

theorem masks_prefix : ∀ (l : List Oper) (acc : Array Nat) (k : Nat), k < acc.size → (masks l acc).getD k 0 = acc.getD k 0
  | [], _, _, _ => rfl
  | o :: r, acc, k, hk => by
    rw [masks, masks_prefix r _ k (by simp; omega)]
    simp [Array.getD_eq_getD_getElem?, Array.getElem?_push, Nat.ne_of_lt hk]

theorem masks_spec (ops : Array Oper) : ∀ (l : List Oper) (acc : Array Nat), (∀ j, l[j]? = ops[acc.size + j]?) →
    (∀ j, j < acc.size → ∀ i, (acc.getD j 0).testBit i = true → ∃ o, ops[j]? = some o ∧ ∃ e ∈ o.after, Region.binds .any e = true ∧ (e.on = i ∨ e.on < j ∧ (acc.getD e.on 0).testBit i = true)) →
    ∀ j i, ((masks l acc).getD j 0).testBit i = true → ∃ o, ops[j]? = some o ∧ ∃ e ∈ o.after, Region.binds .any e = true ∧ (e.on = i ∨ e.on < j ∧ ((masks l acc).getD e.on 0).testBit i = true)
  | [], acc, _, h, j, i, hb => by
    by_cases hj : j < acc.size
    · exact h j hj i hb
    · simp [masks, Array.getD_eq_getD_getElem?, Array.getElem?_eq_none (Nat.le_of_not_lt hj)] at hb
  | o :: r, acc, hl, h, j, i, hb => by
    refine masks_spec ops r (acc.push (mask1 o acc)) (fun j => ?_) (fun j hj i hb => ?_) j i hb
    · have := hl (j + 1)
      simpa [Nat.add_assoc, Nat.add_comm 1 j] using this
    · have up : ∀ k, (acc.getD k 0).testBit i = true → ((acc.push (mask1 o acc)).getD k 0).testBit i = true ∧ k < acc.size := by
        intro k hk
        have hlt : k < acc.size := by
          rcases Nat.lt_or_ge k acc.size with h | h
          · exact h
          · simp [Array.getD_eq_getD_getElem?, Array.getElem?_eq_none h] at hk
        refine ⟨?_, hlt⟩
        simpa [Array.getD_eq_getD_getElem?, Array.getElem?_push, Nat.ne_of_lt hlt] using hk
      simp only [Array.size_push] at hj
      by_cases hjs : j = acc.size
      · subst hjs
        have h0 : ops[acc.size]? = some o := by simpa using (hl 0).symm
        have hb' : (mask1 o acc).testBit i = true := by simpa [Array.getD_eq_getD_getElem?, Array.getElem?_push] using hb
        obtain ⟨e, he, hbi, h1⟩ := mask1_bit o acc i hb'
        refine ⟨o, h0, e, he, hbi, ?_⟩
        rcases h1 with h1 | h1
        · exact .inl h1
        · exact .inr ⟨(up _ h1).2, (up _ h1).1⟩
      · have hlt : j < acc.size := by omega
        have hb' : (acc.getD j 0).testBit i = true := by simpa [Array.getD_eq_getD_getElem?, Array.getElem?_push, hjs] using hb
        obtain ⟨o', ho', e, he, hbi, h1⟩ := h j hlt i hb'
        refine ⟨o', ho', e, he, hbi, ?_⟩
        rcases h1 with h1 | ⟨h1, h2⟩
        · exact .inl h1
        · exact .inr ⟨h1, (up _ h2).1⟩

/-- Whoever is listed has all that it follows listed. -/
def Closed (ops : Array Oper) (listed : Array Bool) : Prop :=
  ∀ k o, listed.getD k false = true → ops[k]? = some o → ∀ e ∈ o.after, Region.binds .any e = true → listed.getD e.on false = true

theorem Closed.all {listed : Array Bool} (h : Closed ops listed) {m : Array Nat}
    (hm : ∀ j i, (m.getD j 0).testBit i = true → ∃ o, ops[j]? = some o ∧ ∃ e ∈ o.after, Region.binds .any e = true ∧ (e.on = i ∨ e.on < j ∧ (m.getD e.on 0).testBit i = true)) :
    ∀ n j, j ≤ n → listed.getD j false = true → ∀ i, (m.getD j 0).testBit i = true → listed.getD i false = true := by
  intro n
  induction n with
  | zero =>
    intro j hj hl i hb
    obtain ⟨o, ho, e, he, hbi, h1⟩ := hm j i hb
    rcases h1 with h1 | ⟨h1, _⟩
    · rw [← h1]; exact h j o hl ho e he hbi
    · omega
  | succ n ih =>
    intro j hj hl i hb
    obtain ⟨o, ho, e, he, hbi, h1⟩ := hm j i hb
    rcases h1 with h1 | ⟨h1, h2⟩
    · rw [← h1]; exact h j o hl ho e he hbi
    · exact ih e.on (by omega) (h j o hl ho e he hbi) i h2

theorem Closed.ready {listed : Array Bool} (h : Closed ops listed) {j : Nat} (hj : j ∈ Region.ready .any ops listed) : Closed ops (listed.setIfInBounds j true) := by
  obtain ⟨hun, oj, hoj, hall⟩ := mem_ready.1 hj
  have up : ∀ k, listed.getD k false = true → (listed.setIfInBounds j true).getD k false = true := by
    intro k hk
    by_cases hjk : j = k
    · subst hjk
      rcases Nat.lt_or_ge j listed.size with h | h
      · simp [h]
      · simp [Array.getD_eq_getD_getElem?, Array.getElem?_eq_none h] at hk
    · rw [getD_set_ne false hjk]; exact hk
  intro k o hk ho e he hb
  by_cases hjk : j = k
  · subst hjk
    rw [hoj] at ho; cases ho
    exact up _ (hall e he hb)
  · rw [getD_set_ne false hjk] at hk
    exact up _ (h k o hk ho e he hb)

theorem pAny_first (hC : CFrame C) {m : Array Nat}
    (hm : ∀ j i, (m.getD j 0).testBit i = true → ∃ o, ops[j]? = some o ∧ ∃ e ∈ o.after, Region.binds .any e = true ∧ (e.on = i ∨ e.on < j ∧ (m.getD e.on 0).testBit i = true))
    {Q : X → Prop} {i : Nat} {oi : POper} (hi : pl[i]? = some oi) (hz : oi.op.eff ≠ .Z) :
    ∀ (fuel : Nat) (listed : Array Bool) (x : X), Closed ops listed →
      (∀ j, j < ops.size → j ≠ i → listed.getD j true = false → (m.getD j 0).testBit i = false → ∃ oj, pl[j]? = some oj ∧ oi.free oj = true) →
      i ∈ Region.ready .any ops listed →
      pOp G C pl i (pAny G C ops pl Q fuel (listed.setIfInBounds i true)) x → pAny G C ops pl Q (fuel + 1) listed x := by
  intro fuel
  induction fuel with
  | zero =>
    intro listed x _ _ hr H
    refine ⟨fun h => (by rw [h] at hr; cases hr), fun j hj => ?_⟩
    by_cases hji : j = i
    · subst hji; exact H
    · have h0 : Region.ready .any ops (listed.setIfInBounds i true) = [] := pOp_const (fun o ho => by rw [hi] at ho; cases ho; exact hz) (pOp_mono (fun x h => h.1) H)
      have := ready_mono hj hji
      rw [h0] at this
      cases this
  | succ fuel ih =>
    intro listed x hcl hfree hr H
    refine ⟨fun h => (by rw [h] at hr; cases hr), fun j hj => ?_⟩
    by_cases hji : j = i
    · subst hji; exact H
    · obtain ⟨hjun, oj, hoj, hall⟩ := mem_ready.1 hj
      have hiun : listed.getD i false = false := by
        have h0 := (mem_ready.1 hr).1
        rcases Nat.lt_or_ge i listed.size with h' | h'
        · simp [h'] at h0 ⊢; exact h0
        · simp [Array.getElem?_eq_none h'] at h0
      have hnot : (m.getD j 0).testBit i = false := by
        cases hb : (m.getD j 0).testBit i with
        | false => rfl
        | true =>
          obtain ⟨o, ho, e, he, hbi, h1⟩ := hm j i hb
          rw [hoj] at ho; cases ho
          have hl := hall e he hbi
          rcases h1 with h1 | ⟨h1, h2⟩
          · rw [h1] at hl; rw [hl] at hiun; cases hiun
          · have := hcl.all hm e.on e.on (Nat.le_refl _) hl i h2
            rw [this] at hiun; cases hiun
      obtain ⟨pj, hpj, hfr⟩ := hfree j (Array.getElem?_eq_some_iff.1 hoj).1 hji hjun hnot
      have H1 : pOp G C pl i (pOp G C pl j (pAny G C ops pl Q fuel ((listed.setIfInBounds i true).setIfInBounds j true))) x :=
        pOp_mono (fun x h => h.2 j (ready_mono hj hji)) H
      have H2 : pOp G C pl j (pOp G C pl i (pAny G C ops pl Q fuel ((listed.setIfInBounds i true).setIfInBounds j true))) x := by
        unfold pOp at H1 ⊢
        simp only [hi, hpj] at H1 ⊢
        exact pstep_swap hC hfr H1
      refine pOp_mono (fun x' h3 => ih (listed.setIfInBounds j true) x' (hcl.ready hj) ?_ (ready_mono hr (Ne.symm hji)) ?_) H2
      · intro k hk hki hun hno
        refine hfree k hk hki ?_ hno
        by_cases hjk : j = k
        · subst hjk; exact hjun
        · rw [getD_set_ne true hjk] at hun; exact hun
      · rw [Array.setIfInBounds_comm _ _ hji]
        exact h3

/-- Is each operation ready in its turn, and free of all that need not follow it? -/
def freeP (pl : List POper) (m : Array Nat) (listed : Array Bool) (n i : Nat) : Bool :=
  match pl[i]? with
  | none => false
  | some oi => (List.range n).all fun j =>
      j == i || listed.getD j true || (m.getD j 0).testBit i ||
      (match pl[j]? with | some oj => oi.free oj | none => false)
def lexP (ops : Array Oper) (pl : List POper) (m : Array Nat) : Nat → Nat → Array Bool → Bool
  | 0, _, listed => (Region.ready .any ops listed).isEmpty
  | fuel + 1, k, listed => (Region.ready .any ops listed).contains k && freeP pl m listed ops.size k && lexP ops pl m fuel (k + 1) (listed.setIfInBounds k true)

theorem pAny_lex (hC : CFrame C) {m : Array Nat}
    (hm : ∀ j i, (m.getD j 0).testBit i = true → ∃ o, ops[j]? = some o ∧ ∃ e ∈ o.after, Region.binds .any e = true ∧ (e.on = i ∨ e.on < j ∧ (m.getD e.on 0).testBit i = true))
    {Q : X → Prop} : ∀ (l : List POper) (k : Nat) (listed : Array Bool) (x : X), (∀ j, l[j]? = pl[k + j]?) → (∀ o ∈ l, o.op.eff ≠ .Z) → Closed ops listed →
    lexP ops pl m l.length k listed = true → pops G C l Q x → pAny G C ops pl Q l.length listed x
  | [], _, _, _, _, _, _, hB, h => ⟨by simpa [lexP] using hB, h⟩
  | o :: l, k, listed, x, hl, hz, hcl, hB, h => by
    have h0 : pl[k]? = some o := by simpa using (hl 0).symm
    simp only [List.length_cons, lexP, Bool.and_eq_true] at hB
    obtain ⟨⟨hr, hf⟩, hB'⟩ := hB
    have hr' : k ∈ Region.ready .any ops listed := by simpa using hr
    refine pAny_first hC hm h0 (hz o List.mem_cons_self) l.length listed x hcl ?_ hr' ?_
    · intro j hlt hji hun hno
      unfold freeP at hf
      rw [h0] at hf
      simp only [List.all_eq_true, List.mem_range] at hf
      have := hf j hlt
      simp only [Bool.or_eq_true, hun, hno] at this
      rcases this with ((h1 | h1) | h1) | h1
      · exact absurd (by simpa using h1) hji
      · cases h1
      · cases h1
      · split at h1
        · rename_i p hp; exact ⟨p, hp, h1⟩
        · cases h1
    · unfold pOp
      simp only [h0]
      exact pstep_mono (fun x' h' => pAny_lex hC hm l (k + 1) _ x' (fun j => by have := hl (j + 1); simpa [Nat.add_assoc, Nat.add_comm 1 j] using this) (fun o ho => hz o (List.mem_cons_of_mem _ ho)) (hcl.ready hr') hB' h') h

/-- Is it none that may not return? -/
def isNZ (pl : List POper) (k : Nat) : Bool := match pl[k]? with | some o => o.op.eff != .Z | none => false
/-- Is it ready alone? -/
def aloneP (ops : Array Oper) (pl : List POper) (listed : Array Bool) (k : Nat) : Bool := (Region.ready .any ops listed == [k]) && pl[k]?.isSome
/-- The same in another order. -/
def lexO (ops : Array Oper) (pl : List POper) (m : Array Nat) : List Nat → Array Bool → Bool
  | [], listed => (Region.ready .any ops listed).isEmpty
  | k :: is, listed => ((Region.ready .any ops listed).contains k && freeP pl m listed ops.size k && isNZ pl k || aloneP ops pl listed k) && lexO ops pl m is (listed.setIfInBounds k true)
theorem pAny_ord (hC : CFrame C) {m : Array Nat}
    (hm : ∀ j i, (m.getD j 0).testBit i = true → ∃ o, ops[j]? = some o ∧ ∃ e ∈ o.after, Region.binds .any e = true ∧ (e.on = i ∨ e.on < j ∧ (m.getD e.on 0).testBit i = true))
    {Q : X → Prop} : ∀ (is : List Nat) (listed : Array Bool) (x : X), Closed ops listed →
    lexO ops pl m is listed = true → pops G C (is.filterMap (pl[·]?)) Q x → pAny G C ops pl Q is.length listed x
  | [], listed, x, _, hB, h => ⟨by simpa [lexO] using hB, h⟩
  | k :: is, listed, x, hcl, hB, h => by
    simp only [lexO, Bool.and_eq_true, Bool.or_eq_true] at hB
    obtain ⟨hB1, hB'⟩ := hB
    rcases hB1 with ⟨⟨hr, hf⟩, hnz⟩ | hal
    · have hr' : k ∈ Region.ready .any ops listed := by simpa using hr
      cases h0 : pl[k]? with
      | none => unfold freeP at hf; rw [h0] at hf; cases hf
      | some o =>
        have hz : o.op.eff ≠ .Z := by unfold isNZ at hnz; rw [h0] at hnz; simpa using hnz
        rw [List.filterMap_cons_some h0] at h
        refine pAny_first hC hm h0 hz is.length listed x hcl ?_ hr' ?_
        · intro j hlt hji hun hno
          unfold freeP at hf
          rw [h0] at hf
          simp only [List.all_eq_true, List.mem_range] at hf
          have := hf j hlt
          simp only [Bool.or_eq_true, hun, hno] at this
          rcases this with ((h1 | h1) | h1) | h1
          · exact absurd (by simpa using h1) hji
          · cases h1
          · cases h1
          · split at h1
            · rename_i p hp; exact ⟨p, hp, h1⟩
            · cases h1
        · unfold pOp
          simp only [h0]
          exact pstep_mono (fun x' h' => pAny_ord hC hm is _ x' (hcl.ready hr') hB' h') h
    · unfold aloneP at hal
      rw [Bool.and_eq_true] at hal
      have hre : Region.ready .any ops listed = [k] := by simpa using hal.1
      have hr' : k ∈ Region.ready .any ops listed := by rw [hre]; exact List.mem_singleton_self _
      obtain ⟨o, h0⟩ := Option.isSome_iff_exists.1 hal.2
      rw [List.filterMap_cons_some h0] at h
      refine ⟨fun he => (by rw [hre] at he; cases he), fun i hi => ?_⟩
      rw [hre] at hi
      obtain rfl := List.mem_singleton.1 hi
      unfold pOp
      simp only [h0]
      exact pstep_mono (fun x' h' => pAny_ord hC hm is _ x' (hcl.ready hr') hB' h') h
def lexOR (ops : Array Oper) (pl : List POper) (is : List Nat) : Bool := lexO ops pl (masks ops.toList #[]) is (Array.replicate ops.size false)
theorem pAny_of_lexOR (hC : CFrame C) {is : List Nat} (hB : lexOR ops pl is = true) {Q : X → Prop} {x : X} (h : pops G C (is.filterMap (pl[·]?)) Q x) : pAny G C ops pl Q is.length (Array.replicate ops.size false) x := by
  rw [lexOR] at hB
  refine pAny_ord hC (m := masks ops.toList #[]) ?_ is _ x ?_ hB h
  · exact masks_spec ops ops.toList #[] (by simp) (fun j hj => by simp at hj)
  · intro k o hk
    exfalso
    simp only [Array.getD_eq_getD_getElem?, Array.getElem?_replicate] at hk
    split at hk <;> simp at hk

def lexR (ops : Array Oper) (pl : List POper) : Bool := lexP ops pl (masks ops.toList #[]) pl.length 0 (Array.replicate ops.size false) && pl.all fun o => o.op.eff != .Z

theorem pAny_of_lexR (hC : CFrame C) (hB : lexR ops pl = true) {Q : X → Prop} {x : X} (h : pops G C pl Q x) : pAny G C ops pl Q pl.length (Array.replicate ops.size false) x := by
  rw [lexR, Bool.and_eq_true] at hB
  refine pAny_lex hC (m := masks ops.toList #[]) ?_ pl 0 _ x (by simp) (fun o ho => by simpa using List.all_eq_true.1 hB.2 o ho) ?_ hB.1 h
  · exact masks_spec ops ops.toList #[] (by simp) (fun j hj => by simp at hj)
  · intro k o hk
    exfalso
    simp only [Array.getD_eq_getD_getElem?, Array.getElem?_replicate] at hk
    split at hk <;> simp at hk

/-! A region that ends in a panic: all stands ahead of it. -/
def fwdB (ops : Array Oper) : Bool := (List.range ops.size).all fun j => match ops[j]? with | some o => o.after.all fun e => decide (e.on < j) | none => true
theorem ready_ne (hf : fwdB ops = true) {listed : Array Bool} : ∀ (n j : Nat), j ≤ n → j < ops.size → listed.getD j true = false → Region.ready .any ops listed ≠ [] := by
  intro n
  induction n with
  | zero =>
    intro j hj hlt hun e
    have hoj : ops[j]? = some ops[j] := Array.getElem?_eq_getElem hlt
    have h1 := List.all_eq_true.1 hf j (List.mem_range.2 hlt)
    simp only [hoj] at h1
    have hm : j ∈ Region.ready .any ops listed := mem_ready.2 ⟨hun, _, hoj, fun e he _ => by
      have := Array.all_eq_true_iff_forall_mem.1 h1 e he
      simp at this; omega⟩
    rw [e] at hm; cases hm
  | succ n ih =>
    intro j hj hlt hun e
    have hoj : ops[j]? = some ops[j] := Array.getElem?_eq_getElem hlt
    have h1 := List.all_eq_true.1 hf j (List.mem_range.2 hlt)
    simp only [hoj] at h1
    by_cases hall : ∀ e ∈ ops[j].after, Region.binds .any e = true → listed.getD e.on false = true
    · have hm : j ∈ Region.ready .any ops listed := mem_ready.2 ⟨hun, _, hoj, hall⟩
      rw [e] at hm; cases hm
    · simp only [Classical.not_forall] at hall
      obtain ⟨ed, he, _, hne⟩ := hall
      have hon : ed.on < j := by
        have := Array.all_eq_true_iff_forall_mem.1 h1 ed he
        simpa using this
      have hjs : j < listed.size := by
        rcases Nat.lt_or_ge j listed.size with h | h
        · exact h
        · simp [Array.getD_eq_getD_getElem?, Array.getElem?_eq_none h] at hun
      refine ih ed.on (by omega) (by omega) ?_ e
      have hes : ed.on < listed.size := by omega
      simp [hes] at hne ⊢
      exact hne
theorem ready_done {m : Array Nat}
    (hm : ∀ j i, (m.getD j 0).testBit i = true → ∃ o, ops[j]? = some o ∧ ∃ e ∈ o.after, Region.binds .any e = true ∧ (e.on = i ∨ e.on < j ∧ (m.getD e.on 0).testBit i = true))
    {listed : Array Bool} (hcl : Closed ops listed) {n : Nat} (hn : n ∈ Region.ready .any ops listed) (hsz : ops.size = n + 1) (hall : ∀ i, i < n → (m.getD n 0).testBit i = true) : Region.ready .any ops (listed.setIfInBounds n true) = [] := by
  rw [List.eq_nil_iff_forall_not_mem]
  intro j hj
  obtain ⟨hun, oj, hoj, _⟩ := mem_ready.1 hj
  have hjs : j < ops.size := (Array.getElem?_eq_some_iff.1 hoj).1
  obtain ⟨_, on, hon, halln⟩ := mem_ready.1 hn
  by_cases hjn : n = j
  · subst hjn
    rcases Nat.lt_or_ge n listed.size with h | h
    · simp [h] at hun
    · simp [Array.getD_eq_getD_getElem?] at hun
  · rw [getD_set_ne true hjn] at hun
    have hl : listed.getD j false = true := by
      obtain ⟨o, ho, e, he, hbi, h1⟩ := hm n j (hall j (by omega))
      rw [hon] at ho; cases ho
      have hl := halln e he hbi
      rcases h1 with h1 | ⟨_, h2⟩
      · rw [← h1]; exact hl
      · exact hcl.all hm e.on e.on (Nat.le_refl _) hl j h2
    rcases Nat.lt_or_ge j listed.size with h | h
    · simp [h] at hun hl; rw [hun] at hl; cases hl
    · simp [Array.getD_eq_getD_getElem?, Array.getElem?_eq_none h] at hun
def nopO : POper := ⟨none, .mov (.c .undef), none⟩
end
end Go.Pv
