/- Two operations of a statement whose order is open may change places. No condition. -/
import Derived.Test.YtdggkhnelmonkaaDoorP2
namespace Go.Pv

inductive Eff where
  | N | R | S | F | Cp | Ci | W | A | X | C0 | Z
  deriving DecidableEq

/-- May what stands ahead in the text come behind? -/
def Eff.ok : Eff → Eff → Bool
  | .N, .Z | .S, .Z => true
  | .Z, _ | _, .Z => false
  | .N, _ | _, .N => true
  | .R, .R | .R, .S | .S, .R | .S, .S => true
  | .R, .F | .S, .F | .F, .R | .F, .S | .F, .F => true
  | .R, .Cp | .S, .Cp | .Cp, .R | .Cp, .S | .Cp, .F => true
  | .S, .Ci | .Ci, .S | .S, .W | .W, .S => true
  | .A, .R | .A, .S | .R, .A | .S, .A => true
  | .C0, .F => true
  | _, _ => false

def NF.eff : NF → Eff
  | .n _ => .N
  | .r .. => .R
  | .s .. => .S
  | .f .. => .F
  | .w .. => .W
  | .a .. => .A
  | .ci .. => .Ci
  | .cp .. => .Cp
  | .c0 .. => .C0
  | .any => .X
  | .wo .. => .X
  | .ab .. => .X
  | .bad => .N
  | .x _ => .X
  | .ce .. => .Z

/-- A call that leaves the state alone does so beside one variable more. -/
def CFrame (C : CallsP) : Prop := (∀ (f : FuncId) (as : List AV) (st : St) (R : AV → Prop) (b : Nat) (cells : List AV), C f as st (fun r st' => st' = st ∧ R r) → st.fresh b → C f as (st.setBox b cells) (fun r st' => st' = st.setBox b cells ∧ R r)) ∧
  ∀ (f : FuncId) (as : List AV) (st : St) (R : AV → St → Prop) (b : Nat) (cells : List AV), C f as st R → st.fresh b → C f as (st.setBox b cells) (fun r st'' => ∃ st', R r st' ∧ st'.fresh b ∧ st'' = st'.setBox b cells)

theorem see_see (m : Mx) (b c : Nat) (k l : List AV) : (m.see b k).see c l = (m.see c l).see b k := by
  unfold Mx.see
  simp only [Mx.mk.injEq, true_and, and_true]
  funext d e
  apply propext
  constructor <;> (rintro ((h | h) | h)) <;> simp [h]

theorem holds_see {m : Mx} {b : Nat} {k : List AV} {st' : St} : (m.see b k).holds st' ↔ m.holds st' ∧ st'.box b = some k := by
  constructor
  · exact fun h => ⟨fun c l hc => h c l (.inl hc), h b k (.inr ⟨rfl, rfl⟩)⟩
  · rintro ⟨h1, h2⟩ c l (hc | ⟨rfl, rfl⟩)
    · exact h1 c l hc
    · exact h2

theorem past_see (m : Mx) (b : Nat) (k : List AV) (st' : St) : (m.see b k).past st' = (m.past st').see b k := rfl
theorem setSt_see (m : Mx) (b : Nat) (k : List AV) (st' : St) : (m.see b k).setSt st' = (m.setSt st').see b k := rfl

theorem St.box_fresh {s : St} {b : Nat} (h : s.fresh b) (cells : List AV) {c : Nat} {l : List AV} (hc : s.box c = some l) : (s.setBox b cells).box c = some l := by
  rw [St.box_setBox, if_neg (fun e => by subst e; rw [h.1] at hc; cases hc)]; exact hc
theorem St.box_fresh' {s : St} {b : Nat} (cells : List AV) {c : Nat} (hne : c ≠ b) : (s.setBox b cells).box c = s.box c := by
  rw [St.box_setBox, if_neg hne]

theorem St.setBox_comm (s : St) {b c : Nat} (h : b ≠ c) (k l : List AV) : (s.setBox b k).setBox c l = (s.setBox c l).setBox b k := by
  refine St.ext' (funext fun d => ?_) rfl
  simp only [St.box_setBox]
  by_cases h1 : d = c
  · subst h1; simp [Ne.symm h]
  · simp [h1]

theorem NF.swap {C : CallsP} (hC : CFrame C) {i j : NF} (hok : i.eff.ok j.eff = true) {m : Mx} {Q : AV → AV → Mx → Prop}
    (h : i.step C m fun v m1 => j.step C m1 fun u m2 => Q v u m2) : j.step C m fun u m1 => i.step C m1 fun v m2 => Q v u m2 := by
  cases i with
  | bad => exact h.elim
  | c0 g as =>
    obtain ⟨R, k1, k2, h⟩ := h
    obtain ⟨q0, st0, hq0, _⟩ := k2 [] (fun _ h => by cases h)
    cases j with
    | n e =>
      obtain ⟨u, e, _⟩ := h q0 st0 hq0
      refine ⟨u, e, R, k1, k2, fun q st' hq => ?_⟩
      obtain ⟨u', e', h2⟩ := h q st' hq
      rw [e] at e'; cases e'; exact h2
    | f c l val =>
      refine ⟨(h q0 st0 hq0).1, fun b hb => ⟨_, hC.2 g as m.st R b l k1 hb, fun L hL => ?_, ?_⟩⟩
      · obtain ⟨r, st', hr, hf⟩ := k2 (b :: L) (fun c hc => by
          rcases List.mem_cons.1 hc with rfl | hc
          · exact hb
          · have := hL c hc
            have hne : c ≠ b := fun e => by subst e; have := this.1; simp [Mx.setSt] at this
            exact ⟨by have := this.1; rwa [show ((m.setSt (m.st.setBox b l)).st).box c = m.st.box c from St.box_fresh' l hne] at this, this.2⟩)
        refine ⟨r, st'.setBox b l, ⟨st', hr, hf b List.mem_cons_self, rfl⟩, fun c hc => ?_⟩
        have hne : c ≠ b := fun e => by subst e; have := (hL c hc).1; simp [Mx.setSt] at this
        exact ⟨by rw [St.box_fresh' l hne]; exact (hf c (List.mem_cons_of_mem _ hc)).1, (hf c (List.mem_cons_of_mem _ hc)).2⟩
      · rintro r st'' ⟨st', hr, hf, rfl⟩
        exact (h r st' hr).2 b hf
    | bad => exact (h q0 st0 hq0).elim
    | r => cases hok
    | s => cases hok
    | w => cases hok
    | a => cases hok
    | ci => cases hok
    | cp => cases hok
    | any => cases hok
    | wo => cases hok
    | ab => cases hok
    | x => cases hok
    | ce => cases hok
    | c0 => cases hok
  | any =>
    cases j with
    | n e =>
      obtain ⟨u, e, _⟩ := h true
      exact ⟨u, e, fun b => by obtain ⟨u', e', k⟩ := h b; rw [e] at e'; cases e'; exact k⟩
    | bad => exact (h true).elim
    | r => cases hok
    | s => cases hok
    | f => cases hok
    | w => cases hok
    | a => cases hok
    | ci => cases hok
    | cp => cases hok
    | any => cases hok
    | wo => cases hok
    | ab => cases hok
    | x => cases hok
    | ce => cases hok
    | c0 => cases hok
  | wo b o sz cs =>
    have h0 := h
    cases j with
    | n e =>
      have hu : ∃ u, e = some u :=
        NF.step_const rfl (NF.step_mono (Q' := fun _ _ => ∃ u, e = some u) (fun v m1 (k : ∃ u, e = some u ∧ Q v u m1) => let ⟨u, e, _⟩ := k; ⟨u, e⟩) h0)
      obtain ⟨u, hu⟩ := hu
      refine ⟨u, hu, NF.step_mono (fun v m1 (k : ∃ u, e = some u ∧ Q v u m1) => ?_) h0⟩
      obtain ⟨u', e', k⟩ := k
      rw [hu] at e'; cases e'; exact k
    | bad => exact NF.step_const rfl (c := False) h0
    | r => cases hok
    | s => cases hok
    | f => cases hok
    | w => cases hok
    | a => cases hok
    | ci => cases hok
    | cp => cases hok
    | any => cases hok
    | wo => cases hok
    | ab => cases hok
    | x => cases hok
    | ce => cases hok
    | c0 => cases hok
  | ab sz bytes x news =>
    have h0 := h
    cases j with
    | n e =>
      have hu : ∃ u, e = some u :=
        NF.step_const rfl (NF.step_mono (Q' := fun _ _ => ∃ u, e = some u) (fun v m1 (k : ∃ u, e = some u ∧ Q v u m1) => let ⟨u, e, _⟩ := k; ⟨u, e⟩) h0)
      obtain ⟨u, hu⟩ := hu
      refine ⟨u, hu, NF.step_mono (fun v m1 (k : ∃ u, e = some u ∧ Q v u m1) => ?_) h0⟩
      obtain ⟨u', e', k⟩ := k
      rw [hu] at e'; cases e'; exact k
    | bad => exact NF.step_const rfl (c := False) h0
    | r => cases hok
    | s => cases hok
    | f => cases hok
    | w => cases hok
    | a => cases hok
    | ci => cases hok
    | cp => cases hok
    | any => cases hok
    | wo => cases hok
    | ab => cases hok
    | x => cases hok
    | ce => cases hok
    | c0 => cases hok
  | x sx =>
    have h0 := h
    cases j with
    | n e =>
      have hu : ∃ u, e = some u :=
        NF.step_const rfl (NF.step_mono (Q' := fun _ _ => ∃ u, e = some u) (fun v m1 (k : ∃ u, e = some u ∧ Q v u m1) => let ⟨u, e, _⟩ := k; ⟨u, e⟩) h0)
      obtain ⟨u, hu⟩ := hu
      refine ⟨u, hu, NF.step_mono (fun v m1 (k : ∃ u, e = some u ∧ Q v u m1) => ?_) h0⟩
      obtain ⟨u', e', k⟩ := k
      rw [hu] at e'; cases e'; exact k
    | bad => exact NF.step_const rfl (c := False) h0
    | r => cases hok
    | s => cases hok
    | f => cases hok
    | w => cases hok
    | a => cases hok
    | ci => cases hok
    | cp => cases hok
    | any => cases hok
    | wo => cases hok
    | ab => cases hok
    | x => cases hok
    | ce => cases hok
    | c0 => cases hok
  | ce g as => cases j <;> cases hok
  | n e =>
    obtain ⟨v, e, h⟩ := h
    exact NF.step_mono (fun u m1 k => ⟨v, e, k⟩) h
  | r b o ag sz =>
    obtain ⟨cells, e1, v, e2, h⟩ := h
    cases j with
    | n e => obtain ⟨u, e, h⟩ := h; exact ⟨u, e, cells, e1, v, e2, h⟩
    | r b' o' ag' sz' => obtain ⟨c', f1, u, f2, h⟩ := h; exact ⟨c', f1, u, f2, cells, e1, v, e2, h⟩
    | s b' o' ag' sz' => obtain ⟨c', f1, u, f2, f3, h⟩ := h; exact ⟨c', f1, u, f2, f3, cells, e1, v, e2, h⟩
    | f c l val => exact ⟨h.1, fun b' hb' => ⟨cells, St.box_fresh hb' l e1, v, e2, h.2 b' hb'⟩⟩
    | cp g as => obtain ⟨R, k1, k2, h⟩ := h; exact ⟨R, k1, k2, fun q hq => ⟨cells, e1, v, e2, h q hq⟩⟩
    | a sz' bytes x news =>
      obtain ⟨hs, k⟩ := h
      refine ⟨hs, ?_⟩
      revert k
      split
      · rintro ⟨k1, k2, k⟩
        refine ⟨k1, k2, ?_⟩
        split
        · rename_i hn; rw [if_pos hn] at k; exact ⟨cells, e1, v, e2, k⟩
        · rename_i hn; rw [if_neg hn] at k; exact fun b' cap' hb => ⟨cells, e1, v, e2, k b' cap' hb⟩
      · exact fun ⟨k1, k2, k3, k4, k⟩ => ⟨k1, k2, k3, ⟨cells, e1, v, e2, k4⟩, fun b' cap' hb => ⟨cells, e1, v, e2, k b' cap' hb⟩⟩
      · exact id
    | any => cases hok
    | wo => cases hok
    | ab => cases hok
    | x => cases hok
    | ce => cases hok
    | c0 => cases hok
    | bad => exact h
    | w => cases hok
    | ci => cases hok
  | s b o ag sz =>
    obtain ⟨cells, e1, v, e2, e3, h⟩ := h
    cases j with
    | n e => obtain ⟨u, e, h⟩ := h; exact ⟨u, e, cells, e1, v, e2, e3, h⟩
    | r b' o' ag' sz' => obtain ⟨c', f1, u, f2, h⟩ := h; exact ⟨c', f1, u, f2, cells, e1, v, e2, e3, h⟩
    | s b' o' ag' sz' =>
      obtain ⟨c', f1, u, f2, f3, h⟩ := h
      refine ⟨c', f1, u, f2, f3, cells, e1, v, e2, e3, ?_⟩
      rw [see_see]; exact h
    | f c l val => exact ⟨h.1, fun b' hb' => ⟨cells, St.box_fresh hb' l e1, v, e2, e3, h.2 b' hb'⟩⟩
    | cp g as => obtain ⟨R, k1, k2, h⟩ := h; exact ⟨R, k1, k2, fun q hq => ⟨cells, e1, v, e2, e3, h q hq⟩⟩
    | ci g as =>
      obtain ⟨R, k1, k2, h⟩ := h
      refine ⟨R, k1, k2, fun q st' hq => ?_⟩
      obtain ⟨h1, h2⟩ := h q st' hq
      obtain ⟨h3, h4⟩ := holds_see.1 h1
      refine ⟨h3, cells, h4, v, e2, ?_, h2⟩
      rintro d (hd | rfl)
      · exact e3 d hd
      · exact e1
    | w b' o' sz' cs =>
      obtain ⟨c', f1, f2, f3, f4, h⟩ := h
      obtain ⟨h3, h4⟩ := holds_see.1 f4
      refine ⟨c', f1, f2, f3, h3, cells, h4, v, e2, ?_, h⟩
      rintro d (hd | rfl)
      · exact e3 d hd
      · exact e1
    | a sz' bytes x news =>
      obtain ⟨hs, k⟩ := h
      refine ⟨hs, ?_⟩
      revert k
      split
      · rintro ⟨k1, k2, k⟩
        refine ⟨k1, k2, ?_⟩
        split
        · rename_i hn; rw [if_pos hn] at k; exact ⟨cells, e1, v, e2, e3, k⟩
        · rename_i hn; rw [if_neg hn] at k; exact fun b' cap' hb => ⟨cells, e1, v, e2, e3, k b' cap' hb⟩
      · exact fun ⟨k1, k2, k3, k4, k⟩ => ⟨k1, k2, k3, ⟨cells, e1, v, e2, e3, k4⟩, fun b' cap' hb => ⟨cells, e1, v, e2, e3, k b' cap' hb⟩⟩
      · exact id
    | any => cases hok
    | wo => cases hok
    | ab => cases hok
    | x => cases hok
    | ce g as =>
      obtain ⟨R, k1, h⟩ := h
      refine ⟨R, k1, fun q st' hq => ?_⟩
      obtain ⟨h1, h2⟩ := h q st' hq
      obtain ⟨h3, h4⟩ := holds_see.1 h1
      refine ⟨h3, cells, h4, v, e2, ?_, h2⟩
      rintro d (hd | rfl)
      · exact e3 d hd
      · exact e1
    | c0 => cases hok
    | bad => exact h
  | f c l val =>
    obtain ⟨hc, h⟩ := h
    cases j with
    | n e =>
      obtain ⟨b0, hb0⟩ := m.st.has_fresh
      obtain ⟨u, e, _⟩ := h b0 hb0
      refine ⟨u, e, hc, fun b hb => ?_⟩
      obtain ⟨u', e', h'⟩ := h b hb
      rw [e] at e'; cases e'; exact h'
    | r b' o' ag' sz' =>
      obtain ⟨b0, hne, hb0⟩ := m.st.has_fresh_ne b'
      obtain ⟨c', f1, u, f2, _⟩ := h b0 hb0
      have f1' : m.st.box b' = some c' := by rw [← St.box_fresh' l (Ne.symm hne)]; exact f1
      refine ⟨c', f1', u, f2, hc, fun b hb => ?_⟩
      obtain ⟨c2, g1, u2, g2, h'⟩ := h b hb
      have g1' : (m.st.setBox b l).box b' = some c2 := g1
      rw [St.box_fresh hb l f1'] at g1'; cases g1'; rw [f2] at g2; cases g2; exact h'
    | s b' o' ag' sz' =>
      obtain ⟨b0, hne, hb0⟩ := m.st.has_fresh_ne b'
      obtain ⟨c', f1, u, f2, f3, _⟩ := h b0 hb0
      have f1' : m.st.box b' = some c' := by rw [← St.box_fresh' l (Ne.symm hne)]; exact f1
      refine ⟨c', f1', u, f2, f3, hc, fun b hb => ?_⟩
      obtain ⟨c2, g1, u2, g2, g3, h'⟩ := h b hb
      have g1' : (m.st.setBox b l).box b' = some c2 := g1
      have hb : m.st.fresh b := hb
      rw [St.box_fresh hb l f1'] at g1'; cases g1'; rw [f2] at g2; cases g2; exact h'
    | f c' l' val' =>
      obtain ⟨b0, hb0⟩ := m.st.has_fresh
      refine ⟨(h b0 hb0).1, fun b' hb' => ⟨hc, fun b hb => ?_⟩⟩
      have hb' : m.st.fresh b' := hb'
      have hb : (m.st.setBox b' l').fresh b := hb
      have hne : b ≠ b' := fun e => by subst e; have := hb.1; simp at this
      have hb1 : m.st.fresh b := ⟨by have := hb.1; rwa [St.box_fresh' l' hne] at this, hb.2⟩
      have hb2 : (m.st.setBox b l).fresh b' := ⟨by rw [St.box_fresh' l (Ne.symm hne)]; exact hb'.1, hb'.2⟩
      have := (h b hb1).2 b' hb2
      unfold Mx.setSt at *
      dsimp only at *
      rw [St.setBox_comm _ (Ne.symm hne)]; exact this
    | any => cases hok
    | wo => cases hok
    | ab => cases hok
    | x => cases hok
    | ce => cases hok
    | c0 => cases hok
    | bad => obtain ⟨b0, hb0⟩ := m.st.has_fresh; exact (h b0 hb0).elim
    | w => cases hok
    | a => cases hok
    | ci => cases hok
    | cp => cases hok
  | w b o sz cs =>
    obtain ⟨cells, e1, e2, e3, e4, h⟩ := h
    cases j with
    | n e => obtain ⟨u, e, h⟩ := h; exact ⟨u, e, cells, e1, e2, e3, e4, h⟩
    | s b' o' ag' sz' =>
      obtain ⟨c', f1, u, f2, f3, h⟩ := h
      exact ⟨c', f3 m.st (.inr rfl), u, f2, fun d hd => f3 d (.inl hd), cells, e1, e2, e3, holds_see.2 ⟨e4, f1⟩, h⟩
    | any => cases hok
    | wo => cases hok
    | ab => cases hok
    | x => cases hok
    | ce => cases hok
    | c0 => cases hok
    | bad => exact h
    | r => cases hok
    | f => cases hok
    | w => cases hok
    | a => cases hok
    | ci => cases hok
    | cp => cases hok
  | a sz bytes x news =>
    have h0 := h
    obtain ⟨hs, k⟩ := h
    cases j with
    | n e =>
      have hu : ∃ u, e = some u :=
        NF.step_const rfl (NF.step_mono (Q' := fun _ _ => ∃ u, e = some u) (fun v m1 (k : ∃ u, e = some u ∧ Q v u m1) => let ⟨u, e, _⟩ := k; ⟨u, e⟩) h0)
      obtain ⟨u, hu⟩ := hu
      refine ⟨u, hu, NF.step_mono (fun v m1 (k : ∃ u, e = some u ∧ Q v u m1) => ?_) h0⟩
      obtain ⟨u', e', k⟩ := k
      rw [hu] at e'; cases e'; exact k
    | r b' o' ag' sz' =>
      have hu : ∃ c' u, m.st.box b' = some c' ∧ ldv ag' sz' (c'.drop o') = some u := by
        obtain ⟨b0, hb0⟩ := m.st.has_fresh
        revert k
        split
        · rintro ⟨_, _, k⟩
          split at k
          · obtain ⟨c', f1, u, f2, _⟩ := k; exact ⟨c', u, f1, f2⟩
          · obtain ⟨c', f1, u, f2, _⟩ := k b0 0 hb0; exact ⟨c', u, f1, f2⟩
        · rintro ⟨_, _, _, ⟨c', f1, u, f2, _⟩, _⟩; exact ⟨c', u, f1, f2⟩
        · exact False.elim
      obtain ⟨c', u, f1, f2⟩ := hu
      refine ⟨c', f1, u, f2, hs, ?_⟩
      have fin : ∀ v st', st'.box = m.st.box → (∃ cells, st'.box b' = some cells ∧ ∃ w, ldv ag' sz' (cells.drop o') = some w ∧ Q v w (m.setSt st')) → Q v u (m.setSt st') := by
        rintro v st' hst ⟨c2, g1, w, g2, h'⟩
        rw [hst, f1] at g1; cases g1; rw [f2] at g2; cases g2; exact h'
      revert k
      split
      · rintro ⟨k1, k2, k⟩
        refine ⟨k1, k2, ?_⟩
        split
        · rename_i hn; rw [if_pos hn] at k; exact fin _ m.st rfl k
        · rename_i hn; rw [if_neg hn] at k; exact fun b2 cap' hb => fin _ _ rfl (k b2 cap' hb)
      · exact fun ⟨k1, k2, k3, k4, k⟩ => ⟨k1, k2, k3, fin _ _ rfl k4, fun b2 cap' hb => fin _ _ rfl (k b2 cap' hb)⟩
      · exact id
    | s b' o' ag' sz' =>
      have hu : ∃ c' u, m.st.box b' = some c' ∧ ldv ag' sz' (c'.drop o') = some u ∧ ∀ h, m.hist h → h.box b' = some c' := by
        obtain ⟨b0, hb0⟩ := m.st.has_fresh
        revert k
        split
        · rintro ⟨_, _, k⟩
          split at k
          · obtain ⟨c', f1, u, f2, f3, _⟩ := k; exact ⟨c', u, f1, f2, f3⟩
          · obtain ⟨c', f1, u, f2, f3, _⟩ := k b0 0 hb0; exact ⟨c', u, f1, f2, f3⟩
        · rintro ⟨_, _, _, ⟨c', f1, u, f2, f3, _⟩, _⟩; exact ⟨c', u, f1, f2, f3⟩
        · exact False.elim
      obtain ⟨c', u, f1, f2, f3⟩ := hu
      refine ⟨c', f1, u, f2, f3, hs, ?_⟩
      have fin : ∀ v st', st'.box = m.st.box → (∃ cells, st'.box b' = some cells ∧ ∃ w, ldv ag' sz' (cells.drop o') = some w ∧ (∀ h, m.hist h → h.box b' = some cells) ∧ Q v w ((m.setSt st').see b' cells)) →
          Q v u ((m.see b' c').setSt st') := by
        rintro v st' hst ⟨c2, g1, w, g2, _, h'⟩
        rw [hst, f1] at g1; cases g1; rw [f2] at g2; cases g2; exact h'
      revert k
      split
      · rintro ⟨k1, k2, k⟩
        refine ⟨k1, k2, ?_⟩
        split
        · rename_i hn; rw [if_pos hn] at k; exact fin _ m.st rfl k
        · rename_i hn; rw [if_neg hn] at k; exact fun b2 cap' hb => fin _ _ rfl (k b2 cap' hb)
      · exact fun ⟨k1, k2, k3, k4, k⟩ => ⟨k1, k2, k3, fin _ _ rfl k4, fun b2 cap' hb => fin _ _ rfl (k b2 cap' hb)⟩
      · exact id
    | any => cases hok
    | wo => cases hok
    | ab => cases hok
    | x => cases hok
    | ce => cases hok
    | c0 => cases hok
    | bad => exact NF.step_const rfl (c := False) h0
    | f => cases hok
    | w => cases hok
    | a => cases hok
    | ci => cases hok
    | cp => cases hok
  | ci g as =>
    obtain ⟨R, k1, ⟨q0, st0, hq0⟩, h⟩ := h
    cases j with
    | n e =>
      obtain ⟨_, u, e, _⟩ := h q0 st0 hq0
      refine ⟨u, e, R, k1, ⟨q0, st0, hq0⟩, fun q st' hq => ?_⟩
      obtain ⟨h1, u', e', h2⟩ := h q st' hq
      rw [e] at e'; cases e'; exact ⟨h1, h2⟩
    | s b' o' ag' sz' =>
      obtain ⟨_, c', f1, u, f2, f3, _⟩ := h q0 st0 hq0
      refine ⟨c', f3 m.st (.inr rfl), u, f2, fun d hd => f3 d (.inl hd), R, k1, ⟨q0, st0, hq0⟩, fun q st' hq => ?_⟩
      obtain ⟨h1, c2, g1, u2, g2, g3, h2⟩ := h q st' hq
      have : c2 = c' := by have a1 := g3 m.st (.inr rfl); have a2 := f3 m.st (.inr rfl); rw [a1] at a2; cases a2; rfl
      subst this
      rw [f2] at g2; cases g2
      exact ⟨holds_see.2 ⟨h1, g1⟩, h2⟩
    | any => cases hok
    | wo => cases hok
    | ab => cases hok
    | x => cases hok
    | ce => cases hok
    | c0 => cases hok
    | bad => exact (h q0 st0 hq0).2.elim
    | r => cases hok
    | f => cases hok
    | w => cases hok
    | a => cases hok
    | ci => cases hok
    | cp => cases hok
  | cp g as =>
    obtain ⟨R, k1, ⟨q0, hq0⟩, h⟩ := h
    cases j with
    | n e =>
      obtain ⟨u, e, _⟩ := h q0 hq0
      refine ⟨u, e, R, k1, ⟨q0, hq0⟩, fun q hq => ?_⟩
      obtain ⟨u', e', h2⟩ := h q hq
      rw [e] at e'; cases e'; exact h2
    | r b' o' ag' sz' =>
      obtain ⟨c', f1, u, f2, _⟩ := h q0 hq0
      refine ⟨c', f1, u, f2, R, k1, ⟨q0, hq0⟩, fun q hq => ?_⟩
      obtain ⟨c2, g1, u2, g2, h2⟩ := h q hq
      rw [f1] at g1; cases g1; rw [f2] at g2; cases g2; exact h2
    | s b' o' ag' sz' =>
      obtain ⟨c', f1, u, f2, f3, _⟩ := h q0 hq0
      refine ⟨c', f1, u, f2, f3, R, k1, ⟨q0, hq0⟩, fun q hq => ?_⟩
      obtain ⟨c2, g1, u2, g2, g3, h2⟩ := h q hq
      rw [f1] at g1; cases g1; rw [f2] at g2; cases g2; exact h2
    | f c l val =>
      refine ⟨(h q0 hq0).1, fun b hb => ⟨R, ?_, ⟨q0, hq0⟩, fun q hq => (h q hq).2 b hb⟩⟩
      exact hC.1 g as m.st R b l k1 hb
    | any => cases hok
    | wo => cases hok
    | ab => cases hok
    | x => cases hok
    | ce => cases hok
    | c0 => cases hok
    | bad => exact (h q0 hq0).elim
    | w => cases hok
    | a => cases hok
    | ci => cases hok
    | cp => cases hok

end Go.Pv
