/- Slices that grow, several beside one another, in variables too. No condition. -/
import Derived.Test.YtmkfohiocklkoaaDoorP22
namespace Go.Pv

/-- The block that a slice may grow in. -/
def AV.own? : AV → Option Nat
  | .own b _ _ => some b
  | _ => none
/-- A slice as it stands in a state. -/
def VecIn (t : St) (v : AV) (rows : List (List Dat)) (sz : Nat) : Prop := v = .full rows ∨ ∃ b cap, v = .own b rows cap ∧ t.tok b = some ⟨rows.length, cap, sz⟩
theorem VecIn.rows {t : St} {v : AV} {rows : List (List Dat)} {sz : Nat} (h : VecIn t v rows sz) : v.rows? = some rows := by
  rcases h with rfl | ⟨b, cap, rfl, _⟩ <;> rfl
theorem VecIn.weak {t : St} {v : AV} {rows : List (List Dat)} {sz : Nat} (h : VecIn t v rows sz) : v.weak = .d (.sl rows) := by
  rcases h with rfl | ⟨b, cap, rfl, _⟩ <;> rfl
theorem VecIn.cells {t : St} {v : AV} {rows : List (List Dat)} {sz : Nat} (h : VecIn t v rows sz) : v.cells = [v] := by
  rcases h with rfl | ⟨b, cap, rfl, _⟩ <;> rfl
theorem VecIn.sc {t : St} {v : AV} {rows : List (List Dat)} {sz : Nat} (h : VecIn t v rows sz) : v.sc = true := by
  rcases h with rfl | ⟨b, cap, rfl, _⟩ <;> rfl
theorem VecIn.nil (t : St) (sz : Nat) : VecIn t (.full []) [] sz := .inl rfl
theorem VecIn.box {t : St} {v : AV} {rows : List (List Dat)} {sz b : Nat} {l : List AV} (h : VecIn t v rows sz) : VecIn (t.setBox b l) v rows sz := h

/-- Beside 'st': these slices grow, nothing else has turned among what grows. -/
structure Toks (st t : St) (vs : List AV) : Prop where
  same : ∀ c, (∀ v ∈ vs, v.own? ≠ some c) → t.tok c = st.tok c
  new : ∀ v ∈ vs, ∀ c, v.own? = some c → st.tok c = none ∧ st.box c = none
  live : ∀ v ∈ vs, ∀ c, v.own? = some c → t.tok c ≠ none
  apart : vs.Pairwise fun v u => ∀ c, v.own? = some c → u.own? ≠ some c
  dom : ∀ c l, st.box c = some l → t.box c ≠ none
theorem Toks.start (st : St) : Toks st st [] where
  same := fun _ _ => rfl
  new := fun _ h => by cases h
  live := fun _ h => by cases h
  apart := .nil
  dom := fun _ _ h k => by rw [h] at k; cases k
theorem Toks.full {st t : St} {vs : List AV} (h : Toks st t vs) (rows : List (List Dat)) : Toks st t (.full rows :: vs) := by
  refine ⟨fun c hc => h.same c fun v hv => hc v (List.mem_cons_of_mem _ hv), fun v hv c hc => ?_, fun v hv c hc => ?_, List.pairwise_cons.2 ⟨fun _ _ c hc => (by cases hc), h.apart⟩, h.dom⟩
  · rcases List.mem_cons.1 hv with rfl | hv
    · cases hc
    · exact h.new v hv c hc
  · rcases List.mem_cons.1 hv with rfl | hv
    · cases hc
    · exact h.live v hv c hc
theorem Toks.box {st t : St} {vs : List AV} (h : Toks st t vs) (b : Nat) (l : List AV) : Toks st (t.setBox b l) vs :=
  ⟨h.same, h.new, h.live, h.apart, fun c k hk => by
    rw [St.box_setBox]
    split
    · exact fun e => by cases e
    · exact h.dom c k hk⟩
theorem Toks.perm {st t : St} {vs us : List AV} (h : Toks st t vs) (hp : vs.Perm us) : Toks st t us :=
  ⟨fun c hc => h.same c fun v hv => hc v (hp.mem_iff.1 hv), fun v hv => h.new v (hp.mem_iff.2 hv), fun v hv => h.live v (hp.mem_iff.2 hv), (hp.pairwise_iff (fun hab c hc hc' => hab c hc' hc)).1 h.apart, h.dom⟩
theorem Toks.swap {st t : St} {v u : AV} {vs : List AV} (h : Toks st t (v :: u :: vs)) : Toks st t (u :: v :: vs) := h.perm (.swap _ _ _)
theorem Toks.le {st t : St} {vs : List AV} (h : Toks st t vs) (hb : ∀ c l, st.box c = some l → t.box c = some l) : st.le t :=
  ⟨hb, fun c k hk => by
    rw [h.same c ?_]
    · exact hk
    · intro v hv hc
      rw [(h.new v hv c hc).1] at hk
      cases hk⟩
/-- What another slice is stays. -/
theorem VecIn.stay {t t' : St} {v : AV} {rows : List (List Dat)} {sz : Nat} (h : VecIn t v rows sz) (hs : ∀ c, v.own? = some c → t'.tok c = t.tok c) : VecIn t' v rows sz := by
  rcases h with rfl | ⟨b, cap, rfl, hb⟩
  · exact .inl rfl
  · exact .inr ⟨b, cap, rfl, (hs b rfl).trans hb⟩

/-- Behind an append: the same variables, the same slices but this one. -/
structure Grew (st t t' : St) (v' : AV) (vs : List AV) : Prop where
  box : t'.box = t.box
  toks : Toks st t' (v' :: vs)
  others : ∀ u ∈ vs, ∀ c, u.own? = some c → t'.tok c = t.tok c
theorem Grew.stay {st t t' : St} {v' u : AV} {vs : List AV} (h : Grew st t t' v' vs) (hu : u ∈ vs) {rows : List (List Dat)} {sz : Nat} (k : VecIn t u rows sz) : VecIn t' u rows sz := k.stay (h.others u hu)

theorem grew_core {st t t' : St} {v : AV} {vs : List AV} {b cap : Nat} {rows : List (List Dat)} {k : Tok} (hT : Toks st t (v :: vs)) (hbox : t'.box = t.box) (hb : t'.tok b = some k)
    (ho : ∀ c, c ≠ b → v.own? ≠ some c → t'.tok c = t.tok c) (hd : ∀ c, c ≠ b → v.own? = some c → t'.tok c = none) (hn : v.own? = some b ∨ (t.tok b = none ∧ t.box b = none)) : Grew st t t' (.own b rows cap) vs := by
  have hp := List.pairwise_cons.1 hT.apart
  have hne : ∀ u ∈ vs, ∀ c, u.own? = some c → c ≠ b := by
    rintro u hu c hc rfl
    rcases hn with h | h
    · exact hp.1 u hu c h hc
    · exact hT.live u (List.mem_cons_of_mem _ hu) c hc h.1
  have hot : ∀ u ∈ vs, ∀ c, u.own? = some c → t'.tok c = t.tok c := fun u hu c hc => ho c (hne u hu c hc) fun h => hp.1 u hu c h hc
  refine ⟨hbox, ⟨fun c hc => ?_, fun u hu c hc => ?_, fun u hu c hc => ?_, List.pairwise_cons.2 ⟨fun u hu c hc hc' => ?_, hp.2⟩, fun c l hl => by rw [hbox]; exact hT.dom c l hl⟩, hot⟩
  · have h1 : c ≠ b := fun e => hc _ List.mem_cons_self (by rw [e]; rfl)
    by_cases hv : v.own? = some c
    · rw [hd c h1 hv, (hT.new v List.mem_cons_self c hv).1]
    · rw [ho c h1 hv]
      refine hT.same c fun u hu => ?_
      rcases List.mem_cons.1 hu with rfl | hu
      · exact hv
      · exact hc u (List.mem_cons_of_mem _ hu)
  · rcases List.mem_cons.1 hu with rfl | hu
    · cases hc
      rcases hn with h | h
      · exact hT.new v List.mem_cons_self b h
      · refine ⟨?_, ?_⟩
        · rw [← hT.same b fun u hu e => hT.live u hu b e h.1]; exact h.1
        · cases e : st.box b with
          | none => rfl
          | some l => exact absurd h.2 (hT.dom b l e)
    · exact hT.new u (List.mem_cons_of_mem _ hu) c hc
  · rcases List.mem_cons.1 hu with rfl | hu
    · cases hc
      rw [hb]; exact fun e => by cases e
    · rw [hot u hu c hc]; exact hT.live u (List.mem_cons_of_mem _ hu) c hc
  · cases hc
    exact hne u hu b hc' rfl

section
variable {G : Glob} {C : CallsP}
theorem po_appT {sz bytes : Nat} {x y : Arg} {d : Option Nat} {rest : List POper} {K : X → Prop} {s : Slots} {m : Mx} {st : St} {v : AV} {vs : List AV} {rows news : List (List Dat)} (hx : x.ev G s = v) (hT : Toks st m.st (v :: vs)) (hv : VecIn m.st v rows sz) (hy : (y.ev G s).rows? = some news)
    (hr : ∀ r ∈ rows, r.length = sz) (hn : ∀ r ∈ news, r.length = sz) (hfit : (rows.length + news.length) * bytes ≤ 140737488355328)
    (h : ∀ v' t', Grew st m.st t' v' vs → VecIn t' v' (rows ++ news) sz → pops G C rest K ⟨put s d v', m.setSt t'⟩) : pops G C (⟨d, .app sz bytes x y, none⟩ :: rest) K ⟨s, m⟩ := by
  have hp := List.pairwise_cons.1 hT.apart
  rw [pops_plain]
  unfold ostep
  simp only [nf, hx, hy]
  refine ⟨hn, ?_⟩
  rcases hv with rfl | ⟨b, cap, rfl, hb⟩
  · refine ⟨hr, hfit, ?_⟩
    split
    · rename_i hne
      subst hne
      rw [List.append_nil] at h
      exact h _ m.st ⟨rfl, hT, fun _ _ _ _ => rfl⟩ (.inl rfl)
    · intro b cap hfb
      refine h _ _ (grew_core hT rfl (by rw [St.tok_setTok, if_pos rfl]) (fun c hc _ => by rw [St.tok_setTok, if_neg hc]) (fun c _ e => by cases e) (.inr ⟨hfb.2, hfb.1⟩)) (.inr ⟨b, cap, rfl, ?_⟩)
      rw [St.tok_setTok, if_pos rfl, List.length_append]
  · refine ⟨hb, hr, hfit, ?_, ?_⟩
    · refine h _ _ (grew_core hT rfl (by rw [St.tok_setTok, if_pos rfl]) (fun c hc _ => by rw [St.tok_setTok, if_neg hc]) (fun c hc e => by cases e; exact absurd rfl hc) (.inl rfl)) (.inr ⟨b, cap, rfl, ?_⟩)
      rw [St.tok_setTok, if_pos rfl, List.length_append]
    · intro b' cap' hfb
      refine h _ _ (grew_core hT rfl (by rw [St.tok_setTok, if_pos rfl]) (fun c hc hno => ?_) (fun c hc e => ?_) ?_) (.inr ⟨b', cap', rfl, ?_⟩)
      · rw [St.tok_setTok, if_neg hc, St.tok_dropTok, if_neg (fun e => hno (by rw [e]; rfl))]
      · cases e
        rw [St.tok_setTok, if_neg hc, St.tok_dropTok, if_pos rfl]
      · exact .inr ⟨hfb.2, hfb.1⟩
      · rw [St.tok_setTok, if_pos rfl, List.length_append]
end
end Go.Pv
