/- Slices that grow, several beside one another, in variables too. No condition. -/
import Derived.Test.YtdggkhnelmonkaaDoorP20
namespace Go.Pv

/-- The block that a slice may grow in. -/
def AV.own? : AV → Option Nat
  | .own b _ _ => some b
  | _ => none
/-- A slice as it stands in a state. -/
def VecIn (t : St) (v : AV) (rows : List (List Dat)) (sz : Nat) : Prop := v = .full rows ∨ ∃ b cap, v = .own b rows cap ∧ t.tok b = some ⟨rows.length, cap, sz, none⟩
theorem VecIn.rows {t : St} {v : AV} {rows : List (List Dat)} {sz : Nat} (h : VecIn t v rows sz) : v.rows? = some rows := by
  rcases h with rfl | ⟨b, cap, rfl, _⟩ <;> rfl
theorem VecIn.weak {t : St} {v : AV} {rows : List (List Dat)} {sz : Nat} (h : VecIn t v rows sz) : v.weak = .d (.sl rows) := by
  rcases h with rfl | ⟨b, cap, rfl, _⟩ <;> rfl
theorem VecIn.cells {t : St} {v : AV} {rows : List (List Dat)} {sz : Nat} (h : VecIn t v rows sz) : v.cells = [v] := by
  rcases h with rfl | ⟨b, cap, rfl, _⟩ <;> rfl
theorem VecIn.sc {t : St} {v : AV} {rows : List (List Dat)} {sz : Nat} (h : VecIn t v rows sz) : v.sc = true := by
  rcases h with rfl | ⟨b, cap, rfl, _⟩ <;> rfl
theorem VecIn.nil (t : St) (sz : Nat) : VecIn t (.full []) [] sz := .inl rfl
theorem VecIn.box {t : St} {v : AV} {rows : List (List Dat)} {sz b : Nat} {l : List AV} (h : VecIn t v rows sz) : VecIn (t.setBox b l) v rows sz := h

/-- Beside 'st': these slices grow, nothing else has turned among what grows. -/
structure Toks (st t : St) (vs : List AV) : Prop where
  same : ∀ c, (∀ v ∈ vs, v.own? ≠ some c) → t.tok c = st.tok c
  new : ∀ v ∈ vs, ∀ c, v.own? = some c → st.tok c = none ∧ st.box c = none
  live : ∀ v ∈ vs, ∀ c, v.own? = some c → t.tok c ≠ none
  apart : vs.Pairwise fun v u => ∀ c, v.own? = some c → u.own? ≠ some c
  dom : ∀ c l, st.box c = some l → t.box c ≠ none
theorem Toks.start (st : St) : Toks st st [] where
  same := fun _ _ => rfl
  new := fun _ h => by cases h
  live := fun _ h => by cases h
  apart := .nil
  dom := fun _ _ h k => by rw [h] at k; cases k
theorem Toks.full {st t : St} {vs : List AV} (h : Toks st t vs) (rows : List (List Dat)) : Toks st t (.full rows :: vs) := by
  refine ⟨fun c hc => h.same c fun v hv => hc v (List.mem_cons_of_mem _ hv), fun v hv c hc => ?_, fun v hv c hc => ?_, List.pairwise_cons.2 ⟨fun _ _ c hc => (by cases hc), h.apart⟩, h.dom⟩
  · rcases List.mem_cons.1 hv with rfl | hv
    · cases hc
    · exact h.new v hv c hc
  · rcases List.mem_cons.1 hv with rfl | hv
    · cases hc
    · exact h.live v hv c hc
theorem Toks.box {st t : St} {vs : List AV} (h : Toks st t vs) (b : Nat) (l : List AV) : Toks st (t.setBox b l) vs :=
  ⟨h.same, h.new, h.live, h.apart, fun c k hk => by
    rw [St.box_setBox]
    split
    · exact fun e => by cases e
    · exact h.dom c k hk⟩
theorem Toks.perm {st t : St} {vs us : List AV} (h : Toks st t vs) (hp : vs.Perm us) : Toks st t us :=
  ⟨fun c hc => h.same c fun v hv => hc v (hp.mem_iff.1 hv), fun v hv => h.new v (hp.mem_iff.2 hv), fun v hv => h.live v (hp.mem_iff.2 hv), (hp.pairwise_iff (fun hab c hc hc' => hab c hc' hc)).1 h.apart, h.dom⟩
theorem Toks.swap {st t : St} {v u : AV} {vs : List AV} (h : Toks st t (v :: u :: vs)) : Toks st t (u :: v :: vs) := h.perm (.swap _ _ _)
theorem Toks.le {st t : St} {vs : List AV} (h : Toks st t vs) (hb : ∀ c l, st.box c = some l → t.box c = some l) : st.le t :=
  ⟨hb, fun c k hk => by
    rw [h.same c ?_]
    · exact hk
    · intro v hv hc
      rw [(h.new v hv c hc).1] at hk
      cases hk⟩
/-- What another slice is stays. -/
theorem VecIn.stay {t t' : St} {v : AV} {rows : List (List Dat)} {sz : Nat} (h : VecIn t v rows sz) (hs : ∀ c, v.own? = some c → t'.tok c = t.tok c) : VecIn t' v rows sz := by
  rcases h with rfl | ⟨b, cap, rfl, hb⟩
  · exact .inl rfl
  · exact .inr ⟨b, cap, rfl, (hs b rfl).trans hb⟩

/-- Behind an append: the same variables, the same slices but this one. -/
structure Grew (st t t' : St) (v' : AV) (vs : List AV) : Prop where
  box : t'.box = t.box
  toks : Toks st t' (v' :: vs)
  others : ∀ u ∈ vs, ∀ c, u.own? = some c → t'.tok c = t.tok c
theorem Grew.stay {st t t' : St} {v' u : AV} {vs : List AV} (h : Grew st t t' v' vs) (hu : u ∈ vs) {rows : List (List Dat)} {sz : Nat} (k : VecIn t u rows sz) : VecIn t' u rows sz := k.stay (h.others u hu)

theorem grew_core {st t t' : St} {v : AV} {vs : List AV} {b cap : Nat} {rows : List (List Dat)} {k : Tok} (hT : Toks st t (v :: vs)) (hbox : t'.box = t.box) (hb : t'.tok b = some k)
    (ho : ∀ c, c ≠ b → v.own? ≠ some c → t'.tok c = t.tok c) (hd : ∀ c, c ≠ b → v.own? = some c → t'.tok c = none) (hn : v.own? = some b ∨ (t.tok b = none ∧ t.box b = none)) : Grew st t t' (.own b rows cap) vs := by
  have hp := List.pairwise_cons.1 hT.apart
  have hne : ∀ u ∈ vs, ∀ c, u.own? = some c → c ≠ b := by
    rintro u hu c hc rfl
    rcases hn with h | h
    · exact hp.1 u hu c h hc
    · exact hT.live u (List.mem_cons_of_mem _ hu) c hc h.1
  have hot : ∀ u ∈ vs, ∀ c, u.own? = some c → t'.tok c = t.tok c := fun u hu c hc => ho c (hne u hu c hc) fun h => hp.1 u hu c h hc
  refine ⟨hbox, ⟨fun c hc => ?_, fun u hu c hc => ?_, fun u hu c hc => ?_, List.pairwise_cons.2 ⟨fun u hu c hc hc' => ?_, hp.2⟩, fun c l hl => by rw [hbox]; exact hT.dom c l hl⟩, hot⟩
  · have h1 : c ≠ b := fun e => hc _ List.mem_cons_self (by rw [e]; rfl)
    by_cases hv : v.own? = some c
    · rw [hd c h1 hv, (hT.new v List.mem_cons_self c hv).1]
    · rw [ho c h1 hv]
      refine hT.same c fun u hu => ?_
      rcases List.mem_cons.1 hu with rfl | hu
      · exact hv
      · exact hc u (List.mem_cons_of_mem _ hu)
  · rcases List.mem_cons.1 hu with rfl | hu
    · cases hc
      rcases hn with h | h
      · exact hT.new v List.mem_cons_self b h
      · refine ⟨?_, ?_⟩
        · rw [← hT.same b fun u hu e => hT.live u hu b e h.1]; exact h.1
        · cases e : st.box b with
          | none => rfl
          | some l => exact absurd h.2 (hT.dom b l e)
    · exact hT.new u (List.mem_cons_of_mem _ hu) c hc
  · rcases List.mem_cons.1 hu with rfl | hu
    · cases hc
      rw [hb]; exact fun e => by cases e
    · rw [hot u hu c hc]; exact hT.live u (List.mem_cons_of_mem _ hu) c hc
  · cases hc
    exact hne u hu b hc' rfl

section
variable {G : Glob} {C : CallsP}
theorem po_appT {sz bytes : Nat} {x y : Arg} {d : Option Nat} {rest : List POper} {K : X → Prop} {s : Slots} {m : Mx} {st : St} {v : AV} {vs : List AV} {rows news : List (List Dat)} (hx : x.ev G s = v) (hT : Toks st m.st (v :: vs)) (hv : VecIn m.st v rows sz) (hy : (y.ev G s).rows? = some news)
    (hr : ∀ r ∈ rows, r.length = sz) (hn : ∀ r ∈ news, r.length = sz) (hfit : (rows.length + news.length) * bytes ≤ 140737488355328)
    (h : ∀ v' t', Grew st m.st t' v' vs → VecIn t' v' (rows ++ news) sz → pops G C rest K ⟨put s d v', m.setSt t'⟩) : pops G C (⟨d, .app sz bytes x y, none⟩ :: rest) K ⟨s, m⟩ := by
  have hp := List.pairwise_cons.1 hT.apart
  rw [pops_plain]
  unfold ostep
  simp only [nf, hx, hy]
  refine ⟨hn, ?_⟩
  rcases hv with rfl | ⟨b, cap, rfl, hb⟩
  · refine ⟨hr, hfit, ?_⟩
    split
    · rename_i hne
      subst hne
      rw [List.append_nil] at h
      exact h _ m.st ⟨rfl, hT, fun _ _ _ _ => rfl⟩ (.inl rfl)
    · intro b cap hfb
      refine h _ _ (grew_core hT rfl (by rw [St.tok_setTok, if_pos rfl]) (fun c hc _ => by rw [St.tok_setTok, if_neg hc]) (fun c _ e => by cases e) (.inr ⟨hfb.2, hfb.1⟩)) (.inr ⟨b, cap, rfl, ?_⟩)
      rw [St.tok_setTok, if_pos rfl, List.length_append]
  · refine ⟨hb, hr, hfit, ?_, ?_⟩
    · refine h _ _ (grew_core hT rfl (by rw [St.tok_setTok, if_pos rfl]) (fun c hc _ => by rw [St.tok_setTok, if_neg hc]) (fun c hc e => by cases e; exact absurd rfl hc) (.inl rfl)) (.inr ⟨b, cap, rfl, ?_⟩)
      rw [St.tok_setTok, if_pos rfl, List.length_append]
    · intro b' cap' hfb
      refine h _ _ (grew_core hT rfl (by rw [St.tok_setTok, if_pos rfl]) (fun c hc hno => ?_) (fun c hc e => ?_) ?_) (.inr ⟨b', cap', rfl, ?_⟩)
      · rw [St.tok_setTok, if_neg hc, St.tok_dropTok, if_neg (fun e => hno (by rw [e]; rfl))]
      · cases e
        rw [St.tok_setTok, if_neg hc, St.tok_dropTok, if_pos rfl]
      · exact .inr ⟨hfb.2, hfb.1⟩
      · rw [St.tok_setTok, if_pos rfl, List.length_append]
end
end Go.Pv
/- Operations that run under a condition that nobody knows yet. No condition. -/
namespace Go.Pv

/-- A value that is there if 'c'. -/
def gd (c : Bool) (v : AV) : AV := match c with | true => v | false => .tup []
theorem gd_true (v : AV) : gd true v = v := rfl
/-- Whether an operation runs. -/
def GW (s : Slots) (t : Nat) (b w : Bool) : Prop := wants s (some (t, b)) = some w
theorem wt0 {s : Slots} {t : Nat} {p : Bool} (h : s t = b2 p) : GW s t true p := by simp only [GW, wants, h, b2]; cases p <;> rfl
theorem wf0 {s : Slots} {t : Nat} {p : Bool} (h : s t = b2 p) : GW s t false (!p) := by simp only [GW, wants, h, b2]; cases p <;> rfl
theorem wt1 {s : Slots} {t : Nat} {c p : Bool} (h : s t = gd c (b2 p)) : GW s t true (c && p) := by cases c <;> cases p <;> simp [GW, wants, h, gd, b2]
theorem wf1 {s : Slots} {t : Nat} {c p : Bool} (h : s t = gd c (b2 p)) : GW s t false (c && !p) := by cases c <;> cases p <;> simp [GW, wants, h, gd, b2]

section
variable {G : Glob} {C : CallsP}
/-- What an operation gives, where it turns nothing. -/
def Does (G : Glob) (C : CallsP) (s : Slots) (m : Mx) (po : POp) (v : AV) : Prop := ∀ d rest K, pops G C rest K ⟨put s d v, m⟩ → pops G C (⟨d, po, none⟩ :: rest) K ⟨s, m⟩
theorem does_N {s : Slots} {m : Mx} {o : POp} {v : AV} (hN : o.isN = true) (hv : ev G s o = some v) : Does G C s m o v := fun _ _ _ k => po hN hv k
theorem does_load {s : Slots} {m : Mx} {ag : Bool} {sz : Nat} {x : Arg} {b o : Nat} {cells : List AV} {v : AV} (hx : x.ev G s = .d (.ptr b o)) (hb : m.st.box b = some cells) (hv : ldv ag sz (cells.drop o) = some v) : Does G C s m (.load ag sz x false) v := fun _ _ _ k => po_load hx hb hv k
theorem does_loadE {s : Slots} {m : Mx} {ag st : Bool} {sz : Nat} {x : Arg} {cells : List Dat} {v : AV} (hx : x.ev G s = .elt cells) (hv : ldv ag sz (cells.map .d) = some v) : Does G C s m (.load ag sz x st) v := fun _ _ _ k => po_loadE hx hv k
theorem does_lenM {α : Type} {f : α → List Dat} {s : Slots} {m : Mx} {x : Arg} {l : List α} (hx : x.ev G s = .d (.sl (l.map f))) : Does G C s m (.len x) (i64 l.length) := fun _ _ _ k => po_lenM hx k
theorem does_callp {s : Slots} {m : Mx} {f : FuncId} {args : List Arg} {as : List AV} {v : AV} (hargs : (args.map fun (p : Arg) => p.ev G s).map AV.weak = as) (hc : Pure C f as v) : Does G C s m (.callp f args) v := fun _ _ _ k => po_callp hargs hc k

theorem po_g {o : POp} {d : Option Nat} {t : Nat} {b w : Bool} {v : AV} {rest : List POper} {K : X → Prop} {s : Slots} {m : Mx} (hw : GW s t b w) (h1 : w = true → Does G C s m o v) (h : pops G C rest K ⟨put s d (gd w v), m⟩) :
    pops G C (⟨d, o, some (t, b)⟩ :: rest) K ⟨s, m⟩ := by
  rw [pops_guard]
  unfold GW at hw
  rw [hw]
  cases w with
  | true => exact h1 rfl d rest K h
  | false => exact h
theorem pcond_b {c : Arg} {a b : PCode} {Q : PEx → Slots → St → Prop} {s : Slots} {t : St} {p : Bool} (hc : c.ev G s = b2 p) (h1 : p = true → pwp G C a Q s t) (h2 : p = false → pwp G C b Q s t) : pwp G C (.cond c a b) Q s t := pcond hc h1 h2

/-- What a condition that holds says. -/
theorem pvw : (∀ a b : Bool, ((a && b) = true) = (a = true ∧ b = true)) ∧ (∀ b : Bool, ((!b) = true) = (b = false)) := ⟨fun a b => by simp, fun b => by simp⟩
/-- How conditional values are read. -/
theorem pvg : (∀ v : AV, gd true v = v) ∧ (∀ v : AV, gd false v = .tup []) ∧ (∀ (p : Bool) (a b : AV), (if p = true then gd p a else b) = if p = true then a else b) ∧ (∀ (p : Bool) (a b : AV), (if p = true then a else gd (!p) b) = if p = true then a else b) ∧
    (∀ (p : Bool) (a b : AV), (if (!p) = true then a else b) = if p = true then b else a) ∧ (∀ (p q : Bool), (if p = true then AV.d (.bool q) else AV.d (.bool false)) = AV.d (.bool (p && q))) ∧ (∀ (p q : Bool), (if p = true then AV.d (.bool true) else AV.d (.bool q)) = AV.d (.bool (p || q))) ∧
    (∀ (c p : Bool) (a b : AV), (if (c && p) = true then gd (c && p) a else b) = if (c && p) = true then a else b) ∧ (∀ p : Bool, (!!p) = p) ∧ (∀ (p q : Bool), (if p = true then AV.d (.bool q) else AV.d (.bool true)) = AV.d (.bool (!p || q))) ∧ (∀ (p q : Bool), (if p = true then AV.d (.bool false) else AV.d (.bool q)) = AV.d (.bool (!p && q))) :=
  ⟨fun _ => rfl, fun _ => rfl, fun p _ _ => by cases p <;> rfl, fun p _ _ => by cases p <;> rfl, fun p _ _ => by cases p <;> rfl, fun p _ => by cases p <;> rfl, fun p _ => by cases p <;> rfl, fun c p _ _ => by cases c <;> cases p <;> rfl, fun p => by cases p <;> rfl, fun p _ => by cases p <;> rfl, fun p _ => by cases p <;> rfl⟩
theorem pvc : (((∀ (G : Glob) (s : Slots) (n : Nat), (Arg.t n).ev G s = s n) ∧ (∀ (G : Glob) (s : Slots) (v : AV), (Arg.c v).ev G s = v) ∧ (∀ (s : Slots) (t : Nat) (v : AV), put s (some t) v t = v) ∧
    (∀ (s : Slots) (t u : Nat) (v : AV), u ≠ t → put s (some t) v u = s u) ∧ (∀ (s : Slots) (v : AV), put s none v = s) ∧ (∀ (m : Mx) (t : St), (m.setSt t).st = t) ∧ (∀ (m : Mx) (t : St), (m.past t).st = t) ∧
    (∀ (s : Slots) (t : St), (pX s t).sl = s) ∧ (∀ (s : Slots) (t : St), (pX s t).m.st = t) ∧ (∀ b : Bool, b2 b = .d (.bool b)) ∧ (!true) = false ∧ (!false) = true ∧ (∀ (i : Decidable True) (a b : AV), @ite AV True i a b = a) ∧ (∀ (i : Decidable False) (a b : AV), @ite AV False i a b = b) ∧
    (∀ (i : Decidable True) (a b : Bool), @ite Bool True i a b = a) ∧ (∀ (i : Decidable False) (a b : Bool), @ite Bool False i a b = b) ∧ (false = true) = False ∧ (true == true) = true ∧ (true == false) = false ∧ (false == true) = false ∧ (false == false) = true ∧ (∀ b : Bool, (b || true) = true) ∧ (∀ b : Bool, (b || false) = b) ∧ (∀ b : Bool, (true || b) = true) ∧ (∀ b : Bool, (false || b) = b) ∧ (∀ b : Bool, (b && true) = b) ∧ (∀ b : Bool, (b && false) = false) ∧ (∀ b : Bool, (true && b) = b) ∧ (∀ b : Bool, (false && b) = false) ∧ (∀ a : Int, (a == a) = true)) ∧
    ((∀ (x : Dat), (AV.d x).cells = [.d x]) ∧ (∀ (l : List AV), (AV.agg l).cells = l) ∧ (∀ (l : List (List Dat)), (AV.full l).cells = [.full l]) ∧ (∀ (l : List AV), List.take 0 l = []) ∧ (∀ (n : Nat) (x : AV) (l : List AV), List.take (n + 1) (x :: l) = x :: List.take n l) ∧
    (∀ (n : Nat), List.take n ([] : List AV) = []) ∧ (∀ (n : Nat), List.drop n ([] : List AV) = []) ∧ (∀ (l : List AV), List.drop 0 l = l) ∧ (∀ (n : Nat) (x : AV) (l : List AV), List.drop (n + 1) (x :: l) = List.drop n l) ∧
    (∀ (l : List AV), [] ++ l = l) ∧ (∀ (x : AV) (k l : List AV), (x :: k) ++ l = x :: (k ++ l)) ∧ (∀ (s : St) (b : Nat) (l k : List AV), (s.setBox b l).setBox b k = s.setBox b k) ∧
    (∀ (x : AV) (l : List AV), pinit (x :: l) 0 = x) ∧ (∀ (x : AV) (l : List AV) (n : Nat), pinit (x :: l) (n + 1) = pinit l n) ∧ (∀ n : Nat, 0 + n = n) ∧ (∀ n : Nat, n + 0 = n) ∧ (∀ i : Decidable True, @decide True i = true) ∧ (∀ i : Decidable False, @decide False i = false))) ∧
    ((∀ v : AV, gd true v = v) ∧ (∀ v : AV, gd false v = .tup []) ∧ (∀ (p : Bool) (a b : AV), (if p = true then gd p a else b) = if p = true then a else b) ∧ (∀ (p : Bool) (a b : AV), (if p = true then a else gd (!p) b) = if p = true then a else b) ∧
    (∀ (p : Bool) (a b : AV), (if (!p) = true then a else b) = if p = true then b else a) ∧ (∀ (p q : Bool), (if p = true then AV.d (.bool q) else AV.d (.bool false)) = AV.d (.bool (p && q))) ∧ (∀ (p q : Bool), (if p = true then AV.d (.bool true) else AV.d (.bool q)) = AV.d (.bool (p || q))) ∧
    (∀ (c p : Bool) (a b : AV), (if (c && p) = true then gd (c && p) a else b) = if (c && p) = true then a else b) ∧ (∀ p : Bool, (!!p) = p) ∧ (∀ (p q : Bool), (if p = true then AV.d (.bool q) else AV.d (.bool true)) = AV.d (.bool (!p || q))) ∧ (∀ (p q : Bool), (if p = true then AV.d (.bool false) else AV.d (.bool q)) = AV.d (.bool (!p && q)))) := ⟨pvb, pvg⟩
theorem po_pickS {c a b : Arg} {d : Option Nat} {rest : List POper} {K : X → Prop} {s : Slots} {m : Mx} {v : AV} (hv : ev G s (.pick c a b) = some v) (h : pops G C rest K ⟨put s d v, m⟩) : pops G C (⟨d, .pick c a b, none⟩ :: rest) K ⟨s, m⟩ := po rfl hv h
end
end Go.Pv
/- Loops whose variables come anew with each round. No condition. -/
namespace Go.Pv
theorem prangeL {G : Glob} {C : CallsP} {keep : Option (List Nat)} {id ti tc tx : Nat} {bnd : Arg} {body : PCode} {Q : PEx → Slots → St → Prop} {s : Slots} {t : St} (n : Nat) (hn : n < 2 ^ 63) (S : Nat → Slots) (T : St → Prop) (I : Nat → Prop) (hI : I 0)
    (h0 : trim keep s = S 0) (ht : T t) (hi : ∀ k, S k ti = i64 k) (hl : ∀ k, bnd.ev G (S k) = i64 n)
    (hend : ∀ t, T t → I n → Q .normal (put (S n) (some tc) (b2 false)) t)
    (hstep : ∀ k, k < n → ∀ t, T t → I k → pwp G C body (PEx.next (fun s' t' => I (k + 1) ∧ T t' ∧ s' ti = i64 k ∧ trim keep (put (put s' (some tx) (i64 ((k + 1 : Nat) : Int))) (some ti) (i64 ((k + 1 : Nat) : Int))) = S (k + 1)) (PEx.inBlock id Q)) (put (S k) (some tc) (b2 true)) t) :
    pwp G C (.block id (.loop keep (.seq (.region [⟨some tc, .bin .lss (.t ti) bnd, none⟩]) (.seq (.cond (.t tc) .skip (.exit id)) (.seq body (.region [⟨some tx, .bin .add (.t ti) (.c (.d (.int .i64 1))), none⟩, ⟨some ti, .mov (.t tx), none⟩])))))) Q s t := by
  refine prange' n hn (fun k s t => s = S k ∧ T t ∧ I k) ⟨h0, ht, hI⟩ (fun k s t _ h => by rw [h.1]; exact hi k) (fun k s t _ h => by rw [h.1]; exact hl k) ?_ ?_
  · rintro s t ⟨rfl, h1, h2⟩; exact hend t h1 h2
  · rintro k hk s t ⟨rfl, h1, h2⟩
    refine pwp_mono ?_ (hstep k hk t h1 h2)
    rintro e s' t' he
    cases e with
    | normal => exact ⟨he.2.2.1, he.2.2.2, he.2.1, he.1⟩
    | exit j => exact he
    | ret => exact he
section
variable {G : Glob} {C : CallsP}
theorem po_nilE {neg : Bool} {x : Arg} {d : Option Nat} {rest : List POper} {K : X → Prop} {s : Slots} {m : Mx} (hx : x.ev G s = .d (.sl [])) (h : ∀ b : Bool, pops G C rest K ⟨put s d (b2 b), m⟩) : pops G C (⟨d, .isNilS neg x, none⟩ :: rest) K ⟨s, m⟩ := by
  rw [pops_plain]
  unfold ostep
  simp only [nf, hx]
  exact h
theorem po_nilS {neg : Bool} {x : Arg} {d : Option Nat} {rest : List POper} {K : X → Prop} {s : Slots} {m : Mx} {v : AV} {b : Bool} (hx : x.ev G s = v) (hv : nilEv 1 v = some b) (h : pops G C rest K ⟨put s d (b2 (if neg then !b else b)), m⟩) : pops G C (⟨d, .isNilS neg x, none⟩ :: rest) K ⟨s, m⟩ := by
  rw [pops_plain]
  unfold ostep
  simp only [nf, hx]
  split
  · cases hv
  · exact ⟨_, by rw [hv]; rfl, h⟩
/-- A call that turns the state. -/
theorem po_callS {f : FuncId} {args : List Arg} {d : Option Nat} {rest : List POper} {K : X → Prop} {s : Slots} {m : Mx} {as : List AV} (hargs : (args.map fun (p : Arg) => p.ev G s).map AV.weak = as) {R : AV → St → Prop}
    (hc : C f as m.st R) (hne : ∀ L : List Nat, (∀ b ∈ L, m.st.fresh b) → ∃ r st', R r st' ∧ ∀ b ∈ L, st'.fresh b) (h : ∀ r st', R r st' → pops G C rest K ⟨put s d r, m.setSt st'⟩) : pops G C (⟨d, .call0 f args, none⟩ :: rest) K ⟨s, m⟩ := by
  rw [pops_plain]
  unfold ostep
  simp only [nf, hargs]
  exact ⟨R, hc, hne, h⟩
theorem po_callvS {x : Arg} {f : FuncId} {first caps : List Dat} {args : List Arg} {d : Option Nat} {rest : List POper} {K : X → Prop} {s : Slots} {m : Mx} {as : List AV} (hx : x.ev G s = .d (.fn f first caps))
    (hargs : first.map .d ++ ((args.map fun (p : Arg) => p.ev G s).map AV.weak) ++ caps.map .d = as) {R : AV → St → Prop} (hc : C f as m.st R) (hne : ∀ L : List Nat, (∀ b ∈ L, m.st.fresh b) → ∃ r st', R r st' ∧ ∀ b ∈ L, st'.fresh b)
    (h : ∀ r st', R r st' → pops G C rest K ⟨put s d r, m.setSt st'⟩) : pops G C (⟨d, .callv0 x args, none⟩ :: rest) K ⟨s, m⟩ := by
  rw [pops_plain]
  unfold ostep
  simp only [nf, hx, hargs]
  exact ⟨R, hc, hne, h⟩
theorem does_call0 {s : Slots} {m : Mx} {f : FuncId} {args : List Arg} {as : List AV} {v : AV} (hargs : (args.map fun (p : Arg) => p.ev G s).map AV.weak = as) (hc : Pure C f as v) : Does G C s m (.call0 f args) v := fun _ _ _ k => po_call hargs hc (fun _ _ h => False.elim h) k
end
theorem ne_fresh {t : St} {b c : Nat} {l : List AV} (h : t.box b = some l) (hc : t.fresh c) : b ≠ c := fun e => by
  rw [e, hc.1] at h
  cases h
theorem fresh_le {s t : St} {b : Nat} (h : s.le t) (hb : t.fresh b) : s.fresh b := by
  constructor
  · cases e : s.box b with
    | none => rfl
    | some l => have := h.box _ _ e; rw [hb.1] at this; cases this
  · cases e : s.tok b with
    | none => rfl
    | some l => have := h.tok _ _ e; rw [hb.2] at this; cases this
end Go.Pv
