/- A state as a list of what stands in it. No condition. -/
import Derived.Test.YtdggkhnelmonkaaDoorP23
namespace Go.Pv

/-- What stands in a state: a variable; a slice that may grow. -/
inductive Item where
  | box (b : Nat) (cells : List AV)
  | vec (v : AV) (rows : List (List Dat)) (sz : Nat)
  | tk (b : Nat) (k : Tok)

def Item.blk : Item → Option Nat
  | .box b _ => some b
  | .vec v _ _ => v.own?
  | .tk b _ => some b
def Item.ok (t : St) : Item → Prop
  | .box b cells => t.box b = some cells
  | .vec v rows sz => VecIn t v rows sz
  | .tk b k => t.tok b = some k

/-- A state holds what 'st' holds, and beside it these. -/
structure Lay (st : St) (L : List Item) (t : St) : Prop where
  le : st.le t
  ok : ∀ x ∈ L, x.ok t
  new : ∀ x ∈ L, ∀ b, x.blk = some b → st.fresh b
  apart : L.Pairwise fun x y => ∀ b, x.blk = some b → y.blk ≠ some b

theorem Item.live {t : St} {x : Item} (h : x.ok t) {b : Nat} (hb : x.blk = some b) : ¬ t.fresh b := by
  rintro ⟨h1, h2⟩
  cases x with
  | box c cells =>
    cases hb
    rw [show t.box b = some cells from h] at h1
    cases h1
  | vec v rows sz =>
    rcases h with rfl | ⟨c, cap, rfl, hc⟩
    · cases hb
    · cases hb
      rw [hc] at h2
      cases h2
  | tk c k =>
    cases hb
    rw [show t.tok b = some k from h] at h2
    cases h2

theorem Lay.nil (st : St) : Lay st [] st := ⟨.refl _, fun _ h => (by cases h), fun _ h => (by cases h), .nil⟩
theorem Lay.perm {st t : St} {L K : List Item} (h : Lay st L t) (hp : L.Perm K) : Lay st K t :=
  ⟨h.le, fun x hx => h.ok x (hp.mem_iff.2 hx), fun x hx => h.new x (hp.mem_iff.2 hx), (hp.pairwise_iff (fun hab b hb hb' => hab b hb' hb)).1 h.apart⟩
theorem Lay.left {st t : St} {A B : List Item} (h : Lay st (A ++ B) t) : Lay st A t :=
  ⟨h.le, fun x hx => h.ok x (List.mem_append_left _ hx), fun x hx => h.new x (List.mem_append_left _ hx), (List.pairwise_append.1 h.apart).1⟩
theorem Lay.tail {st t : St} {x : Item} {L : List Item} (h : Lay st (x :: L) t) : Lay st L t :=
  ⟨h.le, fun y hy => h.ok y (List.mem_cons_of_mem _ hy), fun y hy => h.new y (List.mem_cons_of_mem _ hy), (List.pairwise_cons.1 h.apart).2⟩
theorem Lay.head {st t : St} {x : Item} {L : List Item} (h : Lay st (x :: L) t) : x.ok t := h.ok x List.mem_cons_self

theorem Lay.alloc {st t : St} {L : List Item} (h : Lay st L t) {b : Nat} (hb : t.fresh b) (cells : List AV) : Lay st (.box b cells :: L) (t.setBox b cells) where
  le := h.le.setBox _ (fresh_le h.le hb).1
  ok := fun x hx => by
    rcases List.mem_cons.1 hx with rfl | hx
    · exact if_pos rfl
    · have hx' := h.ok x hx
      cases x with
      | box c l => exact (if_neg (ne_fresh hx' hb)).trans hx'
      | vec v rows sz => exact VecIn.box hx'
      | tk c k => exact hx'
  new := fun x hx c hc => by
    rcases List.mem_cons.1 hx with rfl | hx
    · cases hc; exact fresh_le h.le hb
    · exact h.new x hx c hc
  apart := List.pairwise_cons.2 ⟨fun y hy c hc hy' => by cases hc; exact Item.live (h.ok y hy) hy' hb, h.apart⟩

theorem Lay.newTk {st t : St} {L : List Item} (h : Lay st L t) {b : Nat} (hb : t.fresh b) (k : Tok) : Lay st (.tk b k :: L) (t.setTok b k) where
  le := h.le.setTok _ (fresh_le h.le hb).2
  ok := fun x hx => by
    rcases List.mem_cons.1 hx with rfl | hx
    · exact if_pos rfl
    · have hx' := h.ok x hx
      have hne : ∀ c, x.blk = some c → c ≠ b := fun c e e' => Item.live hx' e (by rw [e']; exact hb)
      cases x with
      | box c l => exact hx'
      | vec v rows sz =>
        rcases hx' with rfl | ⟨c, cp, rfl, hc⟩
        · exact .inl rfl
        · exact .inr ⟨c, cp, rfl, (if_neg (hne c rfl)).trans hc⟩
      | tk c q => exact (if_neg (hne c rfl)).trans hx'
  new := fun x hx c hc => by
    rcases List.mem_cons.1 hx with rfl | hx
    · cases hc; exact fresh_le h.le hb
    · exact h.new x hx c hc
  apart := List.pairwise_cons.2 ⟨fun y hy c hc hy' => by cases hc; exact Item.live (h.ok y hy) hy' hb, h.apart⟩
theorem Lay.turnTk {st t : St} {L : List Item} {b : Nat} {k : Tok} (h : Lay st (.tk b k :: L) t) (q : Tok) : Lay st (.tk b q :: L) (t.setTok b q) := by
  have hp := List.pairwise_cons.1 h.apart
  have hf := h.new _ List.mem_cons_self b rfl
  refine ⟨h.le.setTok _ hf.2, fun x hx => ?_, fun x hx c hc => ?_, List.pairwise_cons.2 ⟨fun y hy c hc => ?_, hp.2⟩⟩
  · rcases List.mem_cons.1 hx with rfl | hx
    · exact if_pos rfl
    · have hx' := h.ok x (List.mem_cons_of_mem _ hx)
      have hne : ∀ c, x.blk = some c → c ≠ b := fun c e e' => hp.1 x hx b rfl (by rw [e, e'])
      cases x with
      | box c l => exact hx'
      | vec v rows sz =>
        rcases hx' with rfl | ⟨c, cp, rfl, hc⟩
        · exact .inl rfl
        · exact .inr ⟨c, cp, rfl, (if_neg (hne c rfl)).trans hc⟩
      | tk c r => exact (if_neg (hne c rfl)).trans hx'
  · rcases List.mem_cons.1 hx with rfl | hx
    · cases hc; exact hf
    · exact h.new x (List.mem_cons_of_mem _ hx) c hc
  · cases hc; exact hp.1 y hy b rfl

theorem Lay.store {st t : St} {L : List Item} {b : Nat} {l : List AV} (h : Lay st (.box b l :: L) t) (k : List AV) : Lay st (.box b k :: L) (t.setBox b k) := by
  have hp := List.pairwise_cons.1 h.apart
  have hf := h.new _ List.mem_cons_self b rfl
  refine ⟨h.le.setBox _ hf.1, fun x hx => ?_, fun x hx c hc => ?_, List.pairwise_cons.2 ⟨fun y hy c hc => ?_, hp.2⟩⟩
  · rcases List.mem_cons.1 hx with rfl | hx
    · exact if_pos rfl
    · have hx' := h.ok x (List.mem_cons_of_mem _ hx)
      cases x with
      | box c l' => exact (if_neg (fun e => hp.1 _ hx b rfl (by rw [← e]; rfl))).trans hx'
      | vec v rows sz => exact VecIn.box hx'
      | tk c k => exact hx'
  · rcases List.mem_cons.1 hx with rfl | hx
    · cases hc; exact hf
    · exact h.new x (List.mem_cons_of_mem _ hx) c hc
  · cases hc; exact hp.1 y hy b rfl

/-- A list without one. -/
inductive Rem : Item → List Item → List Item → Prop where
  | head {x : Item} {L : List Item} : Rem x (x :: L) L
  | tail {x y : Item} {L K : List Item} (h : Rem x L K) : Rem x (y :: L) (y :: K)
theorem Rem.perm {x : Item} {L K : List Item} (h : Rem x L K) : L.Perm (x :: K) := by
  induction h with
  | head => exact .refl _
  | tail _ ih => exact (ih.cons _).trans (.swap _ _ _)
theorem Lay.rem {st t : St} {x : Item} {L K : List Item} (h : Lay st L t) (hr : Rem x L K) : Lay st (x :: K) t := h.perm hr.perm
theorem Lay.get {st t : St} {x : Item} {L K : List Item} (h : Lay st L t) (hr : Rem x L K) : x.ok t := (h.rem hr).head
theorem Lay.bx {st t : St} {b : Nat} {l : List AV} {L K : List Item} (h : Lay st L t) (hr : Rem (.box b l) L K) : t.box b = some l := h.get hr
theorem Lay.drop {st t : St} {x : Item} {L K : List Item} (h : Lay st L t) (hr : Rem x L K) : Lay st K t := (h.rem hr).tail
/-- Some of a list, and the rest. -/
inductive Pick : List Item → List Item → List Item → Prop where
  | nil {L : List Item} : Pick L [] L
  | cons {x : Item} {L K P R : List Item} (h : Rem x L K) (k : Pick K P R) : Pick L (x :: P) R
theorem Pick.perm {L P R : List Item} (h : Pick L P R) : L.Perm (P ++ R) := by
  induction h with
  | nil => exact .refl _
  | cons h _ ih => exact h.perm.trans (ih.cons _)
theorem Lay.pick {st t : St} {L P R : List Item} (h : Lay st L t) (hp : Pick L P R) : Lay st P t := (h.perm hp.perm).left
theorem Pick.all {L : List Item} : Pick L L [] := by
  induction L with
  | nil => exact .nil
  | cons x L ih => exact .cons .head ih

/-- A slice that is there. -/
theorem Lay.full {st t : St} {L : List Item} (h : Lay st L t) (rows : List (List Dat)) (sz : Nat) : Lay st (.vec (.full rows) rows sz :: L) t :=
  ⟨h.le, fun x hx => by
    rcases List.mem_cons.1 hx with rfl | hx
    · exact .inl rfl
    · exact h.ok x hx, fun x hx c hc => by
    rcases List.mem_cons.1 hx with rfl | hx
    · cases hc
    · exact h.new x hx c hc, List.pairwise_cons.2 ⟨fun _ _ c hc => (by cases hc), h.apart⟩⟩
theorem Lay.vecs {st t : St} {L K : List Item} {v : AV} {rows : List (List Dat)} {sz : Nat} (h : Lay st L t) (hr : Rem (.vec v rows sz) L K) : VecIn t v rows sz := h.get hr

/-- What is known of a slice, whatever it is. -/
structure VF (v : AV) (l : List (List Dat)) : Prop where
  rows : v.rows? = some l
  weak : v.weak = .d (.sl l)
  weak1 : v.weak1 = .d (.sl l)
  cells : v.cells = [v]
  sc : v.sc = true
  dat : v.dat? = some (.sl l)
theorem VecIn.vf {t : St} {v : AV} {rows : List (List Dat)} {sz : Nat} (h : VecIn t v rows sz) : VF v rows := by
  rcases h with rfl | ⟨b, cap, rfl, _⟩ <;> exact ⟨rfl, rfl, rfl, rfl, rfl, rfl⟩
theorem Lay.vf {st t : St} {L K : List Item} {v : AV} {rows : List (List Dat)} {sz : Nat} (h : Lay st L t) (hr : Rem (.vec v rows sz) L K) : VF v rows := VecIn.vf (h.get hr)
theorem VF.full (rows : List (List Dat)) : VF (.full rows) rows := ⟨rfl, rfl, rfl, rfl, rfl, rfl⟩
theorem VF.d (rows : List (List Dat)) : VF (.d (.sl rows)) rows := ⟨rfl, rfl, rfl, rfl, rfl, rfl⟩

theorem St.fresh_other {t : St} {b c : Nat} {k : Tok} (hb : t.fresh b) (h : t.tok c = some k) : c ≠ b := fun e => by rw [e, hb.2] at h; cases h

/-- More cells. -/
theorem pvi : (∀ n : Int, (i64 n).cells = [i64 n]) ∧ (∀ b : Nat, (ptrAt b).cells = [ptrAt b]) ∧ (∀ b : Bool, (b2 b).cells = [b2 b]) ∧ (∀ (α : Type), ([] : List α).reverse = []) ∧ (∀ (α : Type) (x : α) (l : List α), (x :: l).reverse = l.reverse ++ [x]) ∧ (∀ (α : Type) (l : List α), [] ++ l = l) ∧ (∀ (α : Type) (x : α) (k l : List α), (x :: k) ++ l = x :: (k ++ l)) :=
  ⟨fun _ => rfl, fun _ => rfl, fun _ => rfl, fun _ => rfl, fun _ _ _ => List.reverse_cons, fun _ _ => rfl, fun _ _ _ _ => rfl⟩
theorem pblockS {G : Glob} {C : CallsP} {id : Nat} {a b : PCode} {Q : PEx → Slots → St → Prop} {s : Slots} {t : St} (h : pwp G C (.seq a b) (PEx.inBlock id Q) s t) : pwp G C (.block id (.seq a b)) Q s t := h
/-- One cell. -/
theorem pvs : (∀ x : Dat, (AV.d x).sc = true) ∧ (∀ l, (AV.full l).sc = true) ∧ (∀ b l c, (AV.own b l c).sc = true) ∧ (∀ b o l c, (AV.bsl b o l c).sc = true) ∧ (∀ n, (i64 n).sc = true) ∧ (∀ n, (ptrAt n).sc = true) ∧ (∀ n, (b2 n).sc = true) ∧ (∀ (x : AV) (l : List AV), (x :: l).all AV.sc = (x.sc && l.all AV.sc)) ∧ ([] : List AV).all AV.sc = true ∧ (true && true) = true := ⟨fun _ => rfl, fun _ => rfl, fun _ _ _ => rfl, fun _ _ _ _ => rfl, fun _ => rfl, fun _ => rfl, fun _ => rfl, fun _ _ => rfl, rfl, rfl⟩
/-- Without the right to grow. -/
theorem pvwk : (∀ l : List AV, (AV.agg l).weak = .agg (l.map AV.weak1)) ∧ (∀ x : Dat, (AV.d x).weak1 = .d x) ∧ (∀ l, (AV.full l).weak1 = .d (.sl l)) ∧ (∀ b l c, (AV.own b l c).weak1 = .d (.sl l)) ∧ (∀ n, (i64 n).weak1 = i64 n) ∧ (∀ n, (ptrAt n).weak1 = ptrAt n) ∧ (∀ n, (b2 n).weak1 = b2 n) ∧ (∀ x : Dat, (AV.d x).weak = .d x) ∧ (∀ l, (AV.full l).weak = .d (.sl l)) ∧ (∀ l : List AV, (AV.tup l).weak = .tup (l.map AV.weakA)) ∧ (∀ l : List AV, (AV.agg l).weakA = .agg (l.map AV.weak1)) ∧ (∀ x : Dat, (AV.d x).weakA = .d x) ∧ (∀ l, (AV.full l).weakA = .d (.sl l)) ∧ (∀ n, (i64 n).weakA = i64 n) ∧ (∀ n, (b2 n).weakA = b2 n) ∧ (∀ (f : AV → AV) (x : AV) (l : List AV), (x :: l).map f = f x :: l.map f) ∧ (∀ f : AV → AV, ([] : List AV).map f = []) ∧ (∀ l : List AV, List.take 0 l = []) ∧ (∀ (n : Nat) (x : AV) (l : List AV), List.take (n + 1) (x :: l) = x :: List.take n l) ∧ (∀ l : List AV, List.drop 0 l = l) ∧ (∀ (n : Nat) (x : AV) (l : List AV), List.drop (n + 1) (x :: l) = List.drop n l) :=
  ⟨fun _ => rfl, fun _ => rfl, fun _ => rfl, fun _ _ _ => rfl, fun _ => rfl, fun _ => rfl, fun _ => rfl, fun _ => rfl, fun _ => rfl, fun _ => rfl, fun _ => rfl, fun _ => rfl, fun _ => rfl, fun _ => rfl, fun _ => rfl, fun _ _ _ => rfl, fun _ => rfl, fun _ => rfl, fun _ _ _ => rfl, fun _ => rfl, fun _ _ _ => rfl⟩
/-- What a condition says. -/
theorem pvh : (∀ b : Bool, (!!b) = b) ∧ (∀ b : Bool, ((!b) = true) = (b = false)) ∧ (∀ a b : Bool, ((a && b) = true) = (a = true ∧ b = true)) ∧ (∀ b : Bool, ((!b) = false) = (b = true)) := ⟨fun b => by simp, fun b => by simp, fun a b => by simp, fun b => by simp⟩
section
variable {G : Glob} {C : CallsP}

theorem po_boxL {st t : St} {L : List Item} {sz : Nat} {x : Arg} {d : Option Nat} {rest : List POper} {K : X → Prop} {s : Slots} {m : Mx} {cells : List AV} (hL : Lay st L t) (hm : m.st = t) (hx : (x.ev G s).cells = cells) (hl : (cells.length == sz) = true)
    (h : ∀ b t', Lay st (.box b cells :: L) t' → pops G C rest K ⟨put s d (ptrAt b), m.setSt t'⟩) : pops G C (⟨d, .box sz x, none⟩ :: rest) K ⟨s, m⟩ :=
  po_box hx hl fun b hb => h b _ (by rw [hm] at hb ⊢; exact hL.alloc hb _)
theorem po_allocL {st t : St} {L : List Item} {z : List AV} {d : Option Nat} {rest : List POper} {K : X → Prop} {s : Slots} {m : Mx} (hL : Lay st L t) (hm : m.st = t)
    (h : ∀ b t', Lay st (.box b z :: L) t' → pops G C rest K ⟨put s d (ptrAt b), m.setSt t'⟩) : pops G C (⟨d, .alloc z, none⟩ :: rest) K ⟨s, m⟩ :=
  po_alloc fun b hb => h b _ (by rw [hm] at hb ⊢; exact hL.alloc hb _)
theorem po_loadL {st t : St} {L R : List Item} {ag : Bool} {sz : Nat} {x : Arg} {d : Option Nat} {rest : List POper} {K : X → Prop} {s : Slots} {m : Mx} {b o : Nat} {cells : List AV} (hL : Lay st L t) (hm : m.st = t) (hx : x.ev G s = .d (.ptr b o)) (hr : Rem (.box b cells) L R) {v : AV}
    (hv : ldv ag sz (cells.drop o) = some v) (h : pops G C rest K ⟨put s d v, m⟩) : pops G C (⟨d, .load ag sz x false, none⟩ :: rest) K ⟨s, m⟩ :=
  po_load hx (by rw [hm]; exact hL.get hr) hv h
theorem does_loadL {st t : St} {L R : List Item} {s : Slots} {m : Mx} {ag : Bool} {sz : Nat} {x : Arg} {b o : Nat} {cells : List AV} {v : AV} (hL : Lay st L t) (hm : m.st = t) (hx : x.ev G s = .d (.ptr b o)) (hr : Rem (.box b cells) L R) (hv : ldv ag sz (cells.drop o) = some v) : Does G C s m (.load ag sz x false) v :=
  does_load hx (by rw [hm]; exact hL.get hr) hv
/-- What stood there at the start. -/
theorem po_loadB {st t : St} {L : List Item} {ag : Bool} {sz : Nat} {x : Arg} {d : Option Nat} {rest : List POper} {K : X → Prop} {s : Slots} {m : Mx} {b o : Nat} {cells : List AV} (hL : Lay st L t) (hm : m.st = t) (hx : x.ev G s = .d (.ptr b o)) (hb : st.box b = some cells) {v : AV}
    (hv : ldv ag sz (cells.drop o) = some v) (h : pops G C rest K ⟨put s d v, m⟩) : pops G C (⟨d, .load ag sz x false, none⟩ :: rest) K ⟨s, m⟩ :=
  po_load hx (by rw [hm]; exact hL.le.box _ _ hb) hv h
theorem does_loadB {st t : St} {L : List Item} {s : Slots} {m : Mx} {ag : Bool} {sz : Nat} {x : Arg} {b o : Nat} {cells : List AV} {v : AV} (hL : Lay st L t) (hm : m.st = t) (hx : x.ev G s = .d (.ptr b o)) (hb : st.box b = some cells) (hv : ldv ag sz (cells.drop o) = some v) : Does G C s m (.load ag sz x false) v :=
  does_load hx (by rw [hm]; exact hL.le.box _ _ hb) hv
theorem po_storeL {st t : St} {L R : List Item} {sz : Nat} {x y : Arg} {d : Option Nat} {rest : List POper} {K : X → Prop} {s : Slots} {m : Mx} {b o : Nat} {cs cells out : List AV} (hL : Lay st L t) (hm : m.st = t) (hx : x.ev G s = .d (.ptr b o)) (hr : Rem (.box b cells) L R) (hy : (y.ev G s).cells = cs)
    (hl : cs.length = sz ∧ cs.all AV.sc = true) (ho : o + sz ≤ cells.length) (hout : cells.take o ++ cs ++ cells.drop (o + sz) = out) (hh : ∀ u, m.holds u)
    (h : ∀ t', Lay st (.box b out :: R) t' → pops G C rest K ⟨put s d .undef, m.past t'⟩) : pops G C (⟨d, .store sz x y, none⟩ :: rest) K ⟨s, m⟩ :=
  po_store hx hy (by rw [hm]; exact hL.get hr) hl ho hout (hh _) (h _ (by rw [hm]; exact (hL.rem hr).store _))

theorem Lay.grow {st t : St} {L : List Item} {v : AV} {rows news : List (List Dat)} {sz : Nat} (h : Lay st (.vec v rows sz :: L) t) {b cap : Nat} (hb : (∃ c, v = .own b rows c ∧ c = cap) ∨ t.fresh b) :
    Lay st (.vec (.own b (rows ++ news) cap) (rows ++ news) sz :: L) ((match v.own? with | some c => t.dropTok c | none => t).setTok b ⟨rows.length + news.length, cap, sz, none⟩) := by
  have hp := List.pairwise_cons.1 h.apart
  have hv : VecIn t v rows sz := h.ok _ List.mem_cons_self
  have hnb : st.fresh b := by
    rcases hb with ⟨c, rfl, _⟩ | hb
    · exact h.new _ List.mem_cons_self b rfl
    · exact fresh_le h.le hb
  have hno : ∀ y ∈ L, y.blk ≠ some b := by
    intro y hy e
    rcases hb with ⟨c, rfl, _⟩ | hb
    · exact hp.1 y hy b rfl e
    · exact Item.live (h.ok y (List.mem_cons_of_mem _ hy)) e hb
  have hle : st.le (match v.own? with | some c => t.dropTok c | none => t) := by
    split
    · rename_i c e
      exact h.le.dropTok (h.new _ List.mem_cons_self c e).2
    · exact h.le
  refine ⟨hle.setTok _ hnb.2, fun x hx => ?_, fun x hx c hc => ?_, List.pairwise_cons.2 ⟨fun y hy c hc => ?_, hp.2⟩⟩
  · rcases List.mem_cons.1 hx with rfl | hx
    · exact .inr ⟨b, cap, rfl, by rw [St.tok_setTok, if_pos rfl, List.length_append]⟩
    · have hx' := h.ok x (List.mem_cons_of_mem _ hx)
      cases x with
      | box c l =>
        show St.box _ c = some l
        rw [St.box_setTok]
        split <;> exact hx'
      | vec u us z =>
        rcases hx' with rfl | ⟨c, cp, rfl, hc⟩
        · exact .inl rfl
        · refine .inr ⟨c, cp, rfl, ?_⟩
          have hcb : c ≠ b := fun e => hno _ hx (by rw [e]; rfl)
          rw [St.tok_setTok, if_neg hcb]
          split
          · rename_i c' e
            have : c ≠ c' := fun e' => hp.1 _ hx c' e (by rw [e']; rfl)
            rw [St.tok_dropTok, if_neg this]
            exact hc
          · exact hc
      | tk c k =>
        have hcb : c ≠ b := fun e => hno _ hx (by rw [e]; rfl)
        show St.tok _ c = some k
        rw [St.tok_setTok, if_neg hcb]
        split
        · rename_i c' e
          have : c ≠ c' := fun e' => hp.1 _ hx c' e (by rw [e']; rfl)
          rw [St.tok_dropTok, if_neg this]
          exact hx'
        · exact hx'
  · rcases List.mem_cons.1 hx with rfl | hx
    · cases hc; exact hnb
    · exact h.new x (List.mem_cons_of_mem _ hx) c hc
  · cases hc; exact hno y hy

theorem po_appL {st t : St} {L R : List Item} {sz bytes : Nat} {x y : Arg} {d : Option Nat} {rest : List POper} {K : X → Prop} {s : Slots} {m : Mx} {v : AV} {rows news : List (List Dat)} (hL : Lay st L t) (hm : m.st = t) (hx : x.ev G s = v) (hr : Rem (.vec v rows sz) L R)
    (hy : (y.ev G s).rows? = some news) (hrs : ∀ r ∈ rows, r.length = sz) (hn : ∀ r ∈ news, r.length = sz) (hfit : (rows.length + news.length) * bytes ≤ 140737488355328)
    (h : ∀ v' t', VF v' (rows ++ news) → Lay st (.vec v' (rows ++ news) sz :: R) t' → pops G C rest K ⟨put s d v', m.setSt t'⟩) : pops G C (⟨d, .app sz bytes x y, none⟩ :: rest) K ⟨s, m⟩ := by
  have hL' := hL.rem hr
  have hv : VecIn t v rows sz := hL'.ok _ List.mem_cons_self
  rw [pops_plain]
  unfold ostep
  simp only [nf, hx, hy]
  refine ⟨hn, ?_⟩
  rcases hv with rfl | ⟨b, cap, rfl, hb⟩
  · refine ⟨hrs, hfit, ?_⟩
    split
    · rename_i hne
      subst hne
      rw [List.append_nil] at h
      have := h _ m.st (VF.full _) (by rw [hm]; exact hL')
      exact this
    · intro b cap hfb
      refine h _ _ ⟨rfl, rfl, rfl, rfl, rfl, rfl⟩ ?_
      rw [hm] at hfb ⊢
      exact hL'.grow (.inr hfb)
  · refine ⟨by rw [hm]; exact hb, hrs, hfit, ?_, ?_⟩
    · refine h _ _ ⟨rfl, rfl, rfl, rfl, rfl, rfl⟩ ?_
      have := hL'.grow (news := news) (b := b) (cap := cap) (.inl ⟨cap, rfl, rfl⟩)
      rw [hm]
      have e : (t.dropTok b).setTok b ⟨rows.length + news.length, cap, sz, none⟩ = t.setTok b ⟨rows.length + news.length, cap, sz, none⟩ := by
        refine St.ext' rfl (funext fun c => ?_)
        simp only [St.tok_setTok, St.tok_dropTok]
        split <;> rfl
      rw [← e]
      exact this
    · intro b' cap' hfb
      refine h _ _ ⟨rfl, rfl, rfl, rfl, rfl, rfl⟩ ?_
      rw [hm] at hfb ⊢
      exact hL'.grow (b := b') (cap := cap') (.inr hfb)

/-- Calls that turn what stands there. -/
theorem Lay.split {st t : St} : ∀ {F R : List Item}, Lay st (F ++ R) t → ∃ st1, Lay st R st1 ∧ Lay st1 F t
  | [], R, h => ⟨t, h, .nil _⟩
  | x :: F, R, h => by
    obtain ⟨st1, h1, h2⟩ := Lay.split (F := F) (R := R) h.tail
    have hp := List.pairwise_cons.1 h.apart
    cases hb : x.blk with
    | none =>
      refine ⟨st1, h1, h2.le, fun y hy => ?_, fun y hy c hc => ?_, List.pairwise_cons.2 ⟨fun y _ c hc => (by rw [hb] at hc; cases hc), h2.apart⟩⟩
      · rcases List.mem_cons.1 hy with rfl | hy
        · exact h.head
        · exact h2.ok y hy
      · rcases List.mem_cons.1 hy with rfl | hy
        · rw [hb] at hc; cases hc
        · exact h2.new y hy c hc
    | some b =>
      have hnb : st.fresh b := h.new x List.mem_cons_self b hb
      have hle : st.le ((st1.dropTok b).dropBox b) := by
        refine ⟨fun c l hc => ?_, fun c l hc => ?_⟩
        · rw [St.box_dropBox, if_neg (fun e => by rw [e, hnb.1] at hc; cases hc)]
          exact h1.le.box c l hc
        · rw [St.tok_dropBox, St.tok_dropTok, if_neg (fun e => by rw [e, hnb.2] at hc; cases hc)]
          exact h1.le.tok c l hc
      have hsub : ((st1.dropTok b).dropBox b).le st1 := by
        refine ⟨fun c l hc => ?_, fun c l hc => ?_⟩
        · rw [St.box_dropBox] at hc
          split at hc
          · cases hc
          · exact hc
        · rw [St.tok_dropBox, St.tok_dropTok] at hc
          split at hc
          · cases hc
          · exact hc
      refine ⟨(st1.dropTok b).dropBox b, ⟨hle, fun y hy => ?_, h1.new, h1.apart⟩, ⟨hsub.trans h2.le, fun y hy => ?_, fun y hy c hc => ?_, List.pairwise_cons.2 ⟨fun y hy c hc => ?_, h2.apart⟩⟩⟩
      · have hyb : y.blk ≠ some b := hp.1 y (List.mem_append_right _ hy) b hb
        have hy' := h1.ok y hy
        cases y with
        | box c l =>
          show (if c = b then none else st1.box c) = some l
          rw [if_neg (fun e => hyb (by rw [e]; rfl))]
          exact hy'
        | vec u us z =>
          rcases hy' with rfl | ⟨c, cp, rfl, hc⟩
          · exact .inl rfl
          · refine .inr ⟨c, cp, rfl, ?_⟩
            rw [St.tok_dropBox, St.tok_dropTok, if_neg (fun e => hyb (by rw [e]; rfl))]
            exact hc
        | tk c k =>
          show St.tok _ c = some k
          rw [St.tok_dropBox, St.tok_dropTok, if_neg (fun e => hyb (by rw [e]; rfl))]
          exact hy'
      · rcases List.mem_cons.1 hy with rfl | hy
        · exact h.head
        · exact h2.ok y hy
      · rcases List.mem_cons.1 hy with rfl | hy
        · rw [hb] at hc
          cases hc
          exact ⟨by rw [St.box_dropBox, if_pos rfl], by rw [St.tok_dropBox, St.tok_dropTok, if_pos rfl]⟩
        · exact fresh_le hsub (h2.new y hy c hc)
      · exact hp.1 y (List.mem_append_left _ hy) c hc
theorem Item.ok_le {t u : St} (h : t.le u) {x : Item} (hx : x.ok t) : x.ok u := by
  cases x with
  | box c l => exact h.box c l hx
  | vec v rows sz =>
    rcases hx with rfl | ⟨c, cp, rfl, hc⟩
    · exact .inl rfl
    · exact .inr ⟨c, cp, rfl, h.tok _ _ hc⟩
  | tk c k => exact h.tok _ _ hx
theorem Lay.join {st st1 t : St} {F R : List Item} (h1 : Lay st R st1) (h2 : Lay st1 F t) : Lay st (F ++ R) t where
  le := h1.le.trans h2.le
  ok := fun x hx => by
    rcases List.mem_append.1 hx with hx | hx
    · exact h2.ok x hx
    · exact Item.ok_le h2.le (h1.ok x hx)
  new := fun x hx b hb => by
    rcases List.mem_append.1 hx with hx | hx
    · exact fresh_le h1.le (h2.new x hx b hb)
    · exact h1.new x hx b hb
  apart := List.pairwise_append.2 ⟨h2.apart, h1.apart, fun x hx y hy b hb hb' => Item.live (h1.ok y hy) hb' (h2.new x hx b hb)⟩

/-- Something may come of it: variables that were there, or new ones; slices. -/
def Sat {α : Type} (F : List Item) (F' : α → List Item) : Prop := ∀ N : Nat, ∃ a, (∀ x ∈ F' a, match x with | .box b _ => (∃ y ∈ F, y.blk = some b) ∨ N ≤ b | .vec v rows _ => v = .full rows | .tk b _ => (∃ y ∈ F, y.blk = some b) ∨ N ≤ b) ∧ (F' a).Pairwise fun x y => ∀ b, x.blk = some b → y.blk ≠ some b

theorem lays {st : St} : ∀ {L : List Item}, (∀ x ∈ L, match x with | .box b _ => st.fresh b | .vec v rows _ => v = .full rows | .tk b _ => st.fresh b) → (L.Pairwise fun x y => ∀ b, x.blk = some b → y.blk ≠ some b) →
    ∃ t, Lay st L t ∧ ∀ c, st.fresh c → (∀ x ∈ L, x.blk ≠ some c) → t.fresh c
  | [], _, _ => ⟨st, .nil st, fun _ h _ => h⟩
  | x :: L, h, hp => by
    have hp' := List.pairwise_cons.1 hp
    obtain ⟨t, h1, h2⟩ := lays (st := st) (L := L) (fun y hy => h y (List.mem_cons_of_mem _ hy)) hp'.2
    have hx := h x List.mem_cons_self
    cases x with
    | box b cells =>
      have hb : t.fresh b := h2 b hx fun y hy e => hp'.1 y hy b rfl e
      refine ⟨t.setBox b cells, h1.alloc hb _, fun c hc hn => ?_⟩
      have hcb : c ≠ b := fun e => hn _ List.mem_cons_self (by rw [e]; rfl)
      have := h2 c hc fun y hy => hn y (List.mem_cons_of_mem _ hy)
      exact ⟨(if_neg hcb).trans this.1, this.2⟩
    | vec v rows sz =>
      obtain rfl : v = .full rows := hx
      exact ⟨t, h1.full _ _, fun c hc hn => h2 c hc fun y hy => hn y (List.mem_cons_of_mem _ hy)⟩
    | tk b k =>
      have hb : t.fresh b := h2 b hx fun y hy e => hp'.1 y hy b rfl e
      refine ⟨t.setTok b k, h1.newTk hb _, fun c hc hn => ?_⟩
      have hcb : c ≠ b := fun e => hn _ List.mem_cons_self (by rw [e]; rfl)
      have := h2 c hc fun y hy => hn y (List.mem_cons_of_mem _ hy)
      exact ⟨this.1, (if_neg hcb).trans this.2⟩

theorem Sat.witness {α : Type} {F : List Item} {F' : α → List Item} (hS : Sat F F') {st t : St} (hF : Lay st F t) (A : List Nat) (hA : ∀ b ∈ A, t.fresh b) : ∃ a t', Lay st (F' a) t' ∧ ∀ b ∈ A, t'.fresh b := by
  obtain ⟨N, hN⟩ := st.fin
  obtain ⟨a, h1, h2⟩ := hS (max N (A.foldr (fun b n => max (b + 1) n) 0))
  have hmax : ∀ (l : List Nat) (b : Nat), b ∈ l → b < l.foldr (fun b n => max (b + 1) n) 0 := by
    intro l
    induction l with
    | nil => intro b h; cases h
    | cons c l ih =>
      intro b h
      rcases List.mem_cons.1 h with rfl | h
      · simp only [List.foldr_cons]; omega
      · have := ih b h; simp only [List.foldr_cons]; omega
  obtain ⟨t', k1, k2⟩ := lays (st := st) (L := F' a) (fun x hx => by
    have := h1 x hx
    cases x with
    | box b l =>
      rcases this with ⟨y, hy, e⟩ | h
      · exact hF.new _ hy b e
      · exact hN b (by omega)
    | vec => exact this
    | tk b k =>
      rcases this with ⟨y, hy, e⟩ | h
      · exact hF.new _ hy b e
      · exact hN b (by omega)) h2
  refine ⟨a, t', k1, fun b hb => k2 b (fresh_le hF.le (hA b hb)) fun x hx e => ?_⟩
  have := h1 x hx
  cases x with
  | box c l =>
    cases e
    rcases this with ⟨y, hy, e'⟩ | h
    · exact Item.live (hF.ok _ hy) e' (hA b hb)
    · have := hmax A b hb; omega
  | tk c k =>
    cases e
    rcases this with ⟨y, hy, e'⟩ | h
    · exact Item.live (hF.ok _ hy) e' (hA b hb)
    · have := hmax A b hb; omega
  | vec v rows sz =>
    obtain rfl : v = .full rows := this
    cases e

theorem Sat.vecs3 (F : List Item) (r1 r2 r3 : List (List Dat)) (s1 s2 s3 : Nat) : Sat F (fun a : AV × AV × AV => [.vec a.1 r1 s1, .vec a.2.1 r2 s2, .vec a.2.2 r3 s3]) := fun _ => ⟨(.full r1, .full r2, .full r3), by simp, by simp [Item.blk, AV.own?]⟩
theorem Sat.vecs1 (F : List Item) (r1 : List (List Dat)) (s1 : Nat) : Sat F (fun a : AV => [.vec a r1 s1]) := fun _ => ⟨.full r1, by simp, by simp [Item.blk, AV.own?]⟩
theorem Sat.same (F : List Item) (hF : ∀ x ∈ F, match x with | .box _ _ => True | .vec v rows _ => v = .full rows | .tk _ _ => True) (hp : F.Pairwise fun x y => ∀ b, x.blk = some b → y.blk ≠ some b) : Sat F (fun _ : Unit => F) := fun _ => ⟨(), fun x hx => by
  have := hF x hx
  cases x with
  | box b l => exact .inl ⟨_, hx, rfl⟩
  | vec => exact this
  | tk b k => exact .inl ⟨_, hx, rfl⟩, hp⟩
/-- One variable, one slice that grows in it. -/
theorem Sat.boxv (p : Nat) (l : List AV) (l' : AV → List AV) (v : AV) (r r1 : List (List Dat)) (s s1 : Nat) : Sat [.box p l, .vec v r s] (fun a : AV => [.box p (l' a), .vec a r1 s1]) := fun _ => ⟨.full r1, by simp [Item.blk], by simp [Item.blk, AV.own?]⟩
/-- A contract: what stands there, ahead and behind. -/
def CL {α : Type} (C : CallsP) (f : FuncId) (as : List AV) (F : List Item) (res : α → AV) (F' : α → List Item) : Prop :=
  Sat F F' ∧ ∀ st t, Lay st F t → C f as t fun r t' => ∃ a, r = res a ∧ Lay st (F' a) t'

theorem po_callL {α : Type} {f : FuncId} {args : List Arg} {d : Option Nat} {rest : List POper} {K : X → Prop} {s : Slots} {m : Mx} {as : List AV} {st t : St} {L F R : List Item} {res : α → AV} {F' : α → List Item} (hL : Lay st L t) (hm : m.st = t)
    (hargs : (args.map fun (p : Arg) => p.ev G s).map AV.weak = as) (hc : CL C f as F res F') (hp : Pick L F R)
    (h : ∀ a t', Lay st (F' a ++ R) t' → pops G C rest K ⟨put s d (res a), m.setSt t'⟩) : pops G C (⟨d, .call0 f args, none⟩ :: rest) K ⟨s, m⟩ := by
  obtain ⟨st1, h1, h2⟩ := (hL.perm hp.perm).split
  refine po_callS hargs (by rw [hm]; exact hc.2 st1 t h2) (fun A hA => ?_) ?_
  · obtain ⟨a, t', k1, k2⟩ := hc.1.witness h2 A (by rw [← hm]; exact hA)
    exact ⟨_, t', ⟨a, rfl, k1⟩, k2⟩
  · rintro r t' ⟨a, rfl, k⟩
    exact h a t' (h1.join k)
theorem po_callvL {α : Type} {x : Arg} {f : FuncId} {first caps : List Dat} {args : List Arg} {d : Option Nat} {rest : List POper} {K : X → Prop} {s : Slots} {m : Mx} {as : List AV} {st t : St} {L F R : List Item} {res : α → AV} {F' : α → List Item} (hL : Lay st L t) (hm : m.st = t)
    (hx : x.ev G s = .d (.fn f first caps)) (hargs : first.map .d ++ ((args.map fun (p : Arg) => p.ev G s).map AV.weak) ++ caps.map .d = as) (hc : CL C f as F res F') (hp : Pick L F R)
    (h : ∀ a t', Lay st (F' a ++ R) t' → pops G C rest K ⟨put s d (res a), m.setSt t'⟩) : pops G C (⟨d, .callv0 x args, none⟩ :: rest) K ⟨s, m⟩ := by
  obtain ⟨st1, h1, h2⟩ := (hL.perm hp.perm).split
  refine po_callvS hx hargs (by rw [hm]; exact hc.2 st1 t h2) (fun A hA => ?_) ?_
  · obtain ⟨a, t', k1, k2⟩ := hc.1.witness h2 A (by rw [← hm]; exact hA)
    exact ⟨_, t', ⟨a, rfl, k1⟩, k2⟩
  · rintro r t' ⟨a, rfl, k⟩
    exact h a t' (h1.join k)

theorem PCalls.mono {P : Program} {f : FuncId} {as : List AV} {st : St} {R R' : AV → St → Prop} (h : PCalls P G f as st R) (hR : ∀ r st', R r st' → R' r st') : PCalls P G f as st R' := by
  refine .of h.ends.1 fun M w vals hW hA => (h.ends.2 M w vals hW hA).mono ?_
  rintro e w' ⟨u, r, st', M', e1, hW', hr, hF, k⟩
  exact ⟨u, r, st', M', e1, hW', hr, hF, hR r st' k⟩
/-- What was built is data from here on. -/
theorem CL.pure {α : Type} {P : Program} {f : FuncId} {as : List AV} {res : α → AV} {F' : α → List Item} {v : AV} (h : CL (PCalls P G) f as [] res F') (hv : ∀ a st t, Lay st (F' a) t → (res a).weak = v) : Pure (PCalls P G) f as v := by
  intro st
  obtain ⟨h1, h2⟩ := (h.2 st st (.nil st)).ends
  refine .of h1 fun M w vals hW hA => (h2 M w vals hW hA).mono ?_
  rintro e w' ⟨u, r, st', M', rfl, hW', hr, hF, a, rfl, hL⟩
  exact ⟨u, v, st, M', rfl, hW'.shrink hL.le, by rw [← hv a st st' hL]; exact weak_rel hr, hF.shrink hL.le, rfl, rfl⟩
theorem pfin_L {α : Type} {rs : List PRes} {s : Slots} {st t : St} {L R : List Item} {res : α → AV} {F' : α → List Item} (a : α) {u : AV} (h : pret rs s t = some u) (hu : res a = u ∨ res a = u.weak) (hL : Lay st L t) (hp : Pick L (F' a) R) :
    pfin rs (fun r t' => ∃ a, r = res a ∧ Lay st (F' a) t') .ret s t := ⟨u, res a, t, h, hu, .refl _, a, rfl, hL.pick hp⟩

theorem pstartL {c : PCode} {Q : PEx → Slots → St → Prop} {s : Slots} {st : St} (h : ∀ t, Lay st [] t → pwp G C c Q s t) : pwp G C c Q s st := h st (.nil st)
/-- A loop over numbers from 0; what it turns is told by 'a'. -/
theorem prangeU {α : Type} {keep : Option (List Nat)} {id ti tc tx : Nat} {bnd : Arg} {body : PCode} {Q : PEx → Slots → St → Prop} {s : Slots} {t : St} (n : Nat) (hn : n < 2 ^ 63) (U : Nat → α → Slots → Slots) (base : Slots) (J : Nat → α → St → Prop) (a0 : α)
    (h0 : trim keep s = U 0 a0 base) (hJ : J 0 a0 t) (hi : ∀ k a, U k a base ti = i64 k) (hl : ∀ k a, bnd.ev G (U k a base) = i64 n)
    (hend : ∀ a t, J n a t → Q .normal (put (U n a base) (some tc) (b2 false)) t)
    (hstep : ∀ k, k < n → ∀ a t, J k a t → pwp G C body (PEx.next (fun s' t' => s' ti = i64 k ∧ ∃ a', trim keep (put (put s' (some tx) (i64 ((k + 1 : Nat) : Int))) (some ti) (i64 ((k + 1 : Nat) : Int))) = U (k + 1) a' base ∧ J (k + 1) a' t') (PEx.inBlock id Q)) (put (U k a base) (some tc) (b2 true)) t) :
    pwp G C (.block id (.loop keep (.seq (.region [⟨some tc, .bin .lss (.t ti) bnd, none⟩]) (.seq (.cond (.t tc) .skip (.exit id)) (.seq body (.region [⟨some tx, .bin .add (.t ti) (.c (.d (.int .i64 1))), none⟩, ⟨some ti, .mov (.t tx), none⟩])))))) Q s t := by
  refine prange' n hn (fun k s t => ∃ a, s = U k a base ∧ J k a t) ⟨a0, h0, hJ⟩ ?_ ?_ ?_ ?_
  · rintro k s t _ ⟨a, rfl, _⟩; exact hi k a
  · rintro k s t _ ⟨a, rfl, _⟩; exact hl k a
  · rintro s t ⟨a, rfl, h⟩; exact hend a t h
  · rintro k hk s t ⟨a, rfl, h⟩
    refine pwp_mono ?_ (hstep k hk a t h)
    rintro e s' t' he
    cases e with
    | normal => obtain ⟨h1, a', h2, h3⟩ := he; exact ⟨h1, a', h2, h3⟩
    | exit j => exact he
    | ret => exact he

/-- A loop over numbers from 0 that turns nothing that stands there ahead of it. -/
theorem prangeK {st : St} {L : List Item} {keep : Option (List Nat)} {id ti tc tx : Nat} {bnd : Arg} {body : PCode} {Q : PEx → Slots → St → Prop} {s : Slots} {t : St} (hL : Lay st L t) (n : Nat) (hn : n < 2 ^ 63) (I : Nat → Prop) {base : Slots}
    (h0 : trim keep s = put base (some ti) (i64 0)) (hl : ∀ k, bnd.ev G (put base (some ti) (i64 k)) = i64 n) (hI : I 0)
    (hend : ∀ t, Lay st L t → I n → Q .normal (put (put base (some ti) (i64 n)) (some tc) (b2 false)) t)
    (hstep : ∀ k, k < n → ∀ t, Lay st L t → I k → pwp G C body (PEx.next (fun s' t' => Lay st L t' ∧ I (k + 1) ∧ s' ti = i64 k ∧ trim keep (put (put s' (some tx) (i64 ((k + 1 : Nat) : Int))) (some ti) (i64 ((k + 1 : Nat) : Int))) = put base (some ti) (i64 ((k + 1 : Nat) : Int))) (PEx.inBlock id Q)) (put (put base (some ti) (i64 k)) (some tc) (b2 true)) t) :
    pwp G C (.block id (.loop keep (.seq (.region [⟨some tc, .bin .lss (.t ti) bnd, none⟩]) (.seq (.cond (.t tc) .skip (.exit id)) (.seq body (.region [⟨some tx, .bin .add (.t ti) (.c (.d (.int .i64 1))), none⟩, ⟨some ti, .mov (.t tx), none⟩])))))) Q s t := by
  refine prange' n hn (fun k s t => s = put base (some ti) (i64 k) ∧ Lay st L t ∧ I k) ⟨h0, hL, hI⟩ ?_ ?_ ?_ ?_
  · rintro k s t _ ⟨rfl, _⟩; exact put_same
  · rintro k s t _ ⟨rfl, _⟩; exact hl k
  · rintro s t ⟨rfl, h1, h2⟩; exact hend t h1 h2
  · rintro k hk s t ⟨rfl, h1, h2⟩
    refine pwp_mono ?_ (hstep k hk t h1 h2)
    rintro e s' t' he
    cases e with
    | normal => exact ⟨he.2.2.1, he.2.2.2, he.1, he.2.1⟩
    | exit j => exact he
    | ret => exact he
/-- One that turns what 'a' tells. -/
theorem prangeA {α : Type} {keep : Option (List Nat)} {id ti tc tx : Nat} {bnd : Arg} {body : PCode} {Q : PEx → Slots → St → Prop} {s : Slots} {t : St} (n : Nat) (hn : n < 2 ^ 63) (V : α → Slots → Slots) (J : Nat → α → St → Prop) (a0 : α) {base : Slots}
    (h0 : trim keep s = put (V a0 base) (some ti) (i64 0)) (hl : ∀ k a, bnd.ev G (put (V a base) (some ti) (i64 k)) = i64 n) (hJ : J 0 a0 t)
    (hend : ∀ a t, J n a t → Q .normal (put (put (V a base) (some ti) (i64 n)) (some tc) (b2 false)) t)
    (hstep : ∀ k, k < n → ∀ a t, J k a t → pwp G C body (PEx.next (fun s' t' => ∃ a', J (k + 1) a' t' ∧ s' ti = i64 k ∧ trim keep (put (put s' (some tx) (i64 ((k + 1 : Nat) : Int))) (some ti) (i64 ((k + 1 : Nat) : Int))) = put (V a' base) (some ti) (i64 ((k + 1 : Nat) : Int))) (PEx.inBlock id Q)) (put (put (V a base) (some ti) (i64 k)) (some tc) (b2 true)) t) :
    pwp G C (.block id (.loop keep (.seq (.region [⟨some tc, .bin .lss (.t ti) bnd, none⟩]) (.seq (.cond (.t tc) .skip (.exit id)) (.seq body (.region [⟨some tx, .bin .add (.t ti) (.c (.d (.int .i64 1))), none⟩, ⟨some ti, .mov (.t tx), none⟩])))))) Q s t := by
  refine prange' n hn (fun k s t => ∃ a, s = put (V a base) (some ti) (i64 k) ∧ J k a t) ⟨a0, h0, hJ⟩ ?_ ?_ ?_ ?_
  · rintro k s t _ ⟨a, rfl, _⟩; exact put_same
  · rintro k s t _ ⟨a, rfl, _⟩; exact hl k a
  · rintro s t ⟨a, rfl, h⟩; exact hend a t h
  · rintro k hk s t ⟨a, rfl, h⟩
    refine pwp_mono ?_ (hstep k hk a t h)
    rintro e s' t' he
    cases e with
    | normal => obtain ⟨a', h1, h2, h3⟩ := he; exact ⟨h2, a', h3, h1⟩
    | exit j => exact he
    | ret => exact he

theorem prangeJ {keep : Option (List Nat)} {id ti tc tx : Nat} {bnd : Arg} {body : PCode} {Q : PEx → Slots → St → Prop} {s : Slots} {t : St} (n : Nat) (hn : n < 2 ^ 63) (J : Nat → St → Prop) {base : Slots}
    (h0 : trim keep s = put base (some ti) (i64 0)) (hl : ∀ k, bnd.ev G (put base (some ti) (i64 k)) = i64 n) (hJ : J 0 t)
    (hend : ∀ t, J n t → Q .normal (put (put base (some ti) (i64 n)) (some tc) (b2 false)) t)
    (hstep : ∀ k, k < n → ∀ t, J k t → pwp G C body (PEx.next (fun s' t' => J (k + 1) t' ∧ s' ti = i64 k ∧ trim keep (put (put s' (some tx) (i64 ((k + 1 : Nat) : Int))) (some ti) (i64 ((k + 1 : Nat) : Int))) = put base (some ti) (i64 ((k + 1 : Nat) : Int))) (PEx.inBlock id Q)) (put (put base (some ti) (i64 k)) (some tc) (b2 true)) t) :
    pwp G C (.block id (.loop keep (.seq (.region [⟨some tc, .bin .lss (.t ti) bnd, none⟩]) (.seq (.cond (.t tc) .skip (.exit id)) (.seq body (.region [⟨some tx, .bin .add (.t ti) (.c (.d (.int .i64 1))), none⟩, ⟨some ti, .mov (.t tx), none⟩])))))) Q s t := by
  refine prange' n hn (fun k s t => s = put base (some ti) (i64 k) ∧ J k t) ⟨h0, hJ⟩ ?_ ?_ ?_ ?_
  · rintro k s t _ ⟨rfl, _⟩; exact put_same
  · rintro k s t _ ⟨rfl, _⟩; exact hl k
  · rintro s t ⟨rfl, h⟩; exact hend t h
  · rintro k hk s t ⟨rfl, h⟩
    refine pwp_mono ?_ (hstep k hk t h)
    rintro e s' t' he
    cases e with
    | normal => exact ⟨he.2.1, he.2.2, he.1⟩
    | exit j => exact he
    | ret => exact he
theorem pres_cellL {st t : St} {L R : List Item} {s : Slots} {a : Nat} {ag : Bool} {sz b o : Nat} {cells : List AV} {v : AV} (hL : Lay st L t) (ha : s a = .d (.ptr b o)) (hr : Rem (.box b cells) L R) (hv : ldv ag sz (cells.drop o) = some v) : PRes.ev s t (.cell a ag sz) = some v :=
  pres_cell ha (hL.get hr) hv
theorem po_rem {k : IntKind} {x y : Int} {a b : Arg} {d : Option Nat} {rest : List POper} {K : X → Prop} {s : Slots} {m : Mx} (ha : a.ev G s = .d (.int k x)) (hb : b.ev G s = .d (.int k y)) (hy : y ≠ 0) (h : pops G C rest K ⟨put s d (.d (.int k (x.tmod y))), m⟩) : pops G C (⟨d, .bin .rem a b, none⟩ :: rest) K ⟨s, m⟩ :=
  po rfl (by simp [ev, ha, hb, binEv, intBin, hy]) h
theorem po_quo {k : IntKind} {x y : Int} {a b : Arg} {d : Option Nat} {rest : List POper} {K : X → Prop} {s : Slots} {m : Mx} (ha : a.ev G s = .d (.int k x)) (hb : b.ev G s = .d (.int k y)) (hy : y ≠ 0) (h : pops G C rest K ⟨put s d (.d (.int k (k.wrap (x.tdiv y)))), m⟩) : pops G C (⟨d, .bin .quo a b, none⟩ :: rest) K ⟨s, m⟩ :=
  po rfl (by simp [ev, ha, hb, binEv, intBin, hy]) h
theorem po_remN {i n : Nat} {a b : Arg} {d : Option Nat} {rest : List POper} {K : X → Prop} {s : Slots} {m : Mx} (ha : a.ev G s = i64 i) (hb : b.ev G s = i64 n) (hn : n ≠ 0) (h : pops G C rest K ⟨put s d (i64 ((i % n : Nat) : Int)), m⟩) : pops G C (⟨d, .bin .rem a b, none⟩ :: rest) K ⟨s, m⟩ :=
  po_rem ha hb (by omega) (by rw [IntWalk.rem_in _ _ (by omega), ← Int.natCast_emod]; exact h)
/-- A slot that is set under a condition. -/
theorem pselK {R : List POper} {c d : Nat} {x : Arg} {l : List Nat} {b : PCode} {Q : PEx → Slots → St → Prop} {s : Slots} {t : St}
    (h : pwp G C (.region R) (PEx.next (fun s' t' => ∃ v : Bool, s' c = b2 v ∧ pwp G C (.keep l b) Q (put s' (some d) (if v = true then x.ev G s' else s' d)) t') Q) s t) :
    pwp G C (.seq (.seq (.region R) (.cond (.t c) (.region [⟨some d, .mov x, none⟩]) .skip)) (.keep l b)) Q s t := by
  show pwp G C (.region R) (PEx.next (pwp G C (.cond (.t c) (.region [⟨some d, .mov x, none⟩]) .skip) (PEx.next (pwp G C (.keep l b) Q) Q)) (PEx.next (pwp G C (.keep l b) Q) Q)) s t
  refine pwp_mono ?_ h
  rintro e s' t' he
  cases e with
  | normal =>
    obtain ⟨v, hv, hk⟩ := he
    cases v with
    | true => exact pcond_t (b := .skip) hv (pregion (po rfl rfl (pnil hk)))
    | false =>
      refine pcond_f (a := .region _) hv (pskip ?_)
      have : put s' (some d) (s' d) = s' := funext fun u => by
        simp only [put]
        split
        · rename_i e; rw [e]
        · rfl
      simp only [Bool.false_eq_true, if_false] at hk
      rw [this] at hk
      exact hk
  | exit j => exact he
  | ret => exact he

/-- One step of a row of something. -/
theorem po_iaddrM {α : Type} {f : α → List Dat} {l : List α} {y : α} {d : Option Nat} {rest : List POper} {K : X → Prop} {s : Slots} {m : Mx} {a b : Arg} {v : AV} {k sz : Nat} (ha : a.ev G s = v) (hv : v.rows? = some (l.map f)) (hb : b.ev G s = i64 k) (hk : l[k]? = some y) (hs : (f y).length = sz)
    (h : pops G C rest K ⟨put s d (.elt (f y)), m⟩) : pops G C (⟨d, .iaddr sz a b, none⟩ :: rest) K ⟨s, m⟩ := by
  obtain ⟨hk', rfl⟩ := List.getElem?_eq_some_iff.1 hk
  have := iaddr_rows (G := G) (s := s) (a := a) (b := b) (k := k) (sz := sz) ha hv hb (by rw [List.length_map]; exact hk') (by rw [List.getElem_map]; exact hs)
  rw [List.getElem_map] at this
  exact po rfl this h
theorem does_iaddrM {α : Type} {f : α → List Dat} {l : List α} {y : α} {s : Slots} {m : Mx} {a b : Arg} {v : AV} {k sz : Nat} (ha : a.ev G s = v) (hv : v.rows? = some (l.map f)) (hb : b.ev G s = i64 k) (hk : l[k]? = some y) (hs : (f y).length = sz) : Does G C s m (.iaddr sz a b) (.elt (f y)) :=
  fun _ _ _ h => po_iaddrM ha hv hb hk hs h
theorem take_snoc {α : Type} {l : List α} {k : Nat} {y : α} (h : l[k]? = some y) : l.take (k + 1) = l.take k ++ [y] := by
  obtain ⟨hk, rfl⟩ := List.getElem?_eq_some_iff.1 h
  exact List.take_succ_eq_append_getElem hk
theorem elem_at {α : Type} {l : List α} {k : Nat} (h : k < l.length) : ∃ y, l[k]? = some y ∧ y ∈ l := ⟨l[k], List.getElem?_eq_getElem h, List.getElem_mem h⟩
theorem po_lenV {x : Arg} {d : Option Nat} {rest : List POper} {K : X → Prop} {s : Slots} {m : Mx} {v : AV} {rows : List (List Dat)} {n : Nat} (hx : x.ev G s = v) (hv : v.rows? = some rows) (hn : rows.length = n) (h : pops G C rest K ⟨put s d (i64 n), m⟩) :
    pops G C (⟨d, .len x, none⟩ :: rest) K ⟨s, m⟩ := po_len hx hv hn h
end
end Go.Pv
/- Rows that nobody writes any more, in a state as a list. No condition. -/
namespace Go.Pv

def Item.frz (b : Nat) (rows : List (List Dat)) : Item → Item
  | .box c cells => .box c (cells.map (AV.frz1 b rows))
  | x => x
theorem Item.frz_blk (b : Nat) (rows : List (List Dat)) (x : Item) : (x.frz b rows).blk = x.blk := by cases x <;> rfl
theorem Lay.frz {st t : St} {L : List Item} {b sz : Nat} {cells rest : List AV} {rows : List (List Dat)} (h : Lay st (.box b cells :: L) t) (hs : ∀ r ∈ rows, r.length = sz) (hw : cells.map AV.weak1 = rows.flatten.map .d ++ rest) :
    ∃ t', (∀ s, Frz s t (fun i => (s i).frz b rows) t') ∧ Lay st (L.map (Item.frz b rows)) t' := by
  have hb : t.box b = some cells := h.head
  have hfb : st.fresh b := h.new _ List.mem_cons_self b rfl
  obtain ⟨hap, hap'⟩ := List.pairwise_cons.1 h.apart
  let S : Nat → Bool := fun c => decide (some c ∈ L.map Item.blk)
  have hS : ∀ c, S c = true ↔ ∃ x ∈ L, x.blk = some c := fun c => by simp [S]
  refine ⟨t.frz b rows S, fun s => .step b sz rows rest cells S hs hb hw (.refl _ _), ⟨⟨fun c l hc => ?_, fun c k hc => h.le.tok c k hc⟩, fun x hx => ?_, fun x hx c hc => ?_, ?_⟩⟩
  · have hcb : c ≠ b := fun e => by subst e; rw [hfb.1] at hc; cases hc
    have hSc : ¬ S c = true := fun e => by
      obtain ⟨x, hx, hxb⟩ := (hS c).1 e
      have := (h.new x (List.mem_cons_of_mem _ hx) c hxb).1
      rw [hc] at this; cases this
    show (if c = b then none else (t.box c).map fun cells => if S c = true then cells.map (AV.frz1 b rows) else cells) = some l
    rw [if_neg hcb, h.le.box c l hc]
    simp [hSc]
  · obtain ⟨y, hy, rfl⟩ := List.mem_map.1 hx
    have hy' := h.ok y (List.mem_cons_of_mem _ hy)
    cases y with
    | box c l =>
      have hcb : c ≠ b := fun e => by
        subst e
        exact hap _ hy c rfl rfl
      have hSc : S c = true := (hS c).2 ⟨_, hy, rfl⟩
      show (if c = b then none else (t.box c).map fun cells => if S c = true then cells.map (AV.frz1 b rows) else cells) = some (l.map (AV.frz1 b rows))
      rw [if_neg hcb, show t.box c = some l from hy']
      simp [hSc]
    | vec v rows' sz' => exact hy'
    | tk c k => exact hy'
  · obtain ⟨y, hy, rfl⟩ := List.mem_map.1 hx
    rw [Item.frz_blk] at hc
    exact h.new y (List.mem_cons_of_mem _ hy) c hc
  · rw [List.pairwise_map]
    refine hap'.imp fun {x y} hxy c hc => ?_
    rw [Item.frz_blk] at hc ⊢
    exact hxy c hc
def Item.own (b : Nat) (rows : List (List Dat)) (k : Nat) : Item → Item
  | .box c cells => .box c (cells.map (AV.own1 b rows k))
  | x => x
theorem Item.own_blk (b : Nat) (rows : List (List Dat)) (k : Nat) (x : Item) : (x.own b rows k).blk = x.blk := by cases x <;> rfl
/-- A variable's row that may grow from here on. -/
theorem Lay.own {st t : St} {L : List Item} {b sz cap : Nat} {cells rest : List AV} {rows : List (List Dat)} (h : Lay st (.box b cells :: L) t) (hs : ∀ r ∈ rows, r.length = sz) (hw : cells.map AV.weak1 = rows.flatten.map .d ++ rest) (hl : cells.length = cap * sz) (hc : rows.length ≤ cap) :
    ∃ t', (∀ s, Frz s t (fun i => (s i).ownA b rows cap) t') ∧ Lay st (.vec (.own b rows cap) rows sz :: L.map (Item.own b rows cap)) t' := by
  have hb : t.box b = some cells := h.head
  have hfb : st.fresh b := h.new _ List.mem_cons_self b rfl
  obtain ⟨hap, hap'⟩ := List.pairwise_cons.1 h.apart
  let S : Nat → Bool := fun c => decide (some c ∈ L.map Item.blk)
  have hS : ∀ c, S c = true ↔ ∃ x ∈ L, x.blk = some c := fun c => by simp [S]
  refine ⟨t.own b rows cap sz S, fun s => .own b sz cap rows rest cells S hs hb hw hl hc (.refl _ _), ⟨⟨fun c l hc => ?_, fun c k hc => ?_⟩, fun x hx => ?_, fun x hx c hc => ?_, List.pairwise_cons.2 ⟨fun x hx c hc => ?_, ?_⟩⟩⟩
  · have hcb : c ≠ b := fun e => by subst e; rw [hfb.1] at hc; cases hc
    have hSc : ¬ S c = true := fun e => by
      obtain ⟨x, hx, hxb⟩ := (hS c).1 e
      have := (h.new x (List.mem_cons_of_mem _ hx) c hxb).1
      rw [hc] at this; cases this
    show (if c = b then none else (t.box c).map fun cells => if S c = true then cells.map (AV.own1 b rows cap) else cells) = some l
    rw [if_neg hcb, h.le.box c l hc]
    simp [hSc]
  · have hcb : c ≠ b := fun e => by subst e; rw [hfb.2] at hc; cases hc
    exact (if_neg hcb).trans (h.le.tok c k hc)
  · rcases List.mem_cons.1 hx with rfl | hx
    · exact .inr ⟨b, cap, rfl, if_pos rfl⟩
    obtain ⟨y, hy, rfl⟩ := List.mem_map.1 hx
    have hy' := h.ok y (List.mem_cons_of_mem _ hy)
    cases y with
    | box c l =>
      have hcb : c ≠ b := fun e => by
        subst e
        exact hap _ hy c rfl rfl
      have hSc : S c = true := (hS c).2 ⟨_, hy, rfl⟩
      show (if c = b then none else (t.box c).map fun cells => if S c = true then cells.map (AV.own1 b rows cap) else cells) = some (l.map (AV.own1 b rows cap))
      rw [if_neg hcb, show t.box c = some l from hy']
      simp [hSc]
    | vec v rows' sz' =>
      rcases hy' with rfl | ⟨c, cap', rfl, hc⟩
      · exact .inl rfl
      · have hcb : c ≠ b := fun e => by subst e; exact hap _ hy c rfl rfl
        exact .inr ⟨c, cap', rfl, (if_neg hcb).trans hc⟩
    | tk c k =>
      have hcb : c ≠ b := fun e => by subst e; exact hap _ hy c rfl rfl
      exact (if_neg hcb).trans hy'
  · rcases List.mem_cons.1 hx with rfl | hx
    · cases hc; exact hfb
    obtain ⟨y, hy, rfl⟩ := List.mem_map.1 hx
    rw [Item.own_blk] at hc
    exact h.new y (List.mem_cons_of_mem _ hy) c hc
  · obtain ⟨y, hy, rfl⟩ := List.mem_map.1 hx
    rw [Item.own_blk]
    cases hc
    exact hap y hy _ rfl
  · rw [List.pairwise_map]
    refine hap'.imp fun {x y} hxy c hc => ?_
    rw [Item.own_blk] at hc ⊢
    exact hxy c hc
theorem Lay.ne {st t : St} {L : List Item} {a b : Nat} {k l : List AV} (h : Lay st (.box a k :: .box b l :: L) t) : a ≠ b := fun e => by
  have := (List.pairwise_cons.1 h.apart).1 _ List.mem_cons_self a rfl
  rw [e] at this
  exact this rfl
section
variable {G : Glob} {C : CallsP}
/-- Ways meet where rows may become data. -/
theorem pjoinF {a b : PCode} {l : List Nat} {Q : PEx → Slots → St → Prop} {s : Slots} {t : St} (J : Slots → St → Prop) (h1 : pwp G C a (PEx.next (fun s' t' => ∃ s2 t2, Frz (trim (some l) s') t' s2 t2 ∧ J s2 t2) Q) s t)
    (h2 : ∀ s t, J s t → pwp G C b Q s t) : pwp G C (.seq a (.keep l b)) Q s t :=
  pseqk (pwp_mono (PEx.next_mono (K := fun s' t' => ∃ s2 t2, Frz (trim (some l) s') t' s2 t2 ∧ J s2 t2) (fun _ _ ⟨s2, t2, k1, k2⟩ => ⟨s2, t2, k1, h2 _ _ k2⟩) fun _ _ _ k => k) h1)
theorem pjoinO {ops : List POper} {b : PCode} {l : List Nat} {Q Q' : PEx → Slots → St → Prop} {x : X} (J : Slots → St → Prop) (h1 : pops G C ops (fun x => PEx.next (fun s' t' => ∃ s2 t2, Frz (trim (some l) s') t' s2 t2 ∧ J s2 t2) Q' .normal x.sl x.m.st) x)
    (h2 : ∀ s t, J s t → pwp G C b Q s t) : pops G C ops (fun x => PEx.next (pwp G C (.keep l b) Q) Q' .normal x.sl x.m.st) x :=
  pops_mono (fun _ ⟨s2, t2, k1, k2⟩ => ⟨s2, t2, k1, h2 _ _ k2⟩) h1
theorem pkeepF {l : List Nat} {b : PCode} {Q : PEx → Slots → St → Prop} {s : Slots} {t : St} {s2 : Slots} {t2 : St} (h1 : Frz (trim (some l) s) t s2 t2) (h2 : pwp G C b Q s2 t2) : pwp G C (.keep l b) Q s t := ⟨s2, t2, h1, h2⟩
theorem po_makeL {st t : St} {L : List Item} {sz bytes : Nat} {z : List AV} {x y : Arg} {d : Option Nat} {rest : List POper} {K : X → Prop} {s : Slots} {m : Mx} {l c : Nat} (hL : Lay st L t) (hm : m.st = t) (hx : x.ev G s = i64 l) (hy : y.ev G s = i64 c)
    (hlc : l ≤ c ∧ c * bytes ≤ 281474976710656) (h : ∀ b t', Lay st (.box b (List.replicate c z).flatten :: L) t' → pops G C rest K ⟨put s d (.bsl b 0 l c), m.setSt t'⟩) :
    pops G C (⟨d, .make sz bytes z x y, none⟩ :: rest) K ⟨s, m⟩ := by
  rw [pops_plain]
  unfold ostep
  simp only [nf, hx, hy, i64, Int.toNat_natCast]
  have hd : decide ((0 : Int) ≤ (l : Int) ∧ (l : Int) ≤ (c : Int) ∧ (c : Int) * (bytes : Int) ≤ 281474976710656) = true := decide_eq_true ⟨by omega, by omega, by rw [← Int.natCast_mul]; have := hlc.2; omega⟩
  exact ⟨hd, fun b hb => h b _ (by rw [hm] at hb ⊢; exact hL.alloc hb _)⟩
theorem po_appBL {st t : St} {L : List Item} {sz bytes : Nat} {x y : Arg} {d : Option Nat} {rest : List POper} {K : X → Prop} {s : Slots} {m : Mx} {news : List (List Dat)} (hL : Lay st L t) (hm : m.st = t) (hx : x.ev G s = .full []) (hy : (y.ev G s).rows? = some news)
    (hn : ∀ r ∈ news, r.length = sz) (hfit : news.length * bytes ≤ 140737488355328) (h0 : news = [] → Lay st L t → pops G C rest K ⟨put s d (.full []), m⟩)
    (h : ∀ b cap t', news ≠ [] → news.length ≤ cap → Lay st (.box b (news.flatten.map .d ++ List.replicate ((cap - news.length) * sz) .undef) :: L) t' → pops G C rest K ⟨put s d (.bsl b 0 news.length cap), m.setSt t'⟩) :
    pops G C (⟨d, .appB sz bytes x y, none⟩ :: rest) K ⟨s, m⟩ := by
  rw [pops_plain]
  unfold ostep
  simp only [nf, hx, hy]
  refine ⟨hn, ?_⟩
  show (∀ r ∈ ([] : List (List Dat)), r.length = sz) ∧ (([] : List (List Dat)).length + news.length) * bytes ≤ 140737488355328 ∧ _
  refine ⟨fun r hr => (by cases hr), by simpa using hfit, ?_⟩
  split
  · rename_i e
    exact h0 e hL
  · rename_i e
    intro b cap hb hc
    have := h b cap _ e (by simpa using hc) (by rw [hm] at hb; exact hL.alloc hb _)
    simp only [List.length_nil, Nat.zero_add, List.nil_append] at hc ⊢
    rw [hm]
    exact this
end
theorem cells_weak (l : List Dat) (n : Nat) : (l.map AV.d ++ List.replicate n AV.undef).map AV.weak1 = l.map AV.d ++ List.replicate n AV.undef := by
  simp [AV.weak1, Function.comp_def]
theorem cells_len {rows : List (List Dat)} {sz cap : Nat} (hs : ∀ r ∈ rows, r.length = sz) (hc : rows.length ≤ cap) : (rows.flatten.map AV.d ++ List.replicate ((cap - rows.length) * sz) AV.undef).length = cap * sz := by
  rw [List.length_append, List.length_map, flat_len hs, List.length_replicate, ← Nat.add_mul]
  congr 1; omega
theorem own_put (s : Slots) (d : Option Nat) (v : AV) (b : Nat) (rows : List (List Dat)) (k : Nat) : (fun i => (put s d v i).ownA b rows k) = put (fun i => (s i).ownA b rows k) d (v.ownA b rows k) := by
  funext i
  cases d with
  | none => rfl
  | some j =>
    simp only [put]
    split <;> rfl
theorem own_undef (b : Nat) (rows : List (List Dat)) (k : Nat) : (fun _ : Nat => AV.undef.ownA b rows k) = fun _ => AV.undef := rfl
theorem VF.sl (rows : List (List Dat)) : VF (.d (.sl rows)) rows := ⟨rfl, rfl, rfl, rfl, rfl, rfl⟩
theorem VF.nil {rows : List (List Dat)} (h : rows = []) : VF (.full []) rows := by subst h; exact ⟨rfl, rfl, rfl, rfl, rfl, rfl⟩
theorem VF.own1 {v : AV} {r : List (List Dat)} (h : VF v r) (b : Nat) (rows : List (List Dat)) (k : Nat) : v.own1 b rows k = v := by
  cases v with
  | bsl c o n k => have := h.weak; cases this
  | _ => rfl
/-- Slots, once a row is data. -/
theorem frz_put (s : Slots) (d : Option Nat) (v : AV) (b : Nat) (rows : List (List Dat)) : (fun i => (put s d v i).frz b rows) = put (fun i => (s i).frz b rows) d (v.frz b rows) := by
  funext i
  cases d with
  | none => rfl
  | some k =>
    simp only [put]
    split <;> rfl
theorem frz_undef (b : Nat) (rows : List (List Dat)) : (fun _ : Nat => AV.undef.frz b rows) = fun _ => AV.undef := rfl
theorem pvf (b : Nat) (rows : List (List Dat)) : (∀ x : Dat, (AV.d x).frz1 b rows = .d x) ∧ (∀ l, (AV.full l).frz1 b rows = .full l) ∧ (∀ c l k, (AV.own c l k).frz1 b rows = .own c l k) ∧ (∀ n, (i64 n).frz b rows = i64 n) ∧ (∀ n, (ptrAt n).frz b rows = ptrAt n) ∧ (∀ n, (b2 n).frz b rows = b2 n) ∧ (∀ x : Dat, (AV.d x).frz b rows = .d x) ∧
    (∀ cap, (AV.bsl b 0 rows.length cap).frz1 b rows = .d (.sl rows)) ∧ (∀ n, (i64 n).frz1 b rows = i64 n) ∧ (∀ n, (b2 n).frz1 b rows = b2 n) :=
  ⟨fun _ => rfl, fun _ => rfl, fun _ _ _ => rfl, fun _ => rfl, fun _ => rfl, fun _ => rfl, fun _ => rfl, fun _ => if_pos ⟨rfl, rfl, rfl⟩, fun _ => rfl, fun _ => rfl⟩
theorem VF.frz1 {v : AV} {r : List (List Dat)} (h : VF v r) (b : Nat) (rows : List (List Dat)) : v.frz1 b rows = v := by
  cases v with
  | bsl c o n k => have := h.weak; cases this
  | _ => rfl
end Go.Pv
/- Loads that are for good, in a state as a list: what they saw stands all the while. No condition. -/
namespace Go.Pv

/-- Of these variables nothing changes in a region. -/
structure Stb (H : List Item) (m : Mx) : Prop where
  watch : ∀ b c, m.watch b c → Item.box b c ∈ H
  hist : ∀ h, m.hist h → ∀ b c, Item.box b c ∈ H → h.box b = some c
theorem Stb.start (H : List Item) (s : Slots) (t : St) : Stb H (pX s t).m := ⟨fun _ _ h => h.elim, fun _ h => h.elim⟩
theorem Stb.setSt {H : List Item} {m : Mx} (h : Stb H m) (t : St) : Stb H (m.setSt t) := ⟨h.watch, h.hist⟩
theorem Stb.see {H : List Item} {m : Mx} (h : Stb H m) {b : Nat} {c : List AV} (hb : Item.box b c ∈ H) : Stb H (m.see b c) :=
  ⟨fun b' c' k => by
    rcases k with k | ⟨rfl, rfl⟩
    · exact h.watch _ _ k
    · exact hb, h.hist⟩
theorem Stb.past {H : List Item} {m : Mx} (h : Stb H m) {st : St} {L R : List Item} (hL : Lay st L m.st) (hp : Pick L H R) (t : St) : Stb H (m.past t) :=
  ⟨h.watch, fun x k b c hb => by
    rcases k with k | rfl
    · exact h.hist _ k _ _ hb
    · exact (hL.pick hp).ok _ hb⟩
theorem Stb.holds {H : List Item} {m : Mx} (h : Stb H m) {st t : St} {L R : List Item} (hL : Lay st L t) (hp : Pick L H R) : m.holds t := fun b c k => (hL.pick hp).ok _ (h.watch b c k)
section
variable {G : Glob} {C : CallsP}
theorem po_loadSt {st t : St} {L R H K1 : List Item} {ag : Bool} {sz : Nat} {x : Arg} {d : Option Nat} {rest : List POper} {K : X → Prop} {s : Slots} {m : Mx} {b o : Nat} {cells : List AV} (hS : Stb H m) (hL : Lay st L t) (hm : m.st = t) (hx : x.ev G s = .d (.ptr b o)) (hr : Rem (.box b cells) H R)
    (hp : Pick L H K1) {v : AV} (hv : ldv ag sz (cells.drop o) = some v) (h : Stb H (m.see b cells) → pops G C rest K ⟨put s d v, m.see b cells⟩) : pops G C (⟨d, .load ag sz x true, none⟩ :: rest) K ⟨s, m⟩ := by
  rw [pops_plain]
  unfold ostep
  simp only [nf, hx, if_true]
  have hin : Item.box b cells ∈ H := hr.perm.mem_iff.2 List.mem_cons_self
  exact ⟨cells, by rw [hm]; exact (hL.pick hp).ok _ hin, v, hv, fun x k => hS.hist x k _ _ hin, h (hS.see hin)⟩
theorem po_callSt {α : Type} {f : FuncId} {args : List Arg} {d : Option Nat} {rest : List POper} {K : X → Prop} {s : Slots} {m : Mx} {as : List AV} {st t : St} {L F R H K1 : List Item} {res : α → AV} {F' : α → List Item} (hS : Stb H m) (hL : Lay st L t) (hm : m.st = t)
    (hargs : (args.map fun (p : Arg) => p.ev G s).map AV.weak = as) (hc : CL C f as F res F') (hp : Pick L F R) (hH : Pick R H K1)
    (h : ∀ a t', Lay st (F' a ++ R) t' → Stb H (m.past t') → pops G C rest K ⟨put s d (res a), m.past t'⟩) : pops G C (⟨d, .call f args, none⟩ :: rest) K ⟨s, m⟩ := by
  obtain ⟨st1, h1, h2⟩ := (hL.perm hp.perm).split
  have hR : Lay st R m.st := by rw [hm]; exact (hL.perm (hp.perm.trans List.perm_append_comm)).left
  rw [pops_plain]
  unfold ostep
  simp only [nf, hargs]
  refine ⟨_, by rw [hm]; exact hc.2 st1 t h2, ?_, ?_⟩
  · obtain ⟨a, t', k1, _⟩ := hc.1.witness h2 [] (fun b hb => by cases hb)
    exact ⟨_, t', a, rfl, k1⟩
  · rintro r t' ⟨a, rfl, k⟩
    have hJ := h1.join k
    exact ⟨hS.holds (hJ.perm List.perm_append_comm).left hH, h a t' hJ (hS.past hR hH t')⟩
theorem po_callvSt {α : Type} {x : Arg} {f : FuncId} {first caps : List Dat} {args : List Arg} {d : Option Nat} {rest : List POper} {K : X → Prop} {s : Slots} {m : Mx} {as : List AV} {st t : St} {L F R H K1 : List Item} {res : α → AV} {F' : α → List Item} (hS : Stb H m) (hL : Lay st L t) (hm : m.st = t)
    (hx : x.ev G s = .d (.fn f first caps)) (hargs : first.map .d ++ ((args.map fun (p : Arg) => p.ev G s).map AV.weak) ++ caps.map .d = as) (hc : CL C f as F res F') (hp : Pick L F R) (hH : Pick R H K1)
    (h : ∀ a t', Lay st (F' a ++ R) t' → Stb H (m.past t') → pops G C rest K ⟨put s d (res a), m.past t'⟩) : pops G C (⟨d, .callv x args, none⟩ :: rest) K ⟨s, m⟩ := by
  obtain ⟨st1, h1, h2⟩ := (hL.perm hp.perm).split
  have hR : Lay st R m.st := by rw [hm]; exact (hL.perm (hp.perm.trans List.perm_append_comm)).left
  rw [pops_plain]
  unfold ostep
  simp only [nf, hx, hargs]
  refine ⟨_, by rw [hm]; exact hc.2 st1 t h2, ?_, ?_⟩
  · obtain ⟨a, t', k1, _⟩ := hc.1.witness h2 [] (fun b hb => by cases hb)
    exact ⟨_, t', a, rfl, k1⟩
  · rintro r t' ⟨a, rfl, k⟩
    have hJ := h1.join k
    exact ⟨hS.holds (hJ.perm List.perm_append_comm).left hH, h a t' hJ (hS.past hR hH t')⟩
theorem po_callPu {st t : St} {L H K1 : List Item} {f : FuncId} {args : List Arg} {d : Option Nat} {rest : List POper} {K : X → Prop} {s : Slots} {m : Mx} {as : List AV} {v : AV} (hS : Stb H m) (hL : Lay st L t) (hm : m.st = t)
    (hargs : (args.map fun (p : Arg) => p.ev G s).map AV.weak = as) (hc : Pure C f as v) (hH : Pick L H K1)
    (h : Stb H (m.past m.st) → pops G C rest K ⟨put s d v, m.past m.st⟩) : pops G C (⟨d, .call f args, none⟩ :: rest) K ⟨s, m⟩ := by
  have hL' : Lay st L m.st := by rw [hm]; exact hL
  rw [pops_plain]
  unfold ostep
  simp only [nf, hargs]
  refine ⟨_, hc m.st, ⟨v, m.st, rfl, rfl⟩, ?_⟩
  rintro r t' ⟨rfl, rfl⟩
  exact ⟨hS.holds hL' hH, h (hS.past hL' hH _)⟩
theorem po_storeSt {st t : St} {L R H K1 : List Item} {sz : Nat} {x y : Arg} {d : Option Nat} {rest : List POper} {K : X → Prop} {s : Slots} {m : Mx} {b o : Nat} {cs cells out : List AV} (hS : Stb H m) (hL : Lay st L t) (hm : m.st = t) (hx : x.ev G s = .d (.ptr b o)) (hr : Rem (.box b cells) L R) (hy : (y.ev G s).cells = cs)
    (hl : cs.length = sz ∧ cs.all AV.sc = true) (ho : o + sz ≤ cells.length) (hout : cells.take o ++ cs ++ cells.drop (o + sz) = out) (hH : Pick R H K1)
    (h : ∀ t', Lay st (.box b out :: R) t' → Stb H (m.past t') → pops G C rest K ⟨put s d .undef, m.past t'⟩) : pops G C (⟨d, .store sz x y, none⟩ :: rest) K ⟨s, m⟩ := by
  have hL2 := (hL.rem hr).store out
  have hR : Lay st R m.st := by rw [hm]; exact (hL.rem hr).tail
  exact po_store hx hy (by rw [hm]; exact hL.get hr) hl ho hout (by rw [hm]; exact hS.holds hL2.tail hH) (h _ (by rw [hm]; exact hL2) (hS.past hR hH _))
theorem po_callvSu {α : Type} {x : Arg} {f : FuncId} {first caps : List Dat} {args : List Arg} {d : Option Nat} {rest : List POper} {K : X → Prop} {s : Slots} {m : Mx} {as : List AV} {st t : St} {L F R H K1 : List Item} {res : α → AV} {F' : α → List Item} {K2 : α → List Item} (hS : Stb H m) (hL : Lay st L t) (hm : m.st = t)
    (hx : x.ev G s = .d (.fn f first caps)) (hargs : first.map .d ++ ((args.map fun (p : Arg) => p.ev G s).map AV.weak) ++ caps.map .d = as) (hc : CL C f as F res F') (hp : Pick L F R) (hH : Pick L H K1) (hH2 : ∀ a, Pick (F' a ++ R) H (K2 a))
    (h : ∀ a t', Lay st (F' a ++ R) t' → Stb H (m.past t') → pops G C rest K ⟨put s d (res a), m.past t'⟩) : pops G C (⟨d, .callv x args, none⟩ :: rest) K ⟨s, m⟩ := by
  obtain ⟨st1, h1, h2⟩ := (hL.perm hp.perm).split
  have hL' : Lay st L m.st := by rw [hm]; exact hL
  rw [pops_plain]
  unfold ostep
  simp only [nf, hx, hargs]
  refine ⟨_, by rw [hm]; exact hc.2 st1 t h2, ?_, ?_⟩
  · obtain ⟨a, t', k1, _⟩ := hc.1.witness h2 [] (fun b hb => by cases hb)
    exact ⟨_, t', a, rfl, k1⟩
  · rintro r t' ⟨a, rfl, k⟩
    have hJ := h1.join k
    exact ⟨hS.holds hJ (hH2 a), h a t' hJ (hS.past hL' hH t')⟩
theorem po_storeoL {st t : St} {L R : List Item} {sz : Nat} {x y : Arg} {d : Option Nat} {rest : List POper} {K : X → Prop} {s : Slots} {m : Mx} {b o : Nat} {cs cells out : List AV} (hL : Lay st L t) (hm : m.st = t) (hx : x.ev G s = .d (.ptr b o)) (hr : Rem (.box b cells) L R) (hy : (y.ev G s).cells = cs)
    (hl : cs.length = sz ∧ cs.all AV.sc = true) (ho : o + sz ≤ cells.length) (hout : cells.take o ++ cs ++ cells.drop (o + sz) = out)
    (h : ∀ t', Lay st (.box b out :: R) t' → pops G C rest K ⟨put s d .undef, ⟨t', fun _ _ => False, fun _ => False⟩⟩) : pops G C (⟨d, .storeo sz x y, none⟩ :: rest) K ⟨s, m⟩ := by
  have hL2 := (hL.rem hr).store out
  rw [pops_plain]
  unfold ostep
  simp only [nf, hx]
  subst hout
  subst hy
  refine ⟨cells, by rw [hm]; exact hL.get hr, hl, ho, ?_⟩
  rw [hm]
  exact h _ hL2
end
end Go.Pv
/- Elements of a variable's row: where they stand, what is stored there. No condition. -/
namespace Go.Pv
theorem cells_frz (l : List Dat) (n b : Nat) (rows : List (List Dat)) : (l.map AV.d ++ List.replicate n AV.undef).map (AV.frz1 b rows) = l.map AV.d ++ List.replicate n AV.undef := by
  simp [AV.frz1, Function.comp_def]
theorem pvo (b : Nat) (rows : List (List Dat)) (k : Nat) : (∀ x : Dat, (AV.d x).own1 b rows k = .d x) ∧ (∀ l, (AV.full l).own1 b rows k = .full l) ∧ (∀ c l j, (AV.own c l j).own1 b rows k = .own c l j) := ⟨fun _ => rfl, fun _ => rfl, fun _ _ _ => rfl⟩
theorem iaddr_bslK {G : Glob} {s : Slots} {a x : Arg} {b off n cap sz k : Nat} (ha : a.ev G s = .bsl b off n cap) (hx : x.ev G s = i64 k) (hn : k < n) : ev G s (.iaddr sz a x) = some (.d (.ptr b (off + k * sz))) := by
  simp only [ev, ha, hx, i64]
  rw [if_pos (by omega)]
  simp
theorem iaddr_bslZ {G : Glob} {s : Slots} {a x : Arg} {b n cap sz k : Nat} (ha : a.ev G s = .bsl b 0 n cap) (hx : x.ev G s = i64 k) (hn : k < n) : ev G s (.iaddr sz a x) = some (.d (.ptr b (k * sz))) := by
  rw [iaddr_bslK ha hx hn, Nat.zero_add]
theorem sc_all (l : List Dat) : (l.map AV.d).all AV.sc = true := List.all_eq_true.2 fun x hx => by obtain ⟨y, _, rfl⟩ := List.mem_map.1 hx; rfl
theorem set_cells {rows : List (List Dat)} {sz i : Nat} (hs : ∀ r ∈ rows, r.length = sz) (hi : i < rows.length) (r : List Dat) (rest : List AV) :
    (rows.flatten.map AV.d ++ rest).take (i * sz) ++ r.map .d ++ (rows.flatten.map AV.d ++ rest).drop (i * sz + sz) = (rows.set i r).flatten.map .d ++ rest := by
  induction rows generalizing i with
  | nil => exact absurd hi (Nat.not_lt_zero _)
  | cons x xs ih =>
    have hx : x.length = sz := hs x List.mem_cons_self
    have hxs : ∀ r ∈ xs, r.length = sz := fun r hr => hs r (List.mem_cons_of_mem _ hr)
    have hxd : (x.map AV.d).length = sz := by rw [List.length_map, hx]
    cases i with
    | zero =>
      simp only [Nat.zero_mul, List.take_zero, List.nil_append, Nat.zero_add, List.set_cons_zero, List.flatten_cons, List.map_append, List.append_assoc]
      rw [List.drop_left' hxd]
    | succ i =>
      have hi' : i < xs.length := by simpa using hi
      have := ih hxs hi'
      simp only [List.set_cons_succ, List.flatten_cons, List.map_append, List.append_assoc] at this ⊢
      rw [← this]
      have e1 : (i + 1) * sz = (x.map AV.d).length + i * sz := by rw [hxd, Nat.succ_mul]; omega
      rw [e1, List.take_length_add_append, List.append_assoc, show (x.map AV.d).length + i * sz + sz = (x.map AV.d).length + (i * sz + sz) by omega]
      congr 1
      congr 1
      congr 1
      rw [List.drop_append, List.drop_eq_nil_of_le (by omega), List.nil_append, hxd]
      congr 1; omega
theorem slc_from {G : Glob} {s : Slots} {x a : Arg} {rows : List (List Dat)} {j : Nat} {sz : Nat} (hx : x.ev G s = .d (.sl rows)) (ha : a.ev G s = i64 j) (hj : j ≤ rows.length) (hs : ∀ r ∈ rows, r.length = sz) : ev G s (.slc sz x (some a) none) = some (.d (.sl (rows.drop j))) := by
  have h2 : (rows.all fun r => r.length == sz) = true := List.all_eq_true.2 fun r hr => by simp [hs r hr]
  simp only [ev, hx, ha, AV.rows?, Option.map_some, Option.map_none, i64, bnds, bnd, Option.bind_some, Int.toNat_natCast]
  rw [if_pos (by omega)]
  simp only [Option.bind_some, h2, or_true, if_true, List.take_length]
  split
  · rename_i h; rw [h.1]; simp
  · rfl
theorem slc_rowsV {G : Glob} {s : Slots} {x b : Arg} {v : AV} {rows : List (List Dat)} {j : Nat} {sz : Nat} (fv : VF v rows) (hx : x.ev G s = v) (hb : b.ev G s = i64 j) (hj : j ≤ rows.length) : ev G s (.slc sz x none (some b)) = some (if j = rows.length then v else .d (.sl (rows.take j))) := by
  have h1 := fv.rows
  have h2 : ∀ b o n c, v ≠ .bsl b o n c := fun b o n c e => by rw [e] at h1; cases h1
  simp only [ev, hx, hb, Option.map_some, Option.map_none, i64, bnds, bnd]
  rw [h1]
  simp only [Option.bind_some, Int.toNat_natCast]
  rw [if_pos (by omega)]
  simp only [Option.bind_some, true_and, true_or, if_true, List.drop_zero]
  split <;> rfl
theorem po_iaddr0 {G : Glob} {C : CallsP} {α : Type} {f : α → List Dat} {l : List α} {y : α} {d : Option Nat} {rest : List POper} {K : X → Prop} {s : Slots} {m : Mx} {a b : Arg} {v : AV} {sz : Nat} (hk : l[0]? = some y) (hs : (f y).length = sz) (h : pops G C rest K ⟨put s d (.elt (f y)), m⟩)
    (ha : a.ev G s = v := by rfl) (hv : v.rows? = some (l.map f) := by rfl) (hb : b.ev G s = .d (.int .i64 0) := by rfl) : pops G C (⟨d, .iaddr sz a b, none⟩ :: rest) K ⟨s, m⟩ :=
  po_iaddrM (k := 0) ha hv hb hk hs h
/-- One variable, one slice that grows in it; others beside them. -/
theorem Sat.out (p : Nat) (l : List AV) (l' : AV → List AV) (v : AV) (r r1 : List (List Dat)) (s s1 : Nat) (B : List (Nat × List AV)) (hnd : (p :: B.map Prod.fst).Nodup) :
    Sat (.box p l :: .vec v r s :: B.map fun x => .box x.1 x.2) (fun a : AV => .box p (l' a) :: .vec a r1 s1 :: B.map fun x => .box x.1 x.2) := by
  intro N
  refine ⟨.full r1, fun x hx => ?_, ?_⟩
  · simp only [List.mem_cons] at hx
    rcases hx with rfl | rfl | hx
    · exact .inl ⟨_, List.mem_cons_self, rfl⟩
    · rfl
    · obtain ⟨y, hy, rfl⟩ := List.mem_map.1 hx
      exact .inl ⟨_, List.mem_cons_of_mem _ (List.mem_cons_of_mem _ (List.mem_map.2 ⟨y, hy, rfl⟩)), rfl⟩
  · rw [List.nodup_cons] at hnd
    refine List.pairwise_cons.2 ⟨fun x hx b hb => ?_, List.pairwise_cons.2 ⟨fun _ _ b (hb : none = some b) => (nomatch hb), ?_⟩⟩
    · cases hb
      simp only [List.mem_cons] at hx
      rcases hx with rfl | hx
      · simp [Item.blk, AV.own?]
      · obtain ⟨y, hy, rfl⟩ := List.mem_map.1 hx
        simp only [Item.blk, ne_eq, Option.some.injEq]
        intro e
        exact hnd.1 (List.mem_map.2 ⟨y, hy, e⟩)
    · rw [List.pairwise_map]
      have := List.pairwise_map.1 hnd.2
      refine this.imp fun {x y} h b hb => ?_
      cases hb
      simp only [Item.blk, ne_eq, Option.some.injEq]
      exact fun e => h e.symm
/-- A loop that counts up. -/
theorem pupA {G : Glob} {C : CallsP} {keep : Option (List Nat)} {c : PCode} {Q : PEx → Slots → St → Prop} {s : Slots} {t : St} (n : Nat) (J : Nat → Slots → St → Prop) (h0 : J 0 (trim keep s) t)
    (hstep : ∀ k s t, k ≤ n → J k s t → pwp G C c (PEx.next (fun s' t' => k < n ∧ J (k + 1) (trim keep s') t') Q) s t) : pwp G C (.loop keep c) Q s t := by
  refine ploop (fun m s t => ∃ k, k ≤ n ∧ m = n - k ∧ J k s t) ?_ (m := n) ⟨0, Nat.zero_le _, rfl, h0⟩
  rintro m s t ⟨k, hk, rfl, hJ⟩
  exact pwp_mono (PEx.next_mono (fun s' t' ⟨h1, h2⟩ => ⟨n - (k + 1), by omega, k + 1, by omega, rfl, h2⟩) fun _ _ _ h => h) (hstep k s t hk hJ)
theorem map_set {α β : Type} (f : α → β) (l : List α) (i : Nat) (x : α) : (l.map f).set i (f x) = (l.set i x).map f := by rw [List.map_set]
end Go.Pv
/- A text's bytes behind a slice. No condition. -/
namespace Go.Pv
/-- A text's bytes behind a slice. -/
theorem po_appSL {G : Glob} {C : CallsP} {st t : St} {L R : List Item} {x y : Arg} {d : Option Nat} {rest : List POper} {K : X → Prop} {s : Slots} {m : Mx} {v : AV} {rows : List (List Dat)} {z : ByteArray} (hL : Lay st L t) (hrs : ∀ r ∈ rows, r.length = 1) (hfit : (rows.length + z.size) * 1 ≤ 140737488355328)
    (h : ∀ v' t', VF v' (rows ++ rowsOfStr z) → Lay st (.vec v' (rows ++ rowsOfStr z) 1 :: R) t' → pops G C rest K ⟨put s d v', m.setSt t'⟩) (hm : m.st = t := by rfl) (hx : x.ev G s = v := by rfl) (hr : Rem (.vec v rows 1) L R := by (repeat (first | exact Rem.head | apply Rem.tail))) (hy : y.ev G s = .d (.str z) := by rfl) :
    pops G C (⟨d, .appS x y, none⟩ :: rest) K ⟨s, m⟩ := by
  have hsz : (rowsOfStr z).length = z.size := by
    rw [rowsOfStr, List.length_map, Array.length_toList]; rfl
  have := po_appL (G := G) (C := C) (sz := 1) (bytes := 1) (x := x) (y := .c (.d (.sl (rowsOfStr z)))) (d := d) (rest := rest) (K := K) (s := s) (m := m) (news := rowsOfStr z) hL hm hx hr rfl hrs (fun r hr => by
    obtain ⟨b, _, rfl⟩ := List.mem_map.1 hr; rfl) (by rw [hsz]; exact hfit) h
  rw [pops_plain] at this ⊢
  unfold ostep at this ⊢
  have hc : (Arg.c (.d (.sl (rowsOfStr z)))).ev G s = .d (.sl (rowsOfStr z)) := rfl
  simp only [nf, hy, hc, AV.rows?] at this ⊢
  exact this
theorem VF.weakA {v : AV} {l : List (List Dat)} (h : VF v l) : v.weakA = .d (.sl l) := by
  have hw := h.weak
  cases v with
  | agg cells => cases hw
  | tup vs => cases hw
  | _ => exact hw
end Go.Pv
