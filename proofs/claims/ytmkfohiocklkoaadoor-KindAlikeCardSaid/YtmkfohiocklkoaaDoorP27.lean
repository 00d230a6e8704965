/- Rows that nobody writes any more, in a state as a list. No condition. -/
import Derived.Test.YtmkfohiocklkoaaDoorP26
namespace Go.Pv

def Item.frz (b : Nat) (rows : List (List Dat)) : Item → Item
  | .box c cells => .box c (cells.map (AV.frz1 b rows))
  | x => x
theorem Item.frz_blk (b : Nat) (rows : List (List Dat)) (x : Item) : (x.frz b rows).blk = x.blk := by cases x <;> rfl
theorem Lay.frz {st t : St} {L : List Item} {b sz : Nat} {cells rest : List AV} {rows : List (List Dat)} (h : Lay st (.box b cells :: L) t) (hs : ∀ r ∈ rows, r.length = sz) (hw : cells.map AV.weak1 = rows.flatten.map .d ++ rest) :
    ∃ t', (∀ s, Frz s t (fun i => (s i).frz b rows) t') ∧ Lay st (L.map (Item.frz b rows)) t' := by
  have hb : t.box b = some cells := h.head
  have hfb : st.fresh b := h.new _ List.mem_cons_self b rfl
  obtain ⟨hap, hap'⟩ := List.pairwise_cons.1 h.apart
  let S : Nat → Bool := fun c => decide (some c ∈ L.map Item.blk)
  have hS : ∀ c, S c = true ↔ ∃ x ∈ L, x.blk = some c := fun c => by simp [S]
  refine ⟨t.frz b rows S, fun s => .step b sz rows rest cells S hs hb hw (.refl _ _), ⟨⟨fun c l hc => ?_, fun c k hc => h.le.tok c k hc⟩, fun x hx => ?_, fun x hx c hc => ?_, ?_⟩⟩
  · have hcb : c ≠ b := fun e => by subst e; rw [hfb.1] at hc; cases hc
    have hSc : ¬ S c = true := fun e => by
      obtain ⟨x, hx, hxb⟩ := (hS c).1 e
      have := (h.new x (List.mem_cons_of_mem _ hx) c hxb).1
      rw [hc] at this; cases this
    show (if c = b then none else (t.box c).map fun cells => if S c = true then cells.map (AV.frz1 b rows) else cells) = some l
    rw [if_neg hcb, h.le.box c l hc]
    simp [hSc]
  · obtain ⟨y, hy, rfl⟩ := List.mem_map.1 hx
    have hy' := h.ok y (List.mem_cons_of_mem _ hy)
    cases y with
    | box c l =>
      have hcb : c ≠ b := fun e => by
        subst e
        exact hap _ hy c rfl rfl
      have hSc : S c = true := (hS c).2 ⟨_, hy, rfl⟩
      show (if c = b then none else (t.box c).map fun cells => if S c = true then cells.map (AV.frz1 b rows) else cells) = some (l.map (AV.frz1 b rows))
      rw [if_neg hcb, show t.box c = some l from hy']
      simp [hSc]
    | vec v rows' sz' => exact hy'
  · obtain ⟨y, hy, rfl⟩ := List.mem_map.1 hx
    rw [Item.frz_blk] at hc
    exact h.new y (List.mem_cons_of_mem _ hy) c hc
  · rw [List.pairwise_map]
    refine hap'.imp fun {x y} hxy c hc => ?_
    rw [Item.frz_blk] at hc ⊢
    exact hxy c hc
def Item.own (b : Nat) (rows : List (List Dat)) (k : Nat) : Item → Item
  | .box c cells => .box c (cells.map (AV.own1 b rows k))
  | x => x
theorem Item.own_blk (b : Nat) (rows : List (List Dat)) (k : Nat) (x : Item) : (x.own b rows k).blk = x.blk := by cases x <;> rfl
/-- A variable's row that may grow from here on. -/
theorem Lay.own {st t : St} {L : List Item} {b sz cap : Nat} {cells rest : List AV} {rows : List (List Dat)} (h : Lay st (.box b cells :: L) t) (hs : ∀ r ∈ rows, r.length = sz) (hw : cells.map AV.weak1 = rows.flatten.map .d ++ rest) (hl : cells.length = cap * sz) (hc : rows.length ≤ cap) :
    ∃ t', (∀ s, Frz s t (fun i => (s i).ownA b rows cap) t') ∧ Lay st (.vec (.own b rows cap) rows sz :: L.map (Item.own b rows cap)) t' := by
  have hb : t.box b = some cells := h.head
  have hfb : st.fresh b := h.new _ List.mem_cons_self b rfl
  obtain ⟨hap, hap'⟩ := List.pairwise_cons.1 h.apart
  let S : Nat → Bool := fun c => decide (some c ∈ L.map Item.blk)
  have hS : ∀ c, S c = true ↔ ∃ x ∈ L, x.blk = some c := fun c => by simp [S]
  refine ⟨t.own b rows cap sz S, fun s => .own b sz cap rows rest cells S hs hb hw hl hc (.refl _ _), ⟨⟨fun c l hc => ?_, fun c k hc => ?_⟩, fun x hx => ?_, fun x hx c hc => ?_, List.pairwise_cons.2 ⟨fun x hx c hc => ?_, ?_⟩⟩⟩
  · have hcb : c ≠ b := fun e => by subst e; rw [hfb.1] at hc; cases hc
    have hSc : ¬ S c = true := fun e => by
      obtain ⟨x, hx, hxb⟩ := (hS c).1 e
      have := (h.new x (List.mem_cons_of_mem _ hx) c hxb).1
      rw [hc] at this; cases this
    show (if c = b then none else (t.box c).map fun cells => if S c = true then cells.map (AV.own1 b rows cap) else cells) = some l
    rw [if_neg hcb, h.le.box c l hc]
    simp [hSc]
  · have hcb : c ≠ b := fun e => by subst e; rw [hfb.2] at hc; cases hc
    exact (if_neg hcb).trans (h.le.tok c k hc)
  · rcases List.mem_cons.1 hx with rfl | hx
    · exact .inr ⟨b, cap, rfl, if_pos rfl⟩
    obtain ⟨y, hy, rfl⟩ := List.mem_map.1 hx
    have hy' := h.ok y (List.mem_cons_of_mem _ hy)
    cases y with
    | box c l =>
      have hcb : c ≠ b := fun e => by
        subst e
        exact hap _ hy c rfl rfl
      have hSc : S c = true := (hS c).2 ⟨_, hy, rfl⟩
      show (if c = b then none else (t.box c).map fun cells => if S c = true then cells.map (AV.own1 b rows cap) else cells) = some (l.map (AV.own1 b rows cap))
      rw [if_neg hcb, show t.box c = some l from hy']
      simp [hSc]
    | vec v rows' sz' =>
      rcases hy' with rfl | ⟨c, cap', rfl, hc⟩
      · exact .inl rfl
      · have hcb : c ≠ b := fun e => by subst e; exact hap _ hy c rfl rfl
        exact .inr ⟨c, cap', rfl, (if_neg hcb).trans hc⟩
  · rcases List.mem_cons.1 hx with rfl | hx
    · cases hc; exact hfb
    obtain ⟨y, hy, rfl⟩ := List.mem_map.1 hx
    rw [Item.own_blk] at hc
    exact h.new y (List.mem_cons_of_mem _ hy) c hc
  · obtain ⟨y, hy, rfl⟩ := List.mem_map.1 hx
    rw [Item.own_blk]
    cases hc
    exact hap y hy _ rfl
  · rw [List.pairwise_map]
    refine hap'.imp fun {x y} hxy c hc => ?_
    rw [Item.own_blk] at hc ⊢
    exact hxy c hc
theorem Lay.ne {st t : St} {L : List Item} {a b : Nat} {k l : List AV} (h : Lay st (.box a k :: .box b l :: L) t) : a ≠ b := fun e => by
  have := (List.pairwise_cons.1 h.apart).1 _ List.mem_cons_self a rfl
  rw [e] at this
  exact this rfl
section
variable {G : Glob} {C : CallsP}
/-- Ways meet where rows may become data. -/
theorem pjoinF {a b : PCode} {l : List Nat} {Q : PEx → Slots → St → Prop} {s : Slots} {t : St} (J : Slots → St → Prop) (h1 : pwp G C a (PEx.next (fun s' t' => ∃ s2 t2, Frz (trim (some l) s') t' s2 t2 ∧ J s2 t2) Q) s t)
    (h2 : ∀ s t, J s t → pwp G C b Q s t) : pwp G C (.seq a (.keep l b)) Q s t :=
  pseqk (pwp_mono (PEx.next_mono (K := fun s' t' => ∃ s2 t2, Frz (trim (some l) s') t' s2 t2 ∧ J s2 t2) (fun _ _ ⟨s2, t2, k1, k2⟩ => ⟨s2, t2, k1, h2 _ _ k2⟩) fun _ _ _ k => k) h1)
theorem pjoinO {ops : List POper} {b : PCode} {l : List Nat} {Q Q' : PEx → Slots → St → Prop} {x : X} (J : Slots → St → Prop) (h1 : pops G C ops (fun x => PEx.next (fun s' t' => ∃ s2 t2, Frz (trim (some l) s') t' s2 t2 ∧ J s2 t2) Q' .normal x.sl x.m.st) x)
    (h2 : ∀ s t, J s t → pwp G C b Q s t) : pops G C ops (fun x => PEx.next (pwp G C (.keep l b) Q) Q' .normal x.sl x.m.st) x :=
  pops_mono (fun _ ⟨s2, t2, k1, k2⟩ => ⟨s2, t2, k1, h2 _ _ k2⟩) h1
theorem pkeepF {l : List Nat} {b : PCode} {Q : PEx → Slots → St → Prop} {s : Slots} {t : St} {s2 : Slots} {t2 : St} (h1 : Frz (trim (some l) s) t s2 t2) (h2 : pwp G C b Q s2 t2) : pwp G C (.keep l b) Q s t := ⟨s2, t2, h1, h2⟩
theorem po_makeL {st t : St} {L : List Item} {sz bytes : Nat} {z : List AV} {x y : Arg} {d : Option Nat} {rest : List POper} {K : X → Prop} {s : Slots} {m : Mx} {l c : Nat} (hL : Lay st L t) (hm : m.st = t) (hx : x.ev G s = i64 l) (hy : y.ev G s = i64 c)
    (hlc : l ≤ c ∧ c * bytes ≤ 281474976710656) (h : ∀ b t', Lay st (.box b (List.replicate c z).flatten :: L) t' → pops G C rest K ⟨put s d (.bsl b 0 l c), m.setSt t'⟩) :
    pops G C (⟨d, .make sz bytes z x y, none⟩ :: rest) K ⟨s, m⟩ := by
  rw [pops_plain]
  unfold ostep
  simp only [nf, hx, hy, i64, Int.toNat_natCast]
  have hd : decide ((0 : Int) ≤ (l : Int) ∧ (l : Int) ≤ (c : Int) ∧ (c : Int) * (bytes : Int) ≤ 281474976710656) = true := decide_eq_true ⟨by omega, by omega, by rw [← Int.natCast_mul]; have := hlc.2; omega⟩
  exact ⟨hd, fun b hb => h b _ (by rw [hm] at hb ⊢; exact hL.alloc hb _)⟩
theorem po_appBL {st t : St} {L : List Item} {sz bytes : Nat} {x y : Arg} {d : Option Nat} {rest : List POper} {K : X → Prop} {s : Slots} {m : Mx} {news : List (List Dat)} (hL : Lay st L t) (hm : m.st = t) (hx : x.ev G s = .full []) (hy : (y.ev G s).rows? = some news)
    (hn : ∀ r ∈ news, r.length = sz) (hfit : news.length * bytes ≤ 140737488355328) (h0 : news = [] → Lay st L t → pops G C rest K ⟨put s d (.full []), m⟩)
    (h : ∀ b cap t', news ≠ [] → news.length ≤ cap → Lay st (.box b (news.flatten.map .d ++ List.replicate ((cap - news.length) * sz) .undef) :: L) t' → pops G C rest K ⟨put s d (.bsl b 0 news.length cap), m.setSt t'⟩) :
    pops G C (⟨d, .appB sz bytes x y, none⟩ :: rest) K ⟨s, m⟩ := by
  rw [pops_plain]
  unfold ostep
  simp only [nf, hx, hy]
  refine ⟨hn, ?_⟩
  show (∀ r ∈ ([] : List (List Dat)), r.length = sz) ∧ (([] : List (List Dat)).length + news.length) * bytes ≤ 140737488355328 ∧ _
  refine ⟨fun r hr => (by cases hr), by simpa using hfit, ?_⟩
  split
  · rename_i e
    exact h0 e hL
  · rename_i e
    intro b cap hb hc
    have := h b cap _ e (by simpa using hc) (by rw [hm] at hb; exact hL.alloc hb _)
    simp only [List.length_nil, Nat.zero_add, List.nil_append] at hc ⊢
    rw [hm]
    exact this
end
theorem cells_weak (l : List Dat) (n : Nat) : (l.map AV.d ++ List.replicate n AV.undef).map AV.weak1 = l.map AV.d ++ List.replicate n AV.undef := by
  simp [AV.weak1, Function.comp_def]
theorem cells_len {rows : List (List Dat)} {sz cap : Nat} (hs : ∀ r ∈ rows, r.length = sz) (hc : rows.length ≤ cap) : (rows.flatten.map AV.d ++ List.replicate ((cap - rows.length) * sz) AV.undef).length = cap * sz := by
  rw [List.length_append, List.length_map, flat_len hs, List.length_replicate, ← Nat.add_mul]
  congr 1; omega
theorem own_put (s : Slots) (d : Option Nat) (v : AV) (b : Nat) (rows : List (List Dat)) (k : Nat) : (fun i => (put s d v i).ownA b rows k) = put (fun i => (s i).ownA b rows k) d (v.ownA b rows k) := by
  funext i
  cases d with
  | none => rfl
  | some j =>
    simp only [put]
    split <;> rfl
theorem own_undef (b : Nat) (rows : List (List Dat)) (k : Nat) : (fun _ : Nat => AV.undef.ownA b rows k) = fun _ => AV.undef := rfl
theorem VF.sl (rows : List (List Dat)) : VF (.d (.sl rows)) rows := ⟨rfl, rfl, rfl, rfl, rfl, rfl⟩
theorem VF.nil {rows : List (List Dat)} (h : rows = []) : VF (.full []) rows := by subst h; exact ⟨rfl, rfl, rfl, rfl, rfl, rfl⟩
theorem VF.own1 {v : AV} {r : List (List Dat)} (h : VF v r) (b : Nat) (rows : List (List Dat)) (k : Nat) : v.own1 b rows k = v := by
  cases v with
  | bsl c o n k => have := h.weak; cases this
  | _ => rfl
/-- Slots, once a row is data. -/
theorem frz_put (s : Slots) (d : Option Nat) (v : AV) (b : Nat) (rows : List (List Dat)) : (fun i => (put s d v i).frz b rows) = put (fun i => (s i).frz b rows) d (v.frz b rows) := by
  funext i
  cases d with
  | none => rfl
  | some k =>
    simp only [put]
    split <;> rfl
theorem frz_undef (b : Nat) (rows : List (List Dat)) : (fun _ : Nat => AV.undef.frz b rows) = fun _ => AV.undef := rfl
theorem pvf (b : Nat) (rows : List (List Dat)) : (∀ x : Dat, (AV.d x).frz1 b rows = .d x) ∧ (∀ l, (AV.full l).frz1 b rows = .full l) ∧ (∀ c l k, (AV.own c l k).frz1 b rows = .own c l k) ∧ (∀ n, (i64 n).frz b rows = i64 n) ∧ (∀ n, (ptrAt n).frz b rows = ptrAt n) ∧ (∀ n, (b2 n).frz b rows = b2 n) ∧ (∀ x : Dat, (AV.d x).frz b rows = .d x) ∧
    (∀ cap, (AV.bsl b 0 rows.length cap).frz1 b rows = .d (.sl rows)) ∧ (∀ n, (i64 n).frz1 b rows = i64 n) ∧ (∀ n, (b2 n).frz1 b rows = b2 n) :=
  ⟨fun _ => rfl, fun _ => rfl, fun _ _ _ => rfl, fun _ => rfl, fun _ => rfl, fun _ => rfl, fun _ => rfl, fun _ => if_pos ⟨rfl, rfl, rfl⟩, fun _ => rfl, fun _ => rfl⟩
theorem VF.frz1 {v : AV} {r : List (List Dat)} (h : VF v r) (b : Nat) (rows : List (List Dat)) : v.frz1 b rows = v := by
  cases v with
  | bsl c o n k => have := h.weak; cases this
  | _ => rfl
end Go.Pv
