/- The operations that look at slots alone, by value and in the machine. No condition. -/
import Derived.Test.YtdggkhnelmonkaaDoorP6
import Derived.Great.FillDense
import Derived.Lib.ConvBytes
import Derived.Laws.BytesArg
import Derived.ChangeKeysEq
namespace Go.Pv

section
variable {D : Fr} {E : PE} {P : Program} {G : Glob} {M : Mem} {N : Nat} {x : X} {a : Act} {w : World} {o : Oper}

/-- The operation yields 'r', in memory that may be new. -/
def Gives (P : Program) (G : Glob) (M : Mem) (st : St) (a : Act) (w : World) (o : Oper) (r : AV) : Prop :=
  ∃ v w' M', (execOp a.eval o).run P w = .ok (.value v) w' ∧ AVRel M' r v ∧ WRel G M' st w' ∧ Frame st st M M' w w'
theorem Gives.same {st : St} {r : AV} {v : Value} (hW : WRel G M st w) (hr : (execOp a.eval o).run P w = .ok (.value v) w) (h : AVRel M r v) : Gives P G M st a w o r :=
  ⟨v, w, M, hr, h, hW, .refl _ _ _⟩

theorem sizeT_some {t : TypeId} {n : Nat} (h : sizeT P t = some n) : n ≠ 0 ∧ (∃ i, P.info? t = some i ∧ i.size = n) ∧ ∀ w, (sizeOf t).run P w = .ok n w := by
  unfold sizeT at h
  cases hi : P.info? t with
  | none => simp [hi] at h
  | some i =>
    simp only [hi, Option.map_some, Option.bind_some] at h
    split at h
    · cases h
    · cases h
      exact ⟨by assumption, ⟨i, rfl, rfl⟩, fun w => by simp [sizeOf, typeInfo, hi]⟩
theorem aggT_run {t : TypeId} {b : Bool} (h : aggT P t = some b) (w : World) : (isAgg t).run P w = .ok b w := by
  unfold aggT at h
  unfold isAgg
  split at h
  · cases h; rename_i hu; rw [Sem.run_bind, run_underlying hu w]; rfl
  · cases h; rename_i hu; rw [Sem.run_bind, run_underlying hu w]; rfl
  · cases h; rename_i d h1 h2 hu; rw [Sem.run_bind, run_underlying hu w]
    simp only [Result.andThen_ok]
    rfl
  · cases h

theorem add_mid (b o j : Nat) : (⟨b, o, none⟩ : Addr).add j = ⟨b, o + j, none⟩ := by unfold Addr.add; split <;> simp_all

theorem g_move {p : Operand} (hx : XRel D G M N x a w) (ho : o.op = .move p ∨ o.op = .assign p) {g : Arg} (hc : cArg p = some g) : Gives P G M x.m.st a w o (g.ev G x.sl) := by
  refine .same hx.w (v := a.eval p) ?_ (cArg_rel hx hc)
  rcases ho with ho | ho <;> simp [execOp, ho]

theorem g_pick {c p q : Operand} (hx : XRel D G M N x a w) (ho : o.op = .pick c p q) {gc gp gq : Arg} (hc : cArg c = some gc) (hp : cArg p = some gp) (hq : cArg q = some gq) {t : Bool}
    (h : gc.ev G x.sl = .d (.bool t)) : Gives P G M x.m.st a w o (if t = true then gp.ev G x.sl else gq.ev G x.sl) := by
  have h1 := cArg_rel hx hc
  rw [h] at h1
  have h2 := inv_bool h1
  refine .same hx.w (v := if t = true then a.eval p else a.eval q) (by simp [execOp, ho, h2, asBool]) ?_
  split
  · exact cArg_rel hx hp
  · exact cArg_rel hx hq

theorem rel_b2 (b : Bool) : AVRel M (b2 b) (.bool b) := .d _ _ (.bool b)
theorem rel_int (k : IntKind) (n : Int) : AVRel M (.d (.int k n)) (.int k n) := .d _ _ (.int k n)

theorem run_bin {op : BinOp} {t : TypeId} {X Y r : AV} {vx vy : Value} (h : binEv op X Y = some r) (hX : AVRel M X vx) (hY : AVRel M Y vy) :
    ∃ v, (binOp op t vx vy).run P w = .ok v w ∧ (∀ p q : Operand, (eqGuard op t p q vx vy).run P w = .ok () w) ∧ AVRel M r v := by
  unfold binEv at h
  split at h
  · rename_i k a' k' b'
    rw [inv_int hX, inv_int hY]
    have hg : ∀ p q : Operand, (eqGuard op t p q (.int k a') (.int k' b')).run P w = .ok () w := by
      intro p q
      unfold eqGuard
      split <;> rfl
    by_cases hs : op = .shl ∨ op = .shr
    · rw [if_pos hs] at h
      unfold shBin at h
      split at h
      · cases h
      · rename_i hb
        rcases hs with rfl | rfl <;> cases h <;> refine ⟨_, ?_, hg, rel_int _ _⟩ <;> simp [binOp, Op.shift, hb]
    · rw [if_neg hs] at h
      split at h
      · rename_i hk
        subst hk
        cases op <;> simp only [intBin] at h <;> (try (cases h; done)) <;> (try (simp at hs; done)) <;>
          (try (split at h <;> try (cases h; done))) <;> cases h <;>
          first
            | (refine ⟨_, ?_, hg, rel_int _ _⟩; simp [binOp, Op.intArith, Op.intDiv, Op.intBits, *]; done)
            | (refine ⟨_, ?_, hg, rel_b2 _⟩; simp [binOp, Op.intCmp]; done)
      · cases h
  · rename_i s u
    rw [inv_str hX, inv_str hY]
    have hg : ∀ p q : Operand, (eqGuard op t p q (.string s) (.string u)).run P w = .ok () w := by
      intro p q
      unfold eqGuard
      split <;> rfl
    cases op <;> simp only [strBin] at h <;> (try (cases h; done))
    case add =>
      split at h
      · rename_i hle
        cases h
        refine ⟨_, ?_, hg, .d _ _ (.str _)⟩
        simp [binOp, Op.stringOp]
        omega
      · cases h
    all_goals
      cases h
      refine ⟨_, ?_, hg, rel_b2 _⟩
      simp [binOp, Op.stringOp]
  · rename_i k p k' q
    rw [inv_flt hX, inv_flt hY]
    have hg : ∀ p' q' : Operand, (eqGuard op t p' q' (.float k p) (.float k' q)).run P w = .ok () w := by
      intro p' q'
      unfold eqGuard
      split <;> rfl
    split at h
    · rename_i hk
      subst hk
      cases op <;> simp only [fltBin] at h <;> (try (cases h; done)) <;>
        (try (simp only [Option.map_eq_some_iff] at h; obtain ⟨z, hz, rfl⟩ := h; refine ⟨_, ?_, hg, .d _ _ (.flt _ _)⟩; simp [binOp, Op.floatArith, hz]; done)) <;>
        (cases h; refine ⟨_, ?_, hg, rel_b2 _⟩; simp [binOp, Op.floatCmp])
    · cases h
  · cases h

theorem g_bin {op : BinOp} {t ty : TypeId} {p q : Operand} (hx : XRel D G M N x a w) (ho : o.op = .binOp op t p q ty) {gp gq : Arg} (hp : cArg p = some gp) (hq : cArg q = some gq) {r : AV}
    (h : binEv op (gp.ev G x.sl) (gq.ev G x.sl) = some r) : Gives P G M x.m.st a w o r := by
  obtain ⟨v, h1, h2, h3⟩ := run_bin (P := P) (t := t) (w := w) h (cArg_rel hx hp) (cArg_rel hx hq)
  exact .same hx.w (by simp [execOp, ho, h1, h2]) h3


def nilOf : Nat → Value
  | 0 => .pointer none
  | 1 => .slice none 0 0
  | 2 => .nilFunc
  | _ => .nilIface
def nilTy (d : TypeDesc) : Nat → Prop
  | 0 => ∃ e, d = .pointer e
  | 1 => ∃ e, d = .slice e
  | 2 => ∃ p r v, d = .func p r v
  | _ => ∃ m, d = .interface m
theorem isNilConst_spec {t : TypeId} {q : Operand} {kd : Nat} (h : isNilConst P t q = some kd) : q = .const (nilOf kd) ∧ kd ≤ 3 ∧ ∃ d, P.underlying t = some d ∧ nilTy d kd := by
  unfold isNilConst at h
  split at h <;> (try (cases h; done)) <;> split at h <;> cases h <;> rename_i hu
  · exact ⟨rfl, by omega, _, hu, _, rfl⟩
  · exact ⟨rfl, by omega, _, hu, _, rfl⟩
  · exact ⟨rfl, by omega, _, hu, _, _, _, rfl⟩
  · exact ⟨rfl, by omega, _, hu, _, rfl⟩

theorem run_nilEq {t : TypeId} {d : TypeDesc} (hu : P.underlying t = some d) {kd : Nat} (hk : kd ≤ 3) (hd : nilTy d kd) {X : AV} {v : Value} (hX : AVRel M X v) {b : Bool} (h : nilEv kd X = some b) (D : Nat) :
    (Op.equalIn (D + 1) t v (nilOf kd)).run P w = .ok b w := by
  have hsl : ∀ rows : List (List Dat), X.rows? = some rows → rows ≠ [] → ∃ a n c, v = .slice (some a) n c := by
    intro rows hr hne
    obtain ⟨A, cap, rfl, _, k⟩ := inv_rows hr hX
    rcases k with k | ⟨b, off, size, vs, rfl, _⟩
    · exact absurd k hne
    · exact ⟨_, _, _, rfl⟩
  unfold nilEv at h
  split at h <;> (try (cases h; done)) <;> cases h
  · obtain ⟨e, rfl⟩ := hd; cases hX with | d _ _ hX => cases hX; simp [Op.equalIn, run_underlying hu, nilOf]
  · obtain ⟨e, rfl⟩ := hd; rw [inv_ptr hX]; simp [Op.equalIn, run_underlying hu, nilOf]
  · obtain ⟨e, rfl⟩ := hd; cases hX; simp [Op.equalIn, run_underlying hu, nilOf]
  · obtain ⟨e, rfl⟩ := hd; obtain ⟨_, _, _, rfl⟩ := hsl _ rfl (by simp); simp [Op.equalIn, run_underlying hu, nilOf]
  · obtain ⟨e, rfl⟩ := hd; obtain ⟨_, _, _, rfl⟩ := hsl _ rfl (by simp); simp [Op.equalIn, run_underlying hu, nilOf]
  · obtain ⟨e, rfl⟩ := hd; cases hX; simp [Op.equalIn, run_underlying hu, nilOf]
  · obtain ⟨e, rfl⟩ := hd; rw [(inv_bsl hX).1]; simp [Op.equalIn, run_underlying hu, nilOf]
  · obtain ⟨_, _, _, rfl⟩ := hd; cases hX with | d _ _ hX => cases hX; simp [Op.equalIn, run_underlying hu, nilOf]
  · obtain ⟨_, _, _, rfl⟩ := hd; cases hX with | d _ _ hX => cases hX; simp [Op.equalIn, run_underlying hu, nilOf]
  · obtain ⟨_, rfl⟩ := hd; cases hX with | d _ _ hX => cases hX; simp [Op.equalIn, run_underlying hu, nilOf]
  · obtain ⟨_, rfl⟩ := hd; cases hX with | d _ _ hX => cases hX; simp [Op.equalIn, run_underlying hu, nilOf]
  · obtain ⟨_, rfl⟩ := hd; cases hX with | d _ _ hX => cases hX; simp [Op.equalIn, run_underlying hu, nilOf]

/-- What is held against nil: no number, no text. -/
theorem nil_form {kd : Nat} {X : AV} {v : Value} (hX : AVRel M X v) {b : Bool} (h : nilEv kd X = some b) :
    (∃ q, v = .pointer q) ∨ (∃ a n c, v = .slice a n c) ∨ v = .nilFunc ∨ (∃ f c d, v = .func f c d) ∨ v = .nilIface ∨ ∃ t u, v = .iface t u := by
  have hsl : ∀ rows : List (List Dat), X.rows? = some rows → ∃ a n c, v = .slice a n c := by
    intro rows hr
    obtain ⟨A, cap, rfl, _, k⟩ := inv_rows hr hX
    exact ⟨_, _, _, rfl⟩
  unfold nilEv at h
  split at h <;> (try (cases h; done))
  · cases hX with | d _ _ hX => cases hX; exact .inl ⟨_, rfl⟩
  · exact .inl ⟨_, inv_ptr hX⟩
  · cases hX; exact .inl ⟨_, rfl⟩
  · exact .inr (.inl (hsl _ rfl))
  · exact .inr (.inl (hsl _ rfl))
  · exact .inr (.inl (hsl _ rfl))
  · exact .inr (.inl ⟨_, _, _, (inv_bsl hX).1⟩)
  · cases hX with | d _ _ hX => cases hX; exact .inr (.inr (.inl rfl))
  · cases hX with | d _ _ hX => cases hX; exact .inr (.inr (.inr (.inl ⟨_, _, _, rfl⟩)))
  · cases hX with | d _ _ hX => cases hX; exact .inr (.inr (.inr (.inr (.inl rfl))))
  · cases hX with | d _ _ hX => cases hX; exact .inr (.inr (.inr (.inr (.inr ⟨_, _, rfl⟩))))
  · cases hX with | d _ _ hX => cases hX; exact .inr (.inr (.inr (.inr (.inr ⟨_, _, rfl⟩))))

theorem g_isNil {op : BinOp} {t ty : TypeId} {p q : Operand} (hx : XRel D G M N x a w) (ho : o.op = .binOp op t p q ty) {kd : Nat} (hk : isNilConst P t q = some kd) (hop : op = .eql ∨ op = .neq)
    {gp : Arg} (hp : cArg p = some gp) {b : Bool} (h : nilEv kd (gp.ev G x.sl) = some b) : Gives P G M x.m.st a w o (b2 (if (op == .neq) = true then !b else b)) := by
  have h1 := cArg_rel hx hp
  obtain ⟨rfl, hk3, d, hu, hd⟩ := isNilConst_spec hk
  have he := run_nilEq (P := P) (w := w) hu hk3 hd h1 h 9999
  have hf := nil_form h1 h
  have hq : a.eval (.const (nilOf kd)) = nilOf kd := rfl
  have hg : (eqGuard op t p (.const (nilOf kd)) (a.eval p) (nilOf kd)).run P w = .ok () w := by
    generalize a.eval p = v at hf
    match kd, hk3 with
    | 0, _ | 1, _ | 2, _ | 3, _ => rcases hf with ⟨q, rfl⟩ | ⟨a', n, c, rfl⟩ | rfl | ⟨f, c, d, rfl⟩ | rfl | ⟨t', u, rfl⟩ <;> rcases hop with rfl | rfl <;> first | rfl | simp [eqGuard, nilOf]
  have hb : binOp .eql t (a.eval p) (nilOf kd) = (do pure (.bool (← Op.equal t (a.eval p) (nilOf kd)))) ∧ binOp .neq t (a.eval p) (nilOf kd) = (do pure (.bool (!(← Op.equal t (a.eval p) (nilOf kd))))) := by
    generalize a.eval p = v at hf
    match kd, hk3 with
    | 0, _ | 1, _ | 2, _ | 3, _ => rcases hf with ⟨q, rfl⟩ | ⟨a', n, c, rfl⟩ | rfl | ⟨f, c, d, rfl⟩ | rfl | ⟨t', u, rfl⟩ <;> exact ⟨rfl, rfl⟩
  have he' : (Op.equal t (a.eval p) (nilOf kd)).run P w = .ok b w := he
  refine .same hx.w (v := .bool (if (op == .neq) = true then !b else b)) ?_ (rel_b2 _)
  rcases hop with rfl | rfl
  · simp [execOp, ho, hq, hg, hb.1, he']
  · simp [execOp, ho, hq, hg, hb.2, he']

/-- Of a slice without elements nobody knows whether it is nil. -/
theorem g_isNilE {op : BinOp} {t ty : TypeId} {p q : Operand} (hx : XRel D G M N x a w) (ho : o.op = .binOp op t p q ty) (hk : isNilConst P t q = some 1) (hop : op = .eql ∨ op = .neq)
    {gp : Arg} (hp : cArg p = some gp) (h : gp.ev G x.sl = .d (.sl [])) : ∃ b : Bool, Gives P G M x.m.st a w o (b2 b) := by
  have h1 := cArg_rel hx hp
  rw [h] at h1
  obtain ⟨rfl, _, d, hu, hd⟩ := isNilConst_spec hk
  obtain ⟨e, rfl⟩ := hd
  obtain ⟨A, n, c, hv⟩ : ∃ (A : Option Addr) (n c : Nat), a.eval p = .slice A n c := by
    generalize a.eval p = v at h1
    cases h1 with
    | d _ _ h1 => cases h1 <;> exact ⟨_, _, _, rfl⟩
  have gen : ∀ D, (Op.equalIn (D + 1) t (.slice A n c) (nilOf 1)).run P w = .ok A.isNone w := by
    intro D
    cases A <;> simp [Op.equalIn, run_underlying hu, nilOf]
  have he : (Op.equal t (a.eval p) (nilOf 1)).run P w = .ok A.isNone w := by
    rw [hv]
    exact gen 9999
  have hq : a.eval (.const (nilOf 1)) = nilOf 1 := rfl
  have hg : (eqGuard op t p (.const (nilOf 1)) (a.eval p) (nilOf 1)).run P w = .ok () w := by
    rw [hv]
    rcases hop with rfl | rfl <;> first | rfl | simp [eqGuard, nilOf]
  have hb : binOp .eql t (a.eval p) (nilOf 1) = (do pure (.bool (← Op.equal t (a.eval p) (nilOf 1)))) ∧ binOp .neq t (a.eval p) (nilOf 1) = (do pure (.bool (!(← Op.equal t (a.eval p) (nilOf 1))))) := by
    rw [hv]
    exact ⟨rfl, rfl⟩
  refine ⟨if (op == .neq) = true then !A.isNone else A.isNone, .same hx.w (v := .bool (if (op == .neq) = true then !A.isNone else A.isNone)) ?_ (rel_b2 _)⟩
  rcases hop with rfl | rfl
  · simp [execOp, ho, hq, hg, hb.1, he]
  · simp [execOp, ho, hq, hg, hb.2, he]

theorem g_eqB {op : BinOp} {t ty : TypeId} {p q : Operand} (hx : XRel D G M N x a w) (ho : o.op = .binOp op t p q ty) (hu : P.underlying t = some .bool) (hop : op = .eql ∨ op = .neq)
    {gp gq : Arg} (hp : cArg p = some gp) (hq : cArg q = some gq) {b c : Bool} (hb : gp.ev G x.sl = .d (.bool b)) (hc : gq.ev G x.sl = .d (.bool c)) :
    Gives P G M x.m.st a w o (b2 (if (op == .neq) = true then !(b == c) else b == c)) := by
  have h1 := cArg_rel hx hp
  have h2 := cArg_rel hx hq
  rw [hb] at h1
  rw [hc] at h2
  have e1 := inv_bool h1
  have e2 := inv_bool h2
  have he0 : ∀ D, (Op.equalIn (D + 1) t (.bool b) (.bool c)).run P w = .ok (b == c) w := fun D => by simp [Op.equalIn, run_underlying hu]
  have he : (Op.equal t (.bool b) (.bool c)).run P w = .ok (b == c) w := he0 9999
  refine .same hx.w (v := .bool (if (op == .neq) = true then !(b == c) else b == c)) ?_ (rel_b2 _)
  rcases hop with rfl | rfl
  · simp [execOp, ho, e1, e2, eqGuard, binOp, he]
  · simp [execOp, ho, e1, e2, eqGuard, binOp, he]

theorem kindT_plain {e : TypeId} {k : Nat} (h : kindT P e = some k) : P.plainKey e = true := by
  unfold kindT at h
  unfold Program.plainKey
  split at h <;> (try (cases h; done)) <;> simp_all
/-- One cell against another one. -/
theorem eqc_run {e : TypeId} {k d : Nat} {cx cy : List AV} {xs ys : List Value} (hX : ARel M cx xs) (hY : ARel M cy ys) (he : kindT P e = some k) {ks : List Nat} {o : Nat} {r : Bool} (h : eqCells (k :: ks) (cx.drop o) (cy.drop o) = some r) :
    ∃ a b r1 r2, (part e xs.toArray o).run P w = .ok a w ∧ (part e ys.toArray o).run P w = .ok b w ∧ (Op.equalIn (d + 1) e a b).run P w = .ok r1 w ∧ eqCells ks (cx.drop (o + 1)) (cy.drop (o + 1)) = some r2 ∧ r = (r1 && r2) := by
  have hp := kindT_plain he
  have get : ∀ {cs : List AV} {vs : List Value} {z : AV} {zs : List AV}, ARel M cs vs → cs.drop o = z :: zs → ∃ v, vs.toArray[o]? = some v ∧ AVRel M z v ∧ zs = cs.drop (o + 1) := by
    intro cs vs z zs hr hd
    have ho : o < cs.length := by
      by_cases ho : o < cs.length
      · exact ho
      · rw [List.drop_eq_nil_of_le (by omega)] at hd; cases hd
    rw [List.drop_eq_getElem_cons ho] at hd
    injection hd with h1 h2
    subst h1
    have ho' : o < vs.length := by rw [hr.1]; exact ho
    exact ⟨vs[o], by simp [ho'], hr.2 o ho ho', h2.symm⟩
  unfold eqCells at h
  split at h <;> (try (cases h; done))
  · rename_i h1 h2 h3; cases h1
  rename_i q qs x xs' y ys' hq hx hy
  injection hq with e1 e2
  subst e1; subst e2
  obtain ⟨v, hv, rv, rfl⟩ := get hX hx
  obtain ⟨u, hu, ru, rfl⟩ := get hY hy
  refine ⟨v, u, ?_⟩
  have pv := run_part_plain w hp hv
  have pu := run_part_plain w hp hu
  unfold kindT at he
  split at h <;> (try (cases h; done))
  · rename_i kk a kk' b
    split at h <;> (try (cases h; done))
    rename_i hk
    subst hk
    simp only [Option.map_eq_some_iff] at h
    obtain ⟨r2, h2, rfl⟩ := h
    obtain rfl := inv_int rv
    obtain rfl := inv_int ru
    split at he <;> cases he
    rename_i q hun
    exact ⟨_, r2, pv, pu, run_equalIn_int w d e _ _ _ _ hun, h2, rfl⟩
  · simp only [Option.map_eq_some_iff] at h
    obtain ⟨r2, h2, rfl⟩ := h
    obtain rfl := inv_bool rv
    obtain rfl := inv_bool ru
    split at he <;> cases he
    rename_i hun
    exact ⟨_, r2, pv, pu, run_equalIn_bool w d e _ _ hun, h2, rfl⟩
  · simp only [Option.map_eq_some_iff] at h
    obtain ⟨r2, h2, rfl⟩ := h
    obtain rfl := inv_str rv
    obtain rfl := inv_str ru
    split at he <;> cases he
    rename_i hun
    exact ⟨_, r2, pv, pu, run_equalIn_string w d e _ _ hun, h2, rfl⟩
theorem eqCells_nil {x y : List AV} {r : Bool} (h : eqCells [] x y = some r) : r = true := by
  cases x <;> cases y <;> simp [eqCells] at h
  exact h
theorem eqf_run {d : Nat} {cx cy : List AV} {xs ys : List Value} (hX : ARel M cx xs) (hY : ARel M cy ys) : ∀ (fs : List Field) (o : Nat) (ks : List Nat) (r : Bool), flatF P o fs = some ks → eqCells ks (cx.drop o) (cy.drop o) = some r →
    (Op.eqFields (d + 1) xs.toArray ys.toArray fs).run P w = .ok r w
  | [], o, ks, r, hf, h => by
    simp only [flatF, Option.some.injEq] at hf
    subst hf
    obtain rfl := eqCells_nil h
    rfl
  | f :: fs, o, ks, r, hf, h => by
    simp only [flatF] at hf
    split at hf <;> (try (cases hf; done))
    rename_i hc
    split at hf <;> cases hf
    rename_i k l hk hl
    obtain ⟨a, b, r1, r2, p1, p2, p3, h2, rfl⟩ := eqc_run (w := w) (d := d) hX hY hk h
    have ih := eqf_run (d := d) hX hY fs (o + 1) l r2 hl h2
    rw [← hc.1] at p1 p2
    simp only [Op.eqFields, hc.2, ne_eq, not_false_eq_true, if_true, Sem.run_bind, p1, p2, p3, Result.andThen_ok]
    cases r1
    · simp
    · simpa using ih
theorem eqi_run {d : Nat} {e : TypeId} {k : Nat} (hk : kindT P e = some k) {cx cy : List AV} {xs ys : List Value} (hX : ARel M cx xs) (hY : ARel M cy ys) : ∀ (n o : Nat) (r : Bool), eqCells (List.replicate n k) (cx.drop o) (cy.drop o) = some r →
    (Op.eqItems (d + 1) e 1 xs.toArray ys.toArray (List.range' o n)).run P w = .ok r w
  | 0, o, r, h => by
    obtain rfl := eqCells_nil h
    rfl
  | n + 1, o, r, h => by
    rw [List.replicate_succ] at h
    obtain ⟨a, b, r1, r2, p1, p2, p3, h2, rfl⟩ := eqc_run (w := w) (d := d) hX hY hk h
    have ih := eqi_run (d := d) hk hX hY n (o + 1) r2 h2
    rw [List.range'_succ]
    simp only [Op.eqItems, Nat.mul_one, Sem.run_bind, p1, p2, p3, Result.andThen_ok]
    cases r1
    · simp
    · simpa using ih
theorem g_eqAgg {op : BinOp} {t ty : TypeId} {p q : Operand} (hx : XRel D G M N x a w) (ho : o.op = .binOp op t p q ty) (hop : op = .eql ∨ op = .neq) {ks : List Nat} (hpl : eqPlan P t = some ks)
    {gp gq : Arg} (hp : cArg p = some gp) (hq : cArg q = some gq) {xs ys : List AV} (hb : gp.ev G x.sl = .agg xs) (hc : gq.ev G x.sl = .agg ys) {r : Bool} (h : eqCells ks xs ys = some r) :
    Gives P G M x.m.st a w o (b2 (if (op == .neq) = true then !r else r)) := by
  have h1 := cArg_rel hx hp
  have h2 := cArg_rel hx hq
  rw [hb] at h1
  rw [hc] at h2
  obtain ⟨us, e1, r1⟩ := inv_agg h1
  obtain ⟨vs, e2, r2⟩ := inv_agg h2
  unfold eqPlan at hpl
  split at hpl <;> (try (cases hpl; done))
  rename_i hg
  have hg1 : P.eqGuardType P.depth t = false := by cases e : P.eqGuardType P.depth t with | false => rfl | true => exact absurd (.inl e) hg
  have hg2 : P.stoodInHeld t = false := by cases e : P.stoodInHeld t with | false => rfl | true => exact absurd (.inr e) hg
  have he : (Op.equalIn (9999 + 1) t (.agg us.toArray) (.agg vs.toArray)).run P w = .ok r w := by
    split at hpl
    · rename_i fs hu
      have hfs : P.fieldsOf t = fs := by simp [Program.fieldsOf, hu]
      rw [run_equalIn_struct w 9999 t _ _ (by rw [hfs]; exact hu) hg2, hfs]
      exact eqf_run (d := 9998) r1 r2 fs.toList 0 ks r hpl (by simpa using h)
    · rename_i n e hu
      split at hpl <;> (try (cases hpl; done))
      rename_i hce
      simp only [Option.map_eq_some_iff] at hpl
      obtain ⟨k, hk, rfl⟩ := hpl
      obtain ⟨i, hi⟩ : ∃ i, P.info? e = some i := by
        unfold kindT at hk
        split at hk <;> (try (cases hk; done)) <;> exact info_of_underlying (by assumption)
      rw [run_equalIn_array w 9999 _ _ hu hi, hce, List.range_eq_range']
      exact eqi_run (d := 9998) hk r1 r2 n 0 r (by simpa using h)
    · cases hpl
  refine .same hx.w (v := .bool (if (op == .neq) = true then !r else r)) ?_ (rel_b2 _)
  have hgd := run_eqGuard_agg (P := P) w op t p q us.toArray vs.toArray hg1
  rcases hop with rfl | rfl
  · simp only [execOp, ho, e1, e2]
    simp [hgd, run_eql_struct, he]
  · simp only [execOp, ho, e1, e2]
    simp [hgd, run_neq_struct, he]

theorem g_un {op : UnOp} {t : TypeId} {p : Operand} (hx : XRel D G M N x a w) (ho : o.op = .unOp op t p) {po : POp} (hc : cUn op p = some po) {r : AV} (h : ev G x.sl po = some r) :
    Gives P G M x.m.st a w o r := by
  unfold cUn at hc
  split at hc <;> (try (cases hc; done)) <;> simp only [Option.map_eq_some_iff] at hc <;> obtain ⟨g, hg, rfl⟩ := hc <;> simp only [ev] at h <;> have h1 := cArg_rel hx hg
  · split at h <;> cases h
    rename_i b e
    rw [e] at h1
    exact .same hx.w (v := .bool !b) (by simp [execOp, ho, inv_bool h1, Op.unary]) (rel_b2 _)
  · split at h <;> cases h
    · rename_i k n e
      rw [e] at h1
      exact .same hx.w (v := .int k (k.wrap (0 - n))) (by simp [execOp, ho, inv_int h1, Op.unary, Op.intArith]) (rel_int _ _)
    · rename_i k n e
      rw [e] at h1
      exact .same hx.w (v := .float k (Op.negFloat k n)) (by simp [execOp, ho, inv_flt h1, Op.unary]) (.d _ _ (.flt _ _))
  · split at h <;> cases h
    rename_i k n e
    rw [e] at h1
    exact .same hx.w (v := .int k (k.wrap (BitVec.ofInt k.bits (if k.signed then -1 else k.max) ^^^ BitVec.ofInt k.bits n).toNat)) (by simp [execOp, ho, inv_int h1, Op.unary, Op.intBits]) (rel_int _ _)

theorem g_nilchk {p : Operand} (hx : XRel D G M N x a w) (ho : o.op = .nilCheck p) {g : Arg} (hg : cArg p = some g) {r : AV} (h : ev G x.sl (.nilchk g) = some r) : Gives P G M x.m.st a w o r := by
  have h1 := cArg_rel hx hg
  simp only [ev] at h
  split at h <;> cases h <;> rename_i e <;> rw [e] at h1
  · exact .same hx.w (v := a.eval p) (by simp [execOp, ho, inv_ptr h1]) h1
  · refine .same hx.w (v := a.eval p) ?_ h1
    generalize hv : a.eval p = v at h1
    cases h1
    simp [execOp, ho, hv]
  · refine .same hx.w (v := a.eval p) ?_ h1
    generalize hv : a.eval p = v at h1
    cases h1 with | d _ _ h1 => cases h1; simp [execOp, ho, hv]

theorem g_faddr {t : TypeId} {p : Operand} {f : Nat} (hx : XRel D G M N x a w) (ho : o.op = .fieldAddr t p f) {po : POp} (hc : cFieldAddr P t p f = some po) {r : AV} (h : ev G x.sl po = some r) :
    Gives P G M x.m.st a w o r := by
  unfold cFieldAddr at hc
  split at hc <;> (try (cases hc; done))
  rename_i fs hu
  split at hc <;> (try (cases hc; done))
  rename_i fd hf
  split at hc <;> (try (cases hc; done))
  rename_i sz hs
  simp only [Option.map_eq_some_iff] at hc
  obtain ⟨g, hg, rfl⟩ := hc
  obtain ⟨h0, _, hsz⟩ := sizeT_some hs
  have h1 := cArg_rel hx hg
  have run : ∀ b off, a.eval p = .pointer (some ⟨b, off, none⟩) → (execOp a.eval o).run P w = .ok (.value (.pointer (some ⟨b, off + fd.offset, none⟩))) w := by
    intro b off e
    simp [execOp, ho, e, Instr.fieldAt, run_underlying hu, hf, Instr.sureAddr, fieldPlace, hsz, h0, add_mid]
  simp only [ev] at h
  split at h <;> cases h <;> rename_i e <;> rw [e] at h1
  · exact .same hx.w (run _ _ (inv_ptr h1)) (.d _ _ (.ptr _ _))
  · generalize hv : a.eval p = v at h1
    cases h1 with
    | elt cells b off vs hm hr =>
      refine .same hx.w (run _ _ hv) (.elt _ _ _ (fun o => vs (fd.offset + o)) (fun o ho => ?_) (fun o ho => ?_))
      · simp at ho
        rw [Nat.add_assoc]; exact hm _ (by omega)
      · simp only [List.getElem_drop]
        exact hr _ (by simp at ho; omega)

end
end Go.Pv
