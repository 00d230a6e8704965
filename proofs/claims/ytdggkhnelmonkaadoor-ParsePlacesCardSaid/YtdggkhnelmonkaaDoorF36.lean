/- A sign that no place takes, put among a table's tokens: where it is seen, which error. No condition. -/
import Derived.Test.YtdggkhnelmonkaaDoorF35
namespace Go.Pv
set_option maxRecDepth 100000

/-- Two rows of tokens, alike up to a place; there the other one has a sign. -/
structure Div (l m : List LTok) (j : Nat) : Prop where
  len : l.length ≤ m.length
  low : ∀ k, k < j → tkAt m k = tkAt l k
  at_ : tkAt m j = (3, sParR)
  no : (tokAt l j).text ≠ sParR
/-- It is seen there. -/
def BD {α : Type} (l m : List LTok) (j : Nat) (o : PO α) : Prop := ∃ e, o = .err (tokAt m j).pos e ∧ (e = 4 ∨ (e = 8 ∧ (tokAt l j).text ≠ kReturns) ∨ (e = 22 ∧ (tokAt l j).kind = 2))
def DV {α : Type} (l m : List LTok) (j : Nat) (o p : PO α) : Prop := ∀ v k, o = .ok v k → (k ≤ j → p = .ok v k) ∧ (j < k → BD l m j p)
theorem DV.bind {α β : Type} {l m : List LTok} {j : Nat} {o p : PO α} {f g : α → Nat → PO β} (h : DV l m j o p) (hf : ∀ v k, k ≤ j → DV l m j (f v k) (g v k)) (hg : ∀ v k, POge k (f v k)) : DV l m j (o.bind f) (p.bind g) := by
  intro v k e
  cases o with
  | err a b => cases e
  | ok u i =>
    have e : f u i = .ok v k := e
    have hk := hg u i v k e
    obtain ⟨h1, h2⟩ := h u i rfl
    by_cases hi : i ≤ j
    · rw [h1 hi]; exact hf u i hi v k e
    · obtain ⟨x, hx, hc⟩ := h2 (by omega)
      exact ⟨fun hkj => by omega, fun _ => ⟨x, by rw [hx]; rfl, hc⟩⟩
theorem DV.ok {α : Type} {l m : List LTok} {j k : Nat} {v : α} (hk : k ≤ j) : DV l m j (.ok v k) (.ok v k) := by
  intro u i e
  cases e
  exact ⟨fun _ => rfl, fun h => by omega⟩
theorem DV.fail {α : Type} {l m : List LTok} {j k : Nat} {e : Int} {p : PO α} : DV l m j (failM l k e) p := fun _ _ h => by cases h
section
variable {l m : List LTok} {j : Nat} (D : Div l m j)
include D
theorem Div.is (k : Nat) (hk : k < j) (w : ByteArray) : isM m k w = isM l k w := by
  have h := D.low k hk
  rw [isM, isM, show (tokAt m k).kind = (tokAt l k).kind from congrArg Prod.fst h, show (tokAt m k).text = (tokAt l k).text from congrArg Prod.snd h]
theorem Div.isJ (w : ByteArray) (hw : seqB sParR w = false) : isM m j w = false := isM_tk D.at_ (by rw [hw]; rfl)
theorem Div.must (k : Nat) (hk : k ≤ j) (w : ByteArray) : DV l m j (mustM l k w) (mustM m k w) := by
  intro v i e
  unfold mustM at e ⊢
  by_cases hm : isM l k w = true
  · rw [if_pos hm] at e
    cases e
    by_cases hkj : k < j
    · rw [D.is k hkj, if_pos hm]
      exact ⟨fun _ => rfl, fun h => by omega⟩
    · obtain rfl : k = j := by omega
      refine ⟨fun h => by omega, fun _ => ⟨4, ?_, .inl rfl⟩⟩
      rw [D.isJ w ?_, if_neg Bool.false_ne_true]
      · rfl
      · cases hs : seqB sParR w with
        | false => rfl
        | true =>
          exfalso
          have h1 := seqB_iff.1 hs
          subst h1
          unfold isM at hm
          simp only [Bool.and_eq_true] at hm
          exact D.no (seqB_iff.1 hm.2.2)
  · rw [if_neg hm] at e; cases e
theorem Div.name (k : Nat) (hk : k ≤ j) : DV l m j (nameM l k) (nameM m k) := by
  intro v i e
  unfold nameM at e ⊢
  by_cases hm : (tokAt l k).kind = 1 ∧ isName (tokAt l k).text = true
  · rw [if_pos hm] at e
    cases e
    by_cases hkj : k < j
    · have h := D.low k hkj
      rw [show (tokAt m k).kind = (tokAt l k).kind from congrArg Prod.fst h, show (tokAt m k).text = (tokAt l k).text from congrArg Prod.snd h, if_pos hm]
      exact ⟨fun _ => rfl, fun h => by omega⟩
    · obtain rfl : k = j := by omega
      refine ⟨fun h => by omega, fun _ => ⟨8, ?_, .inr (.inl ⟨rfl, fun e => ?_⟩)⟩⟩
      · rw [if_neg]
        · rfl
        · rintro ⟨h1, _⟩
          rw [show (tokAt m k).kind = 3 from congrArg Prod.fst D.at_] at h1
          exact absurd h1 (by decide)
      · have := name_kw hm.2 (show kReturns ∈ words by simp [words])
        rw [e] at this
        exact absurd this (by decide +kernel)
  · rw [if_neg hm] at e; cases e
theorem Div.num (k : Nat) (hk : k ≤ j) : DV l m j (numM l k) (numM m k) := by
  intro v i e
  unfold numM at e ⊢
  by_cases hm : (tokAt l k).kind = 2
  · rw [if_pos hm] at e
    cases e
    by_cases hkj : k < j
    · have h := D.low k hkj
      have h1 : (tokAt m k).kind = (tokAt l k).kind := congrArg Prod.fst h
      have h2 : (tokAt m k).text = (tokAt l k).text := congrArg Prod.snd h
      rw [h1, if_pos hm, valM, valM, h1, h2]
      exact ⟨fun _ => rfl, fun h => by omega⟩
    · obtain rfl : k = j := by omega
      refine ⟨fun h => by omega, fun _ => ⟨22, ?_, .inr (.inr ⟨rfl, hm⟩)⟩⟩
      rw [if_neg]
      · rfl
      · rw [show (tokAt m k).kind = 3 from congrArg Prod.fst D.at_]; decide
  · rw [if_neg hm] at e; cases e
theorem Div.lenM (k : Nat) (hk : k ≤ j) : DV l m j (lenM l k) (lenM m k) :=
  (D.must k hk _).bind (fun _ k hk => (D.num k hk).bind (fun _ k hk => (D.must k hk _).bind (fun _ _ hk => .ok hk) fun _ _ => .ok (Nat.le_refl _)) fun _ _ => (mustM_ge.le (by omega)).bind fun _ _ h => .ok h)
    fun _ _ => (numM_ge.le (by omega)).bind fun _ _ h => (mustM_ge.le (by omega)).bind fun _ _ h => .ok h
theorem Div.fieldsGo {K L : Nat → PO KT} (hK : ∀ k, k ≤ j → DV l m j (K k) (L k)) (hG : ∀ k, POge k (K k)) (kk : Int) : ∀ (f g k : Nat) (ns : List ByteArray) (ts : List KT), f ≤ g → k ≤ j → DV l m j (fieldsGo K kk l f k ns ts) (fieldsGo L kk m g k ns ts)
  | 0, _, _, _, _, _, _ => .fail
  | _ + 1, 0, _, _, _, h, _ => by omega
  | f + 1, g + 1, k, ns, ts, hfg, hk => by
    unfold Pv.fieldsGo
    refine (D.name k hk).bind (fun s k hk => DV.bind ?_ (fun ts k hk => ?_) fun ts k => ?_) fun s k => ?_
    · split
      · exact .ok hk
      · exact (D.must k hk _).bind (fun _ k hk => (hK k hk).bind (fun _ _ hk => .ok hk) fun _ _ => .ok (Nat.le_refl _)) fun _ _ => (hG _).bind fun _ _ h => .ok h
    · by_cases hkj : k < j
      · rw [D.is k hkj]
        split
        · exact Div.fieldsGo hK hG kk f g _ _ _ (by omega) hkj
        · exact (D.must k hk _).bind (fun _ _ hk => .ok hk) fun _ _ => .ok (Nat.le_refl _)
      · obtain rfl : k = j := by omega
        rw [D.isJ (bs [44]) (by decide +kernel), if_neg Bool.false_ne_true]
        split
        · intro v i e
          have hi := fieldsGo_ge hG f _ _ _ v i e
          refine ⟨fun h => by omega, fun _ => ⟨4, ?_, .inl rfl⟩⟩
          rw [mustM, D.isJ _ (by decide +kernel), if_neg Bool.false_ne_true]
          rfl
        · exact (D.must k hk _).bind (fun _ _ hk => .ok hk) fun _ _ => .ok (Nat.le_refl _)
    · split
      · exact (fieldsGo_ge hG f _ _ _).le (by omega)
      · exact (mustM_ge.le (by omega)).bind fun _ _ h => .ok h
    · refine POge.bind (k0 := k) ?_ fun ts k h => ?_
      · split
        · exact .ok (Nat.le_refl _)
        · exact (mustM_ge.le (by omega)).bind fun _ _ h => ((hG _).le h).bind fun _ _ h => .ok h
      · split
        · exact (fieldsGo_ge hG f _ _ _).le (by omega)
        · exact (mustM_ge.le (by omega)).bind fun _ _ h => .ok h
theorem Div.fields {K L : Nat → PO KT} (hK : ∀ k, k ≤ j → DV l m j (K k) (L k)) (hG : ∀ k, POge k (K k)) (kk : Int) (k : Nat) (hk : k ≤ j) : DV l m j (fieldsM K kk l k) (fieldsM L kk m k) :=
  (D.must k hk _).bind (fun _ k hk => D.fieldsGo hK hG kk _ _ _ _ _ (by have := D.len; omega) hk) fun _ _ => (fieldsGo_ge hG _ _ _ _).le (by omega)
theorem Div.kindM : ∀ (d k : Nat), k ≤ j → DV l m j (kindM l d k) (kindM m d k)
  | 0, k, _ => .fail
  | d + 1, k, hk => by
    have hK := Div.kindM d
    have hG : ∀ k, POge k (Pv.kindM l d k) := fun k => (kindM_ge d k).le (by omega)
    by_cases hkj : k < j
    · unfold Pv.kindM
      simp only [D.is k hkj]
      split
      · exact .ok hkj
      split
      · exact .ok hkj
      split
      · exact .ok hkj
      split
      · exact .ok hkj
      split
      · exact (D.lenM _ hkj).bind (fun _ _ hk => .ok hk) fun _ _ => .ok (Nat.le_refl _)
      split
      · exact (D.lenM _ hkj).bind (fun _ k hk => (D.must k hk _).bind (fun _ k hk => (hK k hk).bind (fun _ _ hk => .ok hk) fun _ _ => .ok (Nat.le_refl _)) fun _ _ => (hG _).bind fun _ _ h => .ok h)
          fun _ _ => (mustM_ge.le (by omega)).bind fun _ _ h => ((hG _).le h).bind fun _ _ h => .ok h
      split
      · exact D.fields hK hG _ _ hkj
      split
      · exact D.fields hK hG _ _ hkj
      split
      · exact D.fields hK hG _ _ hkj
      · exact (D.name k hk).bind (fun _ _ hk => .ok hk) fun _ _ => .ok (Nat.le_refl _)
    · obtain rfl : k = j := by omega
      intro v i e
      have hi := kindM_ge (d + 1) k v i e
      refine ⟨fun h => by omega, fun _ => ⟨8, ?_, .inr (.inl ⟨rfl, fun hr => ?_⟩)⟩⟩
      · unfold Pv.kindM
        rw [D.isJ _ (by decide +kernel), if_neg Bool.false_ne_true, D.isJ _ (by decide +kernel), if_neg Bool.false_ne_true, D.isJ _ (by decide +kernel), if_neg Bool.false_ne_true, D.isJ _ (by decide +kernel), if_neg Bool.false_ne_true, D.isJ _ (by decide +kernel), if_neg Bool.false_ne_true,
          D.isJ _ (by decide +kernel), if_neg Bool.false_ne_true, D.isJ _ (by decide +kernel), if_neg Bool.false_ne_true, D.isJ _ (by decide +kernel), if_neg Bool.false_ne_true, D.isJ _ (by decide +kernel), if_neg Bool.false_ne_true]
        refine PO.err_bind ?_ _
        rw [nameM, if_neg]
        · rfl
        · rintro ⟨h1, _⟩
          rw [show (tokAt m k).kind = 3 from congrArg Prod.fst D.at_] at h1
          exact absurd h1 (by decide)
      · have no : ∀ w, seqB kReturns w = false → isM l k w = false := by
          intro w hw
          rw [isM, hr, hw]
          simp
        unfold Pv.kindM at e
        rw [no _ (by decide +kernel), if_neg Bool.false_ne_true, no _ (by decide +kernel), if_neg Bool.false_ne_true, no _ (by decide +kernel), if_neg Bool.false_ne_true, no _ (by decide +kernel), if_neg Bool.false_ne_true, no _ (by decide +kernel), if_neg Bool.false_ne_true,
          no _ (by decide +kernel), if_neg Bool.false_ne_true, no _ (by decide +kernel), if_neg Bool.false_ne_true, no _ (by decide +kernel), if_neg Bool.false_ne_true, no _ (by decide +kernel), if_neg Bool.false_ne_true, nameM, hr, if_neg] at e
        · cases e
        · rintro ⟨_, h2⟩
          exact absurd h2 (by decide +kernel)
theorem Div.col (k : Nat) (hk : k ≤ j) : DV l m j (colM l k) (colM m k) := by
  unfold colM
  by_cases hkj : k < j
  · simp only [D.is k hkj]
    split
    · exact .ok hkj
    split
    · exact .ok hkj
    · exact (D.must k hk _).bind (fun _ _ hk => .ok hk) fun _ _ => .ok (Nat.le_refl _)
  · obtain rfl : k = j := by omega
    have hb : BD l m k ((mustM m k (bs [97, 108, 108])).bind fun _ k => (.ok 2 k : PO Int)) := ⟨4, by rw [mustM, D.isJ _ (by decide +kernel), if_neg Bool.false_ne_true]; rfl, .inl rfl⟩
    rw [D.isJ (bs [102, 105, 114, 115, 116]) (by decide +kernel), if_neg Bool.false_ne_true, D.isJ (bs [109, 97, 106, 111, 114, 105, 116, 121]) (by decide +kernel), if_neg Bool.false_ne_true]
    intro v i e
    have hi : k + 1 ≤ i := by
      split at e
      · cases e; exact Nat.le_refl _
      split at e
      · cases e; exact Nat.le_refl _
      · exact (mustM_ge.bind fun _ _ h => .ok h : POge (k + 1) _) v i e
    exact ⟨fun h => by omega, fun _ => hb⟩
theorem Div.proc (k : Nat) (hk : k ≤ j) : DV l m j (procM l k) (procM m k) := by
  have g5 : ∀ k, POge k (Pv.kindM l 5 k) := fun k => (kindM_ge 5 k).le (by omega)
  have gm : ∀ k w, POge k (mustM l k w) := fun k w => mustM_ge.le (by omega)
  have gn : ∀ k, POge k (numM l k) := fun k => numM_ge.le (by omega)
  have gc : ∀ k, POge k (colM l k) := fun k => by
    unfold colM
    split
    · exact .ok (by omega)
    split
    · exact .ok (by omega)
    exact (gm _ _).bind fun _ _ h => .ok h
  have t1 : ∀ s n t a c k, POge k (procEnd l s n t a c k) := fun s n t a c k => (gm _ _).bind fun _ _ h => ((gn _).le h).bind fun _ _ h => ((gm _ _).le h).bind fun _ _ h => .ok h
  have t2 : ∀ s n t a k, POge k ((mustM l k kCollate).bind fun _ k => (colM l k).bind fun c k => procEnd l s n t a c k) := fun s n t a k => (gm _ _).bind fun _ _ h => ((gc _).le h).bind fun _ _ h => (t1 _ _ _ _ _ _).le h
  have t3 : ∀ s n t k, POge k ((mustM l k kReturns).bind fun _ k => (Pv.kindM l 5 k).bind fun a k => (mustM l k kCollate).bind fun _ k => (colM l k).bind fun c k => procEnd l s n t a c k) := fun s n t k => (gm _ _).bind fun _ _ h => ((g5 _).le h).bind fun _ _ h => (t2 _ _ _ _ _).le h
  have t4 : ∀ s n k, POge k ((Pv.kindM l 5 k).bind fun t k => (mustM l k sParR).bind fun _ k => (mustM l k kReturns).bind fun _ k => (Pv.kindM l 5 k).bind fun a k => (mustM l k kCollate).bind fun _ k => (colM l k).bind fun c k => procEnd l s n t a c k) := fun s n k => (g5 _).bind fun _ _ h => ((gm _ _).le h).bind fun _ _ h => (t3 _ _ _ _).le h
  unfold procM
  refine (D.name k hk).bind (fun s k hk => (D.must k hk _).bind (fun _ k hk => (D.num k hk).bind (fun n k hk => (D.must k hk _).bind (fun _ k hk => (Div.kindM D 5 k hk).bind (fun t k hk => (D.must k hk _).bind (fun _ k hk => (D.must k hk _).bind (fun _ k hk => (Div.kindM D 5 k hk).bind (fun a k hk => (D.must k hk _).bind (fun _ k hk => (D.col k hk).bind (fun c k hk => ?_)
    fun _ _ => t1 _ _ _ _ _ _) fun _ _ => ?_) fun _ _ => t2 _ _ _ _ _) fun _ _ => ?_) fun _ _ => t3 _ _ _ _) fun _ _ => ?_) fun _ _ => t4 _ _ _) fun _ _ => ?_) fun _ _ => ?_) fun _ _ => ?_
  · exact (D.must k hk _).bind (fun _ k hk => (D.num k hk).bind (fun o k hk => (D.must k hk _).bind (fun _ _ hk => .ok hk) fun _ _ => .ok (Nat.le_refl _)) fun _ _ => (gm _ _).bind fun _ _ h => .ok h) fun _ _ => (gn _).bind fun _ _ h => ((gm _ _).le h).bind fun _ _ h => .ok h
  · exact (gc _).bind fun _ _ h => (t1 _ _ _ _ _ _).le h
  · exact (g5 _).bind fun _ _ h => (t2 _ _ _ _ _).le h
  · exact (gm _ _).bind fun _ _ h => (t3 _ _ _ _).le h
  · exact (gm _ _).bind fun _ _ h => (t4 _ _ _).le h
  · exact (gn _).bind fun _ _ h => ((gm _ _).le h).bind fun _ _ h => (t4 _ _ _).le h
  · exact (gm _ _).bind fun _ _ h => ((gn _).le h).bind fun _ _ h => ((gm _ _).le h).bind fun _ _ h => (t4 _ _ _).le h
/-- Or nothing of it was read. -/
def DVL {α : Type} (l m : List LTok) (j : Nat) (o p : PO α) : Prop := ∀ v k, o = .ok v k → (k ≤ j → p = .ok v k) ∧ (j < k → BD l m j p ∨ ∃ u, p = .ok u j)
omit D in
theorem DVL.bind {α β : Type} {o p : PO α} {f g : α → Nat → PO β} (h : DVL l m j o p) (hf : ∀ v k, k ≤ j → DV l m j (f v k) (g v k)) (hb : ∀ u, BD l m j (g u j)) (hg : ∀ v k, POge k (f v k)) : DV l m j (o.bind f) (p.bind g) := by
  intro v k e
  cases o with
  | err a b => cases e
  | ok u i =>
    have e : f u i = .ok v k := e
    have hk := hg u i v k e
    obtain ⟨h1, h2⟩ := h u i rfl
    by_cases hi : i ≤ j
    · rw [h1 hi]; exact hf u i hi v k e
    · refine ⟨fun hkj => by omega, fun _ => ?_⟩
      rcases h2 (by omega) with ⟨x, hx, hc⟩ | ⟨u, hu⟩
      · exact ⟨x, by rw [hx]; rfl, hc⟩
      · rw [hu]; exact hb u
omit D in
theorem DV.bindL {α β : Type} {o p : PO α} {f g : α → Nat → PO β} (h : DV l m j o p) (hf : ∀ v k, k ≤ j → DVL l m j (f v k) (g v k)) (hg : ∀ v k, POge k (f v k)) : DVL l m j (o.bind f) (p.bind g) := by
  intro v k e
  cases o with
  | err a b => cases e
  | ok u i =>
    have e : f u i = .ok v k := e
    have hk := hg u i v k e
    obtain ⟨h1, h2⟩ := h u i rfl
    by_cases hi : i ≤ j
    · rw [h1 hi]; exact hf u i hi v k e
    · obtain ⟨x, hx, hc⟩ := h2 (by omega)
      exact ⟨fun hkj => by omega, fun _ => .inl ⟨x, by rw [hx]; rfl, hc⟩⟩
omit D in
theorem DVL.ok {α : Type} {k : Nat} {v : α} (hk : k ≤ j) : DVL l m j (.ok v k) (.ok v k) := by
  intro u i e
  cases e
  exact ⟨fun _ => rfl, fun h => by omega⟩
omit D in
theorem DVL.at {α : Type} {o : PO α} {u : α} (h : ∀ v k, o = .ok v k → (k = j → v = u) ∧ j ≤ k) : DVL l m j o (.ok u j) := by
  intro v k e
  obtain ⟨h1, h2⟩ := h v k e
  exact ⟨fun hk => by rw [h1 (by omega), show k = j by omega], fun _ => .inr ⟨u, rfl⟩⟩
omit D in
theorem typesGo_ge {l : List LTok} : ∀ (f k : Nat) (a : List Al), POge k (typesGo l f k a)
  | 0, _, _ => failM_ge _ _ _ _
  | f + 1, k, a => by
    unfold typesGo
    split
    · exact (nameM_ge.le (by omega)).bind fun _ _ h => (mustM_ge.le (by omega)).bind fun _ _ h => ((kindM_ge 5 _).le (by omega)).bind fun _ _ h => (mustM_ge.le (by omega)).bind fun _ _ h => (typesGo_ge f _ _).le h
    · exact .ok (Nat.le_refl _)
omit D in
theorem faultsGo_ge {l : List LTok} : ∀ (f k : Nat) (a : List Fl), POge k (faultsGo l f k a)
  | 0, _, _ => failM_ge _ _ _ _
  | f + 1, k, a => by
    unfold faultsGo
    split
    · exact (nameM_ge.le (by omega)).bind fun _ _ h => (mustM_ge.le (by omega)).bind fun _ _ h => (numM_ge.le (by omega)).bind fun _ _ h => (mustM_ge.le (by omega)).bind fun _ _ h => (faultsGo_ge f _ _).le h
    · exact .ok (Nat.le_refl _)
omit D in
theorem procsGo_ge {l : List LTok} : ∀ (f k : Nat) (a : List Pc), POge k (procsGo l f k a)
  | 0, _, _ => failM_ge _ _ _ _
  | f + 1, k, a => by
    unfold procsGo
    split
    · exact (procM_ge.le (by omega)).bind fun _ _ h => (procsGo_ge f _ _).le h
    · exact .ok (Nat.le_refl _)
theorem Div.types : ∀ (f g k : Nat) (a : List Al), f ≤ g → k ≤ j → DVL l m j (typesGo l f k a) (typesGo m g k a)
  | 0, _, _, _, _, _ => fun _ _ h => by cases h
  | _ + 1, 0, _, _, h, _ => by omega
  | f + 1, g + 1, k, a, hfg, hk => by
    by_cases hkj : k < j
    · unfold typesGo
      rw [D.is k hkj]
      split
      · refine (D.name _ hkj).bindL (fun s k hk => (D.must k hk _).bindL (fun _ k hk => (D.kindM 5 k hk).bindL (fun t k hk => (D.must k hk _).bindL (fun _ k hk => Div.types f g k _ (by omega) hk) fun _ _ => typesGo_ge _ _ _) fun _ _ => ?_) fun _ _ => ?_) fun _ _ => ?_
        · exact (mustM_ge.le (by omega)).bind fun _ _ h => (typesGo_ge _ _ _).le h
        · exact ((kindM_ge 5 _).le (by omega)).bind fun _ _ h => (mustM_ge.le (by omega)).bind fun _ _ h => (typesGo_ge _ _ _).le h
        · exact (mustM_ge.le (by omega)).bind fun _ _ h => ((kindM_ge 5 _).le (by omega)).bind fun _ _ h => (mustM_ge.le (by omega)).bind fun _ _ h => (typesGo_ge _ _ _).le h
      · exact .ok hk
    · obtain rfl : k = j := by omega
      rw [show typesGo m (g + 1) k a = .ok a k by rw [typesGo, D.isJ _ (by decide +kernel), if_neg Bool.false_ne_true]]
      refine DVL.at fun v i e => ⟨fun hi => ?_, typesGo_ge _ _ _ v i e⟩
      rw [typesGo] at e
      split at e
      · have := (nameM_ge.bind fun _ _ h => (mustM_ge.le (by omega)).bind fun _ _ h => ((kindM_ge 5 _).le (by omega)).bind fun _ _ h => (mustM_ge.le (by omega)).bind fun _ _ h => (typesGo_ge _ _ _).le h : POge (k + 1 + 1) _) v i e
        omega
      · cases e; rfl
theorem Div.faults : ∀ (f g k : Nat) (a : List Fl), f ≤ g → k ≤ j → DVL l m j (faultsGo l f k a) (faultsGo m g k a)
  | 0, _, _, _, _, _ => fun _ _ h => by cases h
  | _ + 1, 0, _, _, h, _ => by omega
  | f + 1, g + 1, k, a, hfg, hk => by
    by_cases hkj : k < j
    · unfold faultsGo
      rw [D.is k hkj]
      split
      · refine (D.name _ hkj).bindL (fun s k hk => (D.must k hk _).bindL (fun _ k hk => (D.num k hk).bindL (fun t k hk => (D.must k hk _).bindL (fun _ k hk => Div.faults f g k _ (by omega) hk) fun _ _ => faultsGo_ge _ _ _) fun _ _ => ?_) fun _ _ => ?_) fun _ _ => ?_
        · exact (mustM_ge.le (by omega)).bind fun _ _ h => (faultsGo_ge _ _ _).le h
        · exact (numM_ge.le (by omega)).bind fun _ _ h => (mustM_ge.le (by omega)).bind fun _ _ h => (faultsGo_ge _ _ _).le h
        · exact (mustM_ge.le (by omega)).bind fun _ _ h => (numM_ge.le (by omega)).bind fun _ _ h => (mustM_ge.le (by omega)).bind fun _ _ h => (faultsGo_ge _ _ _).le h
      · exact .ok hk
    · obtain rfl : k = j := by omega
      rw [show faultsGo m (g + 1) k a = .ok a k by rw [faultsGo, D.isJ _ (by decide +kernel), if_neg Bool.false_ne_true]]
      refine DVL.at fun v i e => ⟨fun hi => ?_, faultsGo_ge _ _ _ v i e⟩
      rw [faultsGo] at e
      split at e
      · have := (nameM_ge.bind fun _ _ h => (mustM_ge.le (by omega)).bind fun _ _ h => (numM_ge.le (by omega)).bind fun _ _ h => (mustM_ge.le (by omega)).bind fun _ _ h => (faultsGo_ge _ _ _).le h : POge (k + 1 + 1) _) v i e
        omega
      · cases e; rfl
theorem Div.procs : ∀ (f g k : Nat) (a : List Pc), f ≤ g → k ≤ j → DVL l m j (procsGo l f k a) (procsGo m g k a)
  | 0, _, _, _, _, _ => fun _ _ h => by cases h
  | _ + 1, 0, _, _, h, _ => by omega
  | f + 1, g + 1, k, a, hfg, hk => by
    by_cases hkj : k < j
    · unfold procsGo
      rw [D.is k hkj]
      split
      · exact (D.proc _ hkj).bindL (fun s k hk => Div.procs f g k _ (by omega) hk) fun _ _ => procsGo_ge _ _ _
      · exact .ok hk
    · obtain rfl : k = j := by omega
      rw [show procsGo m (g + 1) k a = .ok a k by rw [procsGo, D.isJ _ (by decide +kernel), if_neg Bool.false_ne_true]]
      refine DVL.at fun v i e => ⟨fun hi => ?_, procsGo_ge _ _ _ v i e⟩
      rw [procsGo] at e
      split at e
      · have := (procM_ge.bind fun _ _ h => (procsGo_ge _ _ _).le (by omega) : POge (k + 1 + 1) _) v i e
        omega
      · cases e; rfl
theorem Div.endJ : BD l m j (endM m j) := ⟨4, by rw [endM, mustM, D.isJ _ (by decide +kernel), if_neg Bool.false_ne_true]; rfl, .inl rfl⟩
/-- All that is asked of a whole. -/
def DVF {α : Type} (l m : List LTok) (j : Nat) (o p : PO α) : Prop := ∀ v k, o = .ok v k → j < k → BD l m j p
omit D in
theorem DVL.bindF {α β : Type} {o p : PO α} {f g : α → Nat → PO β} (h : DVL l m j o p) (hf : ∀ v k, k ≤ j → DVF l m j (f v k) (g v k)) (hb : ∀ u, BD l m j (g u j)) (hg : ∀ v k, POge k (f v k)) : DVF l m j (o.bind f) (p.bind g) := by
  intro v k e hk2
  cases o with
  | err a b => cases e
  | ok u i =>
    have e : f u i = .ok v k := e
    have hk := hg u i v k e
    obtain ⟨h1, h2⟩ := h u i rfl
    by_cases hi : i ≤ j
    · rw [h1 hi]; exact hf u i hi v k e hk2
    · rcases h2 (by omega) with ⟨x, hx, hc⟩ | ⟨u, hu⟩
      · exact ⟨x, by rw [hx]; rfl, hc⟩
      · rw [hu]; exact hb u
omit D in
theorem DV.bindF {α β : Type} {o p : PO α} {f g : α → Nat → PO β} (h : DV l m j o p) (hf : ∀ v k, k ≤ j → DVF l m j (f v k) (g v k)) (hg : ∀ v k, POge k (f v k)) : DVF l m j (o.bind f) (p.bind g) := by
  intro v k e hk2
  cases o with
  | err a b => cases e
  | ok u i =>
    have e : f u i = .ok v k := e
    have hk := hg u i v k e
    obtain ⟨h1, h2⟩ := h u i rfl
    by_cases hi : i ≤ j
    · rw [h1 hi]; exact hf u i hi v k e hk2
    · obtain ⟨x, hx, hc⟩ := h2 (by omega)
      exact ⟨x, by rw [hx]; rfl, hc⟩
omit D in
theorem endM_at {l : List LTok} {k : Nat} {v : Unit} {i : Nat} (e : endM l k = .ok v i) : i = k + 1 := by
  unfold endM mustM at e
  split at e
  · have e : (if (tokAt l (k + 1)).kind = 0 then (.ok () (k + 1) : PO Unit) else failM l (k + 1) 12) = .ok v i := e
    split at e
    · cases e; rfl
    · cases e
  · cases e
omit D in
theorem endM_ge {l : List LTok} (k : Nat) : POge k (endM l k) := fun v i e => by rw [endM_at e]; omega
theorem Div.end_ {β : Type} (f : Unit → β) (k : Nat) (hk : k ≤ j) : DVF l m j ((endM l k).bind fun u k => .ok (f u) k) ((endM m k).bind fun u k => .ok (f u) k) := by
  intro v i e hi
  cases he : endM l k with
  | err a b => rw [he] at e; cases e
  | ok u i' =>
    rw [he] at e
    cases e
    have := endM_at he
    obtain rfl : k = j := by omega
    obtain ⟨x, hx, hc⟩ := D.endJ
    exact ⟨x, by rw [hx]; rfl, hc⟩
/-- It is seen, if it stands ahead of the end. -/
theorem Div.table (hj : j < l.length) {T : TB} {k : Nat} (h : tableM l 0 = .ok T k) (hk : j < k) : BD l m j (tableM m 0) := by
  have hlm := D.len
  have gm : ∀ k w, POge k (mustM l k w) := fun k w => mustM_ge.le (by omega)
  have gn : ∀ k, POge k (numM l k) := fun k => numM_ge.le (by omega)
  obtain ⟨f, hf⟩ := Nat.exists_eq_succ_of_ne_zero (show m.length - j ≠ 0 by omega)
  have p1 : ∀ a, procsGo m (m.length - j) j a = .ok a j := fun a => by rw [hf, procsGo, D.isJ _ (by decide +kernel), if_neg Bool.false_ne_true]
  have p2 : ∀ a, faultsGo m (m.length - j) j a = .ok a j := fun a => by rw [hf, faultsGo, D.isJ _ (by decide +kernel), if_neg Bool.false_ne_true]
  have b1 : ∀ {β : Type} (f : Unit → β), BD l m j ((endM m j).bind fun u k => .ok (f u) k) := fun f => by
    obtain ⟨x, hx, hc⟩ := D.endJ
    exact ⟨x, by rw [hx]; rfl, hc⟩
  have g0 : ∀ s n v a f p k, POge k ((endM l k).bind fun _ k => (.ok ⟨s, n, v, a, f, p⟩ k : PO TB)) := fun s n v a f p k => (endM_ge k).bind fun _ _ h => .ok h
  have g1 : ∀ s n v a f k, POge k ((procsGo l (l.length - k) k []).bind fun p k => (endM l k).bind fun _ k => (.ok ⟨s, n, v, a, f, p⟩ k : PO TB)) := fun s n v a f k => (procsGo_ge _ _ _).bind fun _ _ h => (g0 _ _ _ _ _ _ _).le h
  have g2 : ∀ s n v a k, POge k ((faultsGo l (l.length - k) k []).bind fun f k => (procsGo l (l.length - k) k []).bind fun p k => (endM l k).bind fun _ k => (.ok ⟨s, n, v, a, f, p⟩ k : PO TB)) := fun s n v a k => (faultsGo_ge _ _ _).bind fun _ _ h => (g1 _ _ _ _ _ _).le h
  have g3 : ∀ s n v k, POge k ((typesGo l (l.length - k) k []).bind fun a k => (faultsGo l (l.length - k) k []).bind fun f k => (procsGo l (l.length - k) k []).bind fun p k => (endM l k).bind fun _ k => (.ok ⟨s, n, v, a, f, p⟩ k : PO TB)) := fun s n v k => (typesGo_ge _ _ _).bind fun _ _ h => (g2 _ _ _ _ _).le h
  refine (?_ : DVF l m j (tableM l 0) (tableM m 0)) T k h hk
  unfold tableM
  refine (D.must 0 (Nat.zero_le _) _).bindF (fun _ k hk => (D.name k hk).bindF (fun s k hk => (D.num k hk).bindF (fun n k hk => (D.must k hk _).bindF (fun _ k hk => (D.num k hk).bindF (fun v k hk => (D.must k hk _).bindF (fun _ k hk => ?_) fun _ _ => g3 _ _ _ _) fun _ _ => ?_) fun _ _ => ?_) fun _ _ => ?_) fun _ _ => ?_) fun _ _ => ?_
  · refine (D.types _ _ k [] (by omega) hk).bindF (fun a k hk => (D.faults _ _ k [] (by omega) hk).bindF (fun f k hk => (D.procs _ _ k [] (by omega) hk).bindF (fun p k hk => D.end_ _ k hk) (fun u => b1 _) fun _ _ => g0 _ _ _ _ _ _ _) (fun u => ?_) fun _ _ => g1 _ _ _ _ _ _) (fun u => ?_) fun _ _ => g2 _ _ _ _ _
    · rw [p1, PO.ok_bind rfl]; exact b1 _
    · rw [p2, PO.ok_bind rfl, p1, PO.ok_bind rfl]; exact b1 _
  · exact (gm _ _).bind fun _ _ h => (g3 _ _ _ _).le h
  · exact (gn _).bind fun _ _ h => ((gm _ _).le h).bind fun _ _ h => (g3 _ _ _ _).le h
  · exact (gm _ _).bind fun _ _ h => ((gn _).le h).bind fun _ _ h => ((gm _ _).le h).bind fun _ _ h => (g3 _ _ _ _).le h
  · exact (gn _).bind fun _ _ h => ((gm _ _).le h).bind fun _ _ h => ((gn _).le h).bind fun _ _ h => ((gm _ _).le h).bind fun _ _ h => (g3 _ _ _ _).le h
  · exact (nameM_ge.le (by omega)).bind fun _ _ h => ((gn _).le h).bind fun _ _ h => ((gm _ _).le h).bind fun _ _ h => ((gn _).le h).bind fun _ _ h => ((gm _ _).le h).bind fun _ _ h => (g3 _ _ _ _).le h
end
end Go.Pv
