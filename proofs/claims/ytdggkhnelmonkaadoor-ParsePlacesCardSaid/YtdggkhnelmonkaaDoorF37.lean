/- A table's text with a token more: what is read of it. No condition. -/
import Derived.Test.YtdggkhnelmonkaaDoorF36
namespace Go.Pv
set_option maxRecDepth 100000

/-- More behind the end. -/
theorem tableM_rest {t : TB} (ht : PTB t) {l : List LTok} (hl : t.toks.length < l.length) {w : Tk} (hw0 : w.1 ≠ 0) (h : Mt l 0 (t.toks ++ [w])) : tableM l 0 = .err (tokAt l t.toks.length).pos 12 := by
  have e0 : t.toks.length = 6 + ((t.types.flatMap alTk).length + ((t.faults.flatMap flTk).length + ((t.procs.flatMap pcTk).length + 1))) := by
    simp only [TB.toks, List.length_cons, List.length_append, List.length_nil]; omega
  rw [TB.toks] at h
  simp only [List.cons_append, List.append_assoc] at h
  obtain ⟨h1, h2, h3, h4, h5, h6, h7⟩ := h
  have n1 := flatTk_len alTk (fun a => by simp [alTk]) t.types
  have n2 := flatTk_len flTk (fun a => by simp [flTk]) t.faults
  have n3 := flatTk_len pcTk pcTk_ne t.procs
  rw [tableM, PO.ok_bind (mustM_tk h1 (by decide +kernel)), PO.ok_bind (nameM_tk h2 ht.name), PO.ok_bind (numM_tk h3 ht.number), PO.ok_bind (mustM_tk h4 (by decide +kernel)), PO.ok_bind (numM_tk h5 ht.version), PO.ok_bind (mustM_tk h6 (by decide +kernel))]
  have hd : ∀ (X : List Tk), ∃ c w rest, t.faults.flatMap flTk ++ (t.procs.flatMap pcTk ++ ((3, sClose) :: X)) = (c, w) :: rest ∧ (c != 0 && (c != 2 && seqB w kType)) = false := by
    intro X
    cases hf : t.faults with
    | cons a as => exact ⟨_, _, _, rfl, by decide +kernel⟩
    | nil => cases hp : t.procs with
      | cons a as => exact ⟨_, _, _, rfl, by decide +kernel⟩
      | nil => exact ⟨_, _, _, rfl, by decide +kernel⟩
  have hd2 : ∀ (X : List Tk), ∃ c w rest, t.procs.flatMap pcTk ++ ((3, sClose) :: X) = (c, w) :: rest ∧ (c != 0 && (c != 2 && seqB w kError)) = false := by
    intro X
    cases hp : t.procs with
    | cons a as => exact ⟨_, _, _, rfl, by decide +kernel⟩
    | nil => exact ⟨_, _, _, rfl, by decide +kernel⟩
  have hA : Mt l 6 (t.types.flatMap alTk ++ (t.faults.flatMap flTk ++ (t.procs.flatMap pcTk ++ ((3, sClose) :: [w])))) := h7
  have hB := (Mt.app.1 hA).2
  have hC := (Mt.app.1 hB).2
  obtain ⟨c, u, rest, er, hw⟩ := hd [w]
  rw [er] at hA
  rw [PO.ok_bind (types_tk hw t.types [] _ 6 (by omega) ht.types hA)]
  obtain ⟨c, u, rest, er, hw⟩ := hd2 [w]
  rw [er] at hB
  rw [PO.ok_bind (faults_tk hw t.faults [] _ _ (by omega) ht.faults hB)]
  have hD := (Mt.app.1 hC).2
  rw [PO.ok_bind (procs_tk (w := sClose) (c := 3) (by decide +kernel) t.procs [] _ _ (by omega) ht.procs hC)]
  obtain ⟨h8, h9, _⟩ := hD
  have hk9 : (tokAt l (6 + (t.types.flatMap alTk).length + (t.faults.flatMap flTk).length + (t.procs.flatMap pcTk).length + 1)).kind = w.1 := congrArg Prod.fst h9
  rw [endM, PO.ok_bind (mustM_tk h8 (by decide +kernel))]
  rw [if_neg (by rw [hk9]; exact hw0), e0]
  rw [show 6 + ((t.types.flatMap alTk).length + ((t.faults.flatMap flTk).length + ((t.procs.flatMap pcTk).length + 1))) = 6 + (t.types.flatMap alTk).length + (t.faults.flatMap flTk).length + (t.procs.flatMap pcTk).length + 1 by omega]
  exact PO.err_bind rfl _
theorem toksAt_app : ∀ (a b : List It) (n : Nat), toksAt n (a ++ b) = toksAt n a ++ toksAt (n + (catL a).length) b
  | [], b, n => by simp [toksAt, catL]
  | x :: a, b, n => by
    rw [List.cons_append, toksAt, toksAt, toksAt_app a b, List.cons_append]
    congr 3
    simp [catL]; omega
theorem tok_pos (a b : List It) (x : It) (p : Nat) : (tokAt (toksAt 0 (a ++ x :: b) ++ [⟨0, p, bs []⟩]) a.length).pos = (catL a).length + x.gap.length := by
  rw [toksAt_app, tokAt, List.getD_eq_getElem?_getD, List.append_assoc, List.getElem?_append_right (by rw [toksAt_len]; exact Nat.le_refl _), toksAt_len, Nat.sub_self, toksAt]
  simp
theorem cat_size (gaps : List Int) (l : List Tk) : (catL (itG gaps 0 l)).length = (texM (l.map (·.2)) gaps l.length).size := by rw [← texM_all, size_toList]
def semiI : It := ⟨sp, 3, sSemi⟩
def parI : It := ⟨sp, 3, sParR⟩
theorem semi_ok (post : List UInt8) : itemsOk [semiI] post := okB_ok (hd := false) (by decide +kernel) (fun h => by cases h)
theorem par_ok (post : List UInt8) : itemsOk [parI] post := okB_ok (hd := false) (by decide +kernel) (fun h => by cases h)
/-- A sign behind all. -/
theorem parse_rest {t : TB} (h : PTB t) (gaps : List Int) (hs : (texM (t.toks.map (·.2)) gaps t.toks.length ++ bs [32, 59]).size ≤ 4000) :
    parseM (texM (t.toks.map (·.2)) gaps t.toks.length ++ bs [32, 59]) = (TB.zero, (((texM (t.toks.map (·.2)) gaps t.toks.length).size + 1 : Nat) : Int), 12) := by
  have e : (texM (t.toks.map (·.2)) gaps t.toks.length ++ bs [32, 59]).toList = catL (itG gaps 0 t.toks ++ [semiI]) ++ [] := by
    rw [toList_append, texM_all, catL_app, List.append_nil]
    congr 1
    decide +kernel
  have hok : itemsOk (itG gaps 0 t.toks ++ [semiI]) [] := itemsOk_app (itG_ok gaps t.toks 0 _ (good_table h) (by rw [List.append_nil]; exact sp_sep)) (semi_ok [])
  have hlex := lexM_items e .nil hok hs
  have hm := Mt_items (itG gaps 0 t.toks ++ [semiI]) 0 (texM (t.toks.map (·.2)) gaps t.toks.length ++ bs [32, 59]).size
  have ht : tks (itG gaps 0 t.toks ++ [semiI]) = t.toks ++ [(3, sSemi)] := by rw [tks, List.map_append]; exact congrArg (· ++ _) (itG_tks gaps 0 t.toks)
  rw [ht] at hm
  have hl : (itG gaps 0 t.toks).length = t.toks.length := by have := congrArg List.length (itG_tks gaps 0 t.toks); rw [tks, List.length_map] at this; exact this
  have hp := tok_pos (itG gaps 0 t.toks) [] semiI (texM (t.toks.map (·.2)) gaps t.toks.length ++ bs [32, 59]).size
  rw [hl, cat_size] at hp
  unfold parseM
  rw [hlex]
  simp only
  rw [tableM_rest h (by rw [List.length_append, toksAt_len, List.length_append, hl]; simp only [List.length_cons, List.length_nil]; omega) three_ne (Mt.app.1 hm).1, hp]
  rfl
/-- Behind a bracket that closes stands 'returns'. -/
def ParRet (l : List Tk) : Prop := ∀ i, l[i]? = some ((3, sParR) : Tk) → l[i + 1]? = some ((1, kReturns) : Tk)
theorem ParRet.app {a b : List Tk} (ha : ParRet a) (hb : ParRet b) : ParRet (a ++ b) := by
  intro i h
  by_cases hi : i < a.length
  · rw [List.getElem?_append_left hi] at h
    have h2 := ha i h
    have := (List.getElem?_eq_some_iff.1 h2).1
    rw [List.getElem?_append_left this]; exact h2
  · rw [List.getElem?_append_right (by omega)] at h
    have h2 := hb _ h
    rw [List.getElem?_append_right (by omega), show i + 1 - a.length = i - a.length + 1 by omega]; exact h2
theorem ParRet.no {l : List Tk} (h : ∀ x ∈ l, x ≠ (3, sParR)) : ParRet l := fun _ e => absurd rfl (h _ (List.mem_of_getElem? e))
theorem type_all {Q : Tk → Prop} (h0 : ∀ x ∈ ([(1, kText), (3, sBraL), (3, sBraR), (1, kSeq), (1, kOf), (1, kRecord), (1, kChoice), (1, kEnum), (3, sOpen), (3, sClose), (3, sColon), (3, sComma)] : List Tk), Q x) (h1 : ∀ x, Q (1, x)) (h2 : ∀ x, Q (2, x)) {d : Nat} {t : KT} (h : PT d t) : ∀ x ∈ t.toks, Q x := by
  have q : ∀ x ∈ ([(1, kText), (3, sBraL), (3, sBraR), (1, kSeq), (1, kOf), (1, kRecord), (1, kChoice), (1, kEnum), (3, sOpen), (3, sClose), (3, sColon), (3, sComma)] : List Tk), Q x := h0
  have fld : ∀ {F : List (ByteArray × List Tk)}, (∀ x ∈ F, ∀ t ∈ x.2, Q t) → ∀ t ∈ fldToks F, Q t := by
    intro F
    induction F with
    | nil => intro _ t ht; cases ht
    | cons x F ih =>
      obtain ⟨s, u⟩ := x
      intro hh t ht
      have h2 := hh _ List.mem_cons_self
      cases F with
      | nil =>
        rcases List.mem_cons.1 ht with rfl | ht
        · exact h1 s
        · exact h2 t ht
      | cons y F =>
        have ih := ih (fun x hx => hh x (List.mem_cons_of_mem _ hx))
        simp only [fldToks, List.cons_append, List.mem_cons, List.mem_append] at ht
        rcases ht with rfl | ht | rfl | ht
        · exact h1 s
        · exact h2 t ht
        · exact q _ (by simp)
        · exact ih t ht
  have lst : ∀ {a : Tk} {F : List (ByteArray × List Tk)}, Q a → (∀ x ∈ F, ∀ t ∈ x.2, Q t) → ∀ x ∈ a :: (3, sOpen) :: (fldToks F ++ [(3, sClose)]), Q x := by
    intro a F ha hF x hx
    rcases List.mem_cons.1 hx with rfl | hx
    · exact ha
    rcases List.mem_cons.1 hx with rfl | hx
    · exact q _ (by simp)
    rcases List.mem_append.1 hx with hx | hx
    · exact fld hF x hx
    · rw [List.mem_singleton.1 hx]; exact q _ (by simp)
  induction h with
  | base d k hk =>
    rw [KT.toks, if_neg (by omega), if_neg (by omega), if_neg (by omega), if_neg (by omega), if_neg (by omega), if_neg (by omega)]
    intro x hx; rw [List.mem_singleton.1 hx]; exact h1 _
  | text d m hm =>
    rw [KT.toks, if_pos rfl]
    intro x hx
    simp only [List.mem_cons, List.not_mem_nil, or_false] at hx
    rcases hx with rfl | rfl | rfl | rfl
    · exact h1 _
    · exact q _ (by simp)
    · exact h2 _
    · exact q _ (by simp)
  | seq d m o hm ho ih =>
    rw [KT.toks, if_neg (by decide), if_pos rfl]
    intro x hx
    rcases List.mem_append.1 hx with hx | hx
    · simp only [List.mem_cons, List.not_mem_nil, or_false] at hx
      rcases hx with rfl | rfl | rfl | rfl | rfl
      · exact h1 _
      · exact q _ (by simp)
      · exact h2 _
      · exact q _ (by simp)
      · exact h1 _
    · exact ih x hx
  | reco d k n o hk hl hn0 hn ho ih =>
    have hF : ∀ x ∈ n.zip ((KT.toksL o).map fun t => ((3, sColon) :: t : List Tk)), ∀ t ∈ x.2, Q t := by
      rw [zip_eq]
      intro x hx t ht
      obtain ⟨y, hy, rfl⟩ := List.mem_map.1 hx
      rcases List.mem_cons.1 ht with rfl | ht
      · exact q _ (by simp)
      · exact ih y.2 (List.of_mem_zip hy).2 t ht
    rcases hk with rfl | rfl
    · rw [KT.toks, if_neg (by decide), if_neg (by decide), if_pos rfl]; exact lst (h1 _) hF
    · rw [KT.toks, if_neg (by decide), if_neg (by decide), if_neg (by decide), if_pos rfl]; exact lst (h1 _) hF
  | enum d n hn0 hn =>
    rw [KT.toks, if_neg (by decide), if_neg (by decide), if_neg (by decide), if_neg (by decide), if_pos rfl]
    refine lst (h1 _) fun x hx t ht => ?_
    obtain ⟨y, hy, rfl⟩ := List.mem_map.1 hx
    cases ht
  | ref d x hx =>
    rw [KT.toks, if_neg (by decide), if_neg (by decide), if_neg (by decide), if_neg (by decide), if_neg (by decide), if_pos rfl]
    intro x hx; rw [List.mem_singleton.1 hx]; exact h1 _
theorem ne1 (x : ByteArray) : ((1, x) : Tk) ≠ (3, sParR) := fun e => absurd (congrArg Prod.fst e) (by show ¬ (1 : Int) = 3; decide)
theorem ne2 (x : ByteArray) : ((2, x) : Tk) ≠ (3, sParR) := fun e => absurd (congrArg Prod.fst e) (by show ¬ (2 : Int) = 3; decide)
theorem ne3 {x : ByteArray} (h : seqB x sParR = false) : ((3, x) : Tk) ≠ (3, sParR) := fun e => by
  have := congrArg Prod.snd e
  simp only at this
  rw [this] at h
  exact absurd h (by decide +kernel)
theorem type_noPar {d : Nat} {t : KT} (h : PT d t) : ∀ x ∈ t.toks, x ≠ (3, sParR) := by
  refine type_all (Q := fun x => x ≠ (3, sParR)) (fun x hx => ?_) ne1 ne2 h
  simp only [List.mem_cons, List.not_mem_nil, or_false] at hx
  rcases hx with rfl | rfl | rfl | rfl | rfl | rfl | rfl | rfl | rfl | rfl | rfl | rfl <;> first | exact ne1 _ | exact ne3 (by decide +kernel)
theorem ParRet.flat {α : Type} {f : α → List Tk} : ∀ {l : List α}, (∀ a ∈ l, ParRet (f a)) → ParRet (l.flatMap f)
  | [], _ => fun _ h => by simp at h
  | a :: l, h => by
    rw [List.flatMap_cons]
    exact (h a List.mem_cons_self).app (ParRet.flat fun x hx => h x (List.mem_cons_of_mem _ hx))
theorem ParRet.cons {x : Tk} {l : List Tk} (hx : x ≠ (3, sParR)) (h : ParRet l) : ParRet (x :: l) := ParRet.app (a := [x]) (.no fun y hy => by rw [List.mem_singleton.1 hy]; exact hx) h
theorem table_par {t : TB} (h : PTB t) : ParRet t.toks := by
  have k3 : ∀ {x : ByteArray} {l : List Tk}, seqB x sParR = false → ParRet l → ParRet ((3, x) :: l) := fun hx hl => .cons (ne3 hx) hl
  have k1 : ∀ {x : ByteArray} {l : List Tk}, ParRet l → ParRet ((1, x) :: l) := fun hl => .cons (ne1 _) hl
  have k2 : ∀ {x : ByteArray} {l : List Tk}, ParRet l → ParRet ((2, x) :: l) := fun hl => .cons (ne2 _) hl
  have nil : ParRet [] := fun _ h => by simp at h
  have one : ∀ {x : ByteArray}, seqB x sParR = false → ParRet [(3, x)] := fun hx => k3 hx nil
  unfold TB.toks
  refine k1 (k1 (k2 (k1 (k2 (k3 (by decide +kernel) (ParRet.app ?_ (ParRet.app ?_ (ParRet.app ?_ (one (by decide +kernel))))))))))
  · refine ParRet.flat fun a ha => ?_
    exact k1 (k1 (k3 (by decide +kernel) (ParRet.app (.no (type_noPar (h.types a ha).2)) (one (by decide +kernel)))))
  · refine ParRet.flat fun a ha => ?_
    exact k1 (k1 (k3 (by decide +kernel) (k2 (one (by decide +kernel)))))
  · refine ParRet.flat fun a ha => ?_
    obtain ⟨_, _, h3, h4, _⟩ := h.procs a ha
    refine k1 (k1 (k3 (by decide +kernel) (k2 (k3 (by decide +kernel) (ParRet.app (.no (type_noPar h3)) ?_)))))
    have hr : ParRet ((1, kReturns) :: (a.answers.toks ++ [(1, kCollate), (1, colX a.collate), (1, kTimeout), (2, numX a.timeout), (3, sSemi)])) := k1 (ParRet.app (.no (type_noPar h4)) (k1 (k1 (k1 (k2 (one (by decide +kernel)))))))
    intro i hi
    cases i with
    | zero => rfl
    | succ i => rw [List.getElem?_cons_succ] at hi ⊢; exact hr i hi
theorem not_par {x : Tk} (h : goodT x) (he : x.2 = sParR) : x = (3, sParR) := by
  obtain ⟨k, u⟩ := x
  simp only at he
  subst he
  have hl : sParR.toList = [41] := by decide +kernel
  rcases h.1 with ⟨_, w⟩ | ⟨_, w⟩ | ⟨e, _⟩
  · exact absurd w.first (by show letter (byteAt sParR 0) ≠ true; decide +kernel)
  · have := w.all 41 (by show (41 : UInt8) ∈ sParR.toList; rw [hl]; exact List.mem_singleton_self _)
    exact absurd this (by decide)
  · exact congrArg (·, sParR) e
theorem gapTx_pos (k : Int) : 1 ≤ (gapTx k).toList.length := by
  obtain ⟨c, g, e, _⟩ := (gapTx_ok k).2
  rw [e, List.length_cons]; omega
theorem gap_nil (i : Nat) : gapTx (gapAt [] i % 5) = bs [32] := by rw [gapAt, if_neg (by decide)]; rfl
theorem cat_le (gaps : List Int) : ∀ (l : List Tk) (n i : Nat), (catL (itG [] n l)).length ≤ (catL (itG gaps i l)).length
  | [], _, _ => Nat.le_refl _
  | x :: l, n, i => by
    have := cat_le gaps l (n + 1) (i + 1)
    have h1 := gapTx_pos (gapAt gaps i % 5)
    have h2 : (bs [32]).toList.length = 1 := by decide +kernel
    simp only [itG, catL, List.flatMap_cons, It.bytes, List.length_append] at this ⊢
    rw [gap_nil, h2]; omega
/-- The text with a sign in it. -/
def wrongTx (l : List Tk) (gaps : List Int) (i : Nat) : ByteArray := texM ((l.take i).map (·.2)) gaps (l.take i).length ++ bs [32, 41] ++ texM ((l.drop i).map (·.2)) [] (l.drop i).length
def wrongI (l : List Tk) (gaps : List Int) (i : Nat) : List It := itG gaps 0 (l.take i) ++ parI :: itG [] 0 (l.drop i)
theorem par_bytes : (bs [32, 41]).toList = catL [parI] := by decide +kernel
theorem wrong_cat (l : List Tk) (gaps : List Int) (i : Nat) : (wrongTx l gaps i).toList = catL (wrongI l gaps i) ++ [] := by
  rw [wrongTx, toList_append, toList_append, texM_all, texM_all, wrongI, List.append_nil, catL_app, par_bytes, List.append_assoc, ← catL_app, List.singleton_append]
theorem wrong_size (l : List Tk) (gaps : List Int) (i : Nat) : (wrongTx l gaps i).size ≤ (texM (l.map (·.2)) gaps l.length).size + 2 := by
  have h1 := congrArg List.length (texM_all gaps l)
  have h2 := congrArg List.length (wrong_cat l gaps i)
  rw [size_toList] at h1 h2
  rw [h1, h2]
  have e : itG gaps 0 l = itG gaps 0 (l.take i) ++ itG gaps (0 + (l.take i).length) (l.drop i) := by rw [← itG_app, List.take_append_drop]
  have hp : (catL [parI]).length = 2 := by decide +kernel
  have h3 := cat_le gaps (l.drop i) 0 (0 + (l.take i).length)
  rw [e, wrongI, List.append_nil, catL_app, catL_app, show parI :: itG [] 0 (l.drop i) = [parI] ++ itG [] 0 (l.drop i) from rfl, catL_app, List.length_append, List.length_append, List.length_append, hp]
  omega
theorem getD_at {l : List Tk} {i : Nat} {d : Tk} (h : i < l.length) : l.getD i d = l[i] := by rw [List.getD_eq_getElem?_getD, List.getElem?_eq_getElem h]; rfl
/-- A sign put ahead of a token. -/
theorem parse_wrong {t : TB} (h : PTB t) (gaps : List Int) {i : Nat} (hi : i < t.toks.length) (hs : (texM (t.toks.map (·.2)) gaps t.toks.length).size ≤ 3000) :
    ∃ p e : Int, parseM (wrongTx t.toks gaps i) = (TB.zero, p, e) ∧ ((t.toks[i]).2 = sParR → p = ((texM ((t.toks.take i).map (·.2)) gaps (t.toks.take i).length).size + 3 : Nat) ∧ e = 4)
      ∧ ((t.toks[i]).2 ≠ sParR → p = ((texM ((t.toks.take i).map (·.2)) gaps (t.toks.take i).length).size + 1 : Nat) ∧ (e = 4 ∨ e = 8 ∨ e = 22)) := by
  have hws := wrong_size t.toks gaps i
  have hwc := wrong_cat t.toks gaps i
  have hgood := good_table h
  have hpar := table_par h
  have htl : (t.toks.take i).length = i := by rw [List.length_take]; omega
  have hsz := cat_size gaps (t.toks.take i)
  have hok : itemsOk (wrongI t.toks gaps i) [] := by
    refine itemsOk_app (itG_ok gaps _ 0 _ (fun x hx => hgood x (List.mem_of_mem_take hx)) ?_) (itemsOk_app (a := [parI]) (par_ok _) (itG_ok [] _ 0 [] (fun x hx => hgood x (List.mem_of_mem_drop hx)) sepL_nil))
    rw [List.append_nil]; exact sp_sep
  have hlex := lexM_items hwc .nil hok (by omega)
  have hwt : tks (wrongI t.toks gaps i) = t.toks.take i ++ (3, sParR) :: t.toks.drop i := by
    rw [wrongI, tks, List.map_append, List.map_cons]
    exact congr (congrArg (· ++ ·) (itG_tks gaps 0 _)) (congrArg _ (itG_tks [] 0 _))
  have hwl : (wrongI t.toks gaps i).length = t.toks.length + 1 := by
    have := congrArg List.length hwt
    rw [tks, List.length_map, List.length_append, List.length_cons, List.length_take, List.length_drop] at this
    omega
  have hgl : (itG gaps 0 (t.toks.take i)).length = i := by
    have := congrArg List.length (itG_tks gaps 0 (t.toks.take i)); rw [tks, List.length_map, htl] at this; exact this
  have h0l : (itG [] 0 t.toks).length = t.toks.length := by
    have := congrArg List.length (itG_tks [] 0 t.toks); rw [tks, List.length_map] at this; exact this
  have hm0 := Mt_items (itG [] 0 t.toks) 0 0
  rw [itG_tks] at hm0
  have htab := tableM_tk h (l := toksAt 0 (itG [] 0 t.toks) ++ [⟨0, 0, bs []⟩]) (by rw [List.length_append, toksAt_len, h0l, List.length_singleton]; omega) hm0
  have hk0 : ∀ k, tkAt (toksAt 0 (itG [] 0 t.toks) ++ [⟨0, 0, bs []⟩]) k = (t.toks ++ [(0, bs [])]).getD k (0, bs []) := fun k => by rw [toksAt_tk, itG_tks]
  have hkm : ∀ k, tkAt (toksAt 0 (wrongI t.toks gaps i) ++ [⟨0, (wrongTx t.toks gaps i).size, bs []⟩]) k = (t.toks.take i ++ (3, sParR) :: (t.toks.drop i ++ [(0, bs [])])).getD k (0, bs []) := fun k => by
    rw [toksAt_tk, hwt, List.append_assoc, List.cons_append]
  have hlow : ∀ k, k < i → tkAt (toksAt 0 (wrongI t.toks gaps i) ++ [⟨0, (wrongTx t.toks gaps i).size, bs []⟩]) k = tkAt (toksAt 0 (itG [] 0 t.toks) ++ [⟨0, 0, bs []⟩]) k := fun k hk => by
    rw [hk0, hkm, List.getD_eq_getElem?_getD, List.getD_eq_getElem?_getD, List.getElem?_append_left (by rw [htl]; exact hk), List.getElem?_take_of_lt hk, List.getElem?_append_left (by omega)]
  have hmi : tkAt (toksAt 0 (wrongI t.toks gaps i) ++ [⟨0, (wrongTx t.toks gaps i).size, bs []⟩]) i = (3, sParR) := by
    rw [hkm, List.getD_eq_getElem?_getD, List.getElem?_append_right (by rw [htl]; exact Nat.le_refl _), htl, Nat.sub_self]; rfl
  have hmi1 : tkAt (toksAt 0 (wrongI t.toks gaps i) ++ [⟨0, (wrongTx t.toks gaps i).size, bs []⟩]) (i + 1) = t.toks[i] := by
    rw [hkm, List.getD_eq_getElem?_getD, List.getElem?_append_right (by rw [htl]; omega), htl, show i + 1 - i = 0 + 1 by omega, List.getElem?_cons_succ, List.getElem?_append_left (by rw [List.length_drop]; omega), List.getElem?_drop, Nat.add_zero, List.getElem?_eq_getElem hi]; rfl
  have h0i : tkAt (toksAt 0 (itG [] 0 t.toks) ++ [⟨0, 0, bs []⟩]) i = t.toks[i] := by
    rw [hk0, List.getD_eq_getElem?_getD, List.getElem?_append_left hi, List.getElem?_eq_getElem hi]; rfl
  have hlen : (toksAt 0 (itG [] 0 t.toks) ++ [(⟨0, 0, bs []⟩ : LTok)]).length ≤ (toksAt 0 (wrongI t.toks gaps i) ++ [(⟨0, (wrongTx t.toks gaps i).size, bs []⟩ : LTok)]).length := by
    rw [List.length_append, List.length_append, toksAt_len, toksAt_len, h0l, hwl, List.length_singleton, List.length_singleton]; omega
  have h0len : t.toks.length < (toksAt 0 (itG [] 0 t.toks) ++ [(⟨0, 0, bs []⟩ : LTok)]).length := by rw [List.length_append, toksAt_len, h0l, List.length_singleton]; omega
  have fin : ∀ {p e : Int}, tableM (toksAt 0 (wrongI t.toks gaps i) ++ [⟨0, (wrongTx t.toks gaps i).size, bs []⟩]) 0 = .err p e → parseM (wrongTx t.toks gaps i) = (TB.zero, p, e) := fun e => by
    unfold parseM
    rw [hlex]
    simp only [e]
  by_cases hp : (t.toks[i]).2 = sParR
  · have hr := hpar i (by rw [List.getElem?_eq_getElem hi, not_par (hgood _ (List.getElem_mem hi)) hp])
    have hi1 : i + 1 < t.toks.length := (List.getElem?_eq_some_iff.1 hr).1
    have h0i1 : tkAt (toksAt 0 (itG [] 0 t.toks) ++ [⟨0, 0, bs []⟩]) (i + 1) = (1, kReturns) := by
      rw [hk0, List.getD_eq_getElem?_getD, List.getElem?_append_left hi1, hr]; rfl
    have D : Div (toksAt 0 (itG [] 0 t.toks) ++ [⟨0, 0, bs []⟩]) (toksAt 0 (wrongI t.toks gaps i) ++ [⟨0, (wrongTx t.toks gaps i).size, bs []⟩]) (i + 1) := by
      refine ⟨hlen, fun k hk => ?_, ?_, ?_⟩
      · by_cases e : k = i
        · rw [e, hmi, h0i]; exact (not_par (hgood _ (List.getElem_mem hi)) hp).symm
        · exact hlow k (by omega)
      · rw [hmi1]; exact not_par (hgood _ (List.getElem_mem hi)) hp
      · rw [show (tokAt (toksAt 0 (itG [] 0 t.toks) ++ [⟨0, 0, bs []⟩]) (i + 1)).text = kReturns from congrArg Prod.snd h0i1]
        decide +kernel
    obtain ⟨e, he, hc⟩ := D.table (by omega) htab hi1
    obtain ⟨x, xs, hx⟩ : ∃ x xs, t.toks.drop i = x :: xs := by
      cases e : t.toks.drop i with
      | nil => have := congrArg List.length e; rw [List.length_drop, List.length_nil] at this; omega
      | cons x xs => exact ⟨x, xs, rfl⟩
    have hpos := tok_pos (itG gaps 0 (t.toks.take i) ++ [parI]) (itG [] 1 xs) ⟨(gapTx (gapAt [] 0 % 5)).toList, x.1, x.2⟩ (wrongTx t.toks gaps i).size
    have hpi : (catL [parI]).length = 2 := by decide +kernel
    have hg1 : (gapTx (gapAt [] 0 % 5)).toList.length = 1 := by rw [gap_nil]; decide +kernel
    rw [show itG gaps 0 (t.toks.take i) ++ [parI] ++ (⟨(gapTx (gapAt [] 0 % 5)).toList, x.1, x.2⟩ : It) :: itG [] 1 xs = wrongI t.toks gaps i by rw [wrongI, hx, List.append_assoc]; rfl, List.length_append, hgl, catL_app, List.length_append, hpi, hsz] at hpos
    refine ⟨_, e, fin he, fun _ => ⟨?_, ?_⟩, fun h => absurd hp h⟩
    · show ((tokAt _ (i + [parI].length)).pos : Int) = _
      rw [hpos]; simp only [hg1]
    · rcases hc with h | ⟨_, h⟩ | ⟨_, h⟩
      · exact h
      · exact absurd (congrArg Prod.snd h0i1) h
      · have := congrArg Prod.fst h0i1
        rw [show (tkAt (toksAt 0 (itG [] 0 t.toks) ++ [⟨0, 0, bs []⟩]) (i + 1)).1 = 2 from h] at this
        exact absurd this (by show ¬ (2 : Int) = 1; decide)
  · have D : Div (toksAt 0 (itG [] 0 t.toks) ++ [⟨0, 0, bs []⟩]) (toksAt 0 (wrongI t.toks gaps i) ++ [⟨0, (wrongTx t.toks gaps i).size, bs []⟩]) i := by
      refine ⟨hlen, fun k hk => hlow k hk, hmi, ?_⟩
      rw [show (tokAt (toksAt 0 (itG [] 0 t.toks) ++ [⟨0, 0, bs []⟩]) i).text = (t.toks[i]).2 from congrArg Prod.snd h0i]
      exact hp
    obtain ⟨e, he, hc⟩ := D.table (by omega) htab hi
    have hpos := tok_pos (itG gaps 0 (t.toks.take i)) (itG [] 0 (t.toks.drop i)) parI (wrongTx t.toks gaps i).size
    rw [hgl, hsz] at hpos
    refine ⟨_, e, fin he, fun h => absurd h hp, fun _ => ⟨?_, ?_⟩⟩
    · show ((tokAt (toksAt 0 (wrongI t.toks gaps i) ++ [⟨0, (wrongTx t.toks gaps i).size, bs []⟩]) i).pos : Int) = _
      rw [wrongI, hpos]; rfl
    · rcases hc with h | ⟨h, _⟩ | ⟨h, _⟩
      · exact .inl h
      · exact .inr (.inl h)
      · exact .inr (.inr h)
end Go.Pv
