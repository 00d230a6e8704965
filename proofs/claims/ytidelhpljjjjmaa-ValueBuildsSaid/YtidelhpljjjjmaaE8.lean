/- What is built is of its type; its numbers, as the reference tells them. No condition. -/
import Derived.Test.YtidelhpljjjjmaaE1
namespace Go.Pv

/-- How deep one builds does not matter, so long as it is deep enough. -/
theorem foldB_congr {f g : KT → Nat → Nat → Made} : ∀ {ts : List KT} (_ : ∀ t ∈ ts, ∀ a m, f t a m = g t a m) (a m : Nat), foldB f ts a m = foldB g ts a m
  | [], _, _, _ => rfl
  | t :: ts, h, a, m => by
    simp only [foldB]
    rw [h t List.mem_cons_self, foldB_congr fun u hu => h u (List.mem_cons_of_mem _ hu)]
theorem build_deep (l : List Int) {e : Nat} {T : KT} (h : WT e T) : ∀ (d a m : Nat), e ≤ d → buildM l d T a m = buildM l e T a m := by
  induction h with
  | base e k hk =>
    intro d a m hd
    obtain ⟨d, rfl⟩ : ∃ d', d = d' + 1 := ⟨d - 1, by omega⟩
    have : k = 0 ∨ k = 1 ∨ k = 2 ∨ k = 3 := by omega
    rcases this with rfl | rfl | rfl | rfl
    · rw [buildM_0 rfl, buildM_0 rfl]
    · rw [buildM_1 rfl, buildM_1 rfl]
    · rw [buildM_2 rfl, buildM_2 rfl]
    · rw [buildM_3 rfl, buildM_3 rfl]
  | text e m =>
    intro d a m' hd
    obtain ⟨d, rfl⟩ : ∃ d', d = d' + 1 := ⟨d - 1, by omega⟩
    rw [buildM_4 rfl, buildM_4 rfl]
  | enum e n =>
    intro d a m hd
    obtain ⟨d, rfl⟩ : ∃ d', d = d' + 1 := ⟨d - 1, by omega⟩
    rw [buildM_7 rfl, buildM_7 rfl]
  | seq e mo o _ _ ih =>
    intro d a m hd
    obtain ⟨d, rfl⟩ : ∃ d', d = d' + 1 := ⟨d - 1, by omega⟩
    by_cases hm : m + 1 ≤ 100
    · rw [buildM_5 rfl hm, buildM_5 rfl hm]
      rw [foldB_congr (f := buildM l d) (g := buildM l e) fun u hu a m => by
        rw [(List.mem_replicate.1 hu).2]
        exact ih d a m (by omega)]
    · rw [buildM_5n rfl (by omega), buildM_5n rfl (by omega)]
  | reco e k n o hk hl hn _ ho ih =>
    intro d a m hd
    obtain ⟨d, rfl⟩ : ∃ d', d = d' + 1 := ⟨d - 1, by omega⟩
    rcases hk with rfl | rfl
    · rw [buildM_6 rfl, buildM_6 rfl]
      rw [foldB_congr (f := buildM l d) (g := buildM l e) (ts := (KT.mk 6 0 n o).of) fun u hu a m => ih u hu d a m (by omega)]
    · have h0 : (KT.mk 8 0 n o).of.length ≠ 0 := show o.length ≠ 0 by omega
      rw [buildM_8 rfl h0, buildM_8 rfl h0]
      have h1 := Int.emod_lt_of_pos (nextN l a) (show (0 : Int) < o.length by omega)
      have h2 := Int.emod_nonneg (nextN l a) (show (o.length : Int) ≠ 0 by omega)
      have hj : (nextN l a % ((KT.mk 8 0 n o).of.length : Int)).toNat < o.length := by
        show (nextN l a % (o.length : Int)).toNat < o.length
        omega
      obtain ⟨y, hy⟩ : ∃ y, (KT.mk 8 0 n o).of.getD (nextN l a % ((KT.mk 8 0 n o).of.length : Int)).toNat (.mk 0 0 [] []) = y ∧ y ∈ o := by
        refine ⟨o[(nextN l a % ((KT.mk 8 0 n o).of.length : Int)).toNat], ?_, List.getElem_mem hj⟩
        show o.getD _ _ = _
        rw [List.getD_eq_getElem?_getD, List.getElem?_eq_getElem hj]; rfl
      rw [hy.1, ih y hy.2 d _ _ (by omega)]

theorem bits_zero : fbits 0 = 0 := by decide +kernel
theorem noFT_zero {n : Int} {o : List VT} : noFT (.mk n 0 (bs []) o) = true := by
  unfold noFT; simp [VT.pj, bits_zero]
theorem foldB_zip {f : KT → Nat → Nat → Made} {e : KT → VT → Bool} : ∀ {ts : List KT} (_ : ∀ t ∈ ts, ∀ a m, e t (f t a m).v = true) (a m : Nat), allZip e ts (foldB f ts a m).1 = true
  | [], _, _, _ => rfl
  | t :: ts, h, a, m => by
    simp only [foldB, allZip]
    rw [h t List.mem_cons_self, foldB_zip fun u hu => h u (List.mem_cons_of_mem _ hu)]; rfl
theorem letters_toList (n : Nat) : (letters n).size = n := letters_size n
/-- What is built is of its type. -/
theorem built_is {l : List Int} (hr : ∀ x ∈ l, -9223372036854775808 ≤ x ∧ x ≤ 9223372036854775807) {e : Nat} {T : KT} (h : WT e T) : ∀ (a m : Nat), VT.is e T (buildM l e T a m).v = true := by
  induction h with
  | base e k hk =>
    intro a m
    have : k = 0 ∨ k = 1 ∨ k = 2 ∨ k = 3 := by omega
    have hlen : ∀ n f s, (VT.mk n f s []).of.length = 0 := fun _ _ _ => rfl
    rcases this with rfl | rfl | rfl | rfl
    · rw [buildM_0 rfl, is0]
      simp only [VT.num, noFT_zero, VT.pj, List.length_nil, Bool.true_and]
      simp; omega
    · rw [buildM_1 rfl, is1]
      simp only [VT.num, noFT_zero, VT.pj, List.length_nil, Bool.true_and]
      simp; omega
    · rw [buildM_2 rfl, is2]
      simp only [VT.num, noFT_zero, VT.pj, List.length_nil, Bool.true_and]
      simp only [IntKind.wrap_i64, IntKind.wrap_i32]
      simp; omega
    · rw [buildM_3 rfl, is3]
      simp [VT.pj]
  | text e mo hm =>
    intro a m
    rw [buildM_4 rfl, is4]
    simp only [VT.pj, bits_zero, letters_size, KT.pj]
    have h1 := Int.emod_lt_of_pos (nextN l a) (show (0 : Int) < min (max mo 0) 9223372036854775806 + 1 by omega)
    have h2 := Int.emod_nonneg (nextN l a) (show (min (max mo 0) 9223372036854775806 + 1 : Int) ≠ 0 by omega)
    simp; omega
  | enum e n hl hf =>
    intro a m
    rw [buildM_7 rfl, is7]
    have := Int.emod_lt_of_pos (nextN l a) (show (0 : Int) < (max n.length 1 : Nat) by omega)
    have := Int.emod_nonneg (nextN l a) (show ((max n.length 1 : Nat) : Int) ≠ 0 by omega)
    simp only [VT.num, noFT_zero, VT.pj, KT.pj, List.length_nil, Bool.true_and]
    simp; omega
  | seq e mo o hm ho ih =>
    intro a m
    by_cases hm' : m + 1 ≤ 100
    · rw [buildM_5 rfl hm', is5]
      simp only [noFT_zero, VT.pj, KT.pj, foldB_len, List.length_replicate, Bool.true_and]
      have h1 : decide ((((min (min (nextN l a % 4) mo) (4 * (([o] : List KT).length : Int))).toNat : Nat) : Int) ≤ mo) = true := decide_eq_true (by simp; omega)
      rw [h1]
      simp only [beq_self_eq_true, Bool.true_and, List.length_singleton]
      exact List.all_eq_true.2 (foldB_all (P := fun v => VT.is e ([o].getD 0 (.mk 0 0 [] [])) v = true) (fun u hu a m => by rw [(List.mem_replicate.1 hu).2]; exact ih a m) _ _)
    · rw [buildM_5n rfl (by omega), is5]
      simp only [VT.zero, noFT_zero, VT.pj]
      simp; omega
  | reco e k n o hk hl hn hf ho ih =>
    intro a m
    rcases hk with rfl | rfl
    · rw [buildM_6 rfl, is6]
      simp only [noFT_zero, VT.pj, KT.pj, foldB_len, Bool.true_and, beq_self_eq_true]
      exact foldB_zip (fun t ht a m => ih t ht a m) _ _
    · have h0 : (KT.mk 8 0 n o).of.length ≠ 0 := show o.length ≠ 0 by omega
      rw [buildM_8 rfl h0, is8]
      have h1 := Int.emod_lt_of_pos (nextN l a) (show (0 : Int) < o.length by omega)
      have h2 := Int.emod_nonneg (nextN l a) (show (o.length : Int) ≠ 0 by omega)
      have hj : (nextN l a % (o.length : Int)).toNat < o.length := by omega
      simp only [noFT_zero, VT.pj, KT.pj, Bool.true_and, List.length_singleton, beq_self_eq_true, Bool.and_true]
      rw [decide_eq_true h2, decide_eq_true h1, Bool.true_and, Bool.true_and, List.getD_eq_getElem?_getD, List.getElem?_eq_getElem hj]
      exact ih _ (List.getElem_mem hj) _ _
theorem buildV_is {l : List Int} (hr : ∀ x ∈ l, -9223372036854775808 ≤ x ∧ x ≤ 9223372036854775807) {e : Nat} (he : e ≤ 20) {T : KT} (h : WT e T) : VT.is 20 T (buildV l T) = true := by
  rw [is_deep h 20 _ he, buildV, build_deep l h 20 0 0 he]
  exact built_is hr h 0 0

/-- Which part's type a part has. -/
def partT (t : KT) (v : VT) (i : Nat) : KT := t.of.getD (if t.kind = 6 then i else if t.kind = 8 then v.n.toNat else 0) (.mk 0 0 [] [])
/-- A value's numbers. -/
def flatR : Nat → KT → VT → List Int
  | 0, _, _ => []
  | d + 1, t, v =>
    if t.kind = 3 then [wholeF v.f]
    else if t.kind = 4 then [(v.s.size : Int)]
    else (if t.kind = 5 then [(v.of.length : Int)] else []) ++ (if t.kind < 3 ∨ t.kind > 6 then [v.n] else []) ++ (List.range v.of.length).flatMap fun i => flatR d (partT t v i) (v.of.getD i VT.zero)
theorem take_app {α : Type} (l r : List α) (M : Nat) : (l.take M ++ r).take M = (l ++ r).take M := by
  rw [List.take_append, List.take_append, List.take_take, Nat.min_self, List.length_take]
  by_cases h : l.length ≤ M
  · rw [Nat.min_eq_right h]
  · rw [Nat.min_eq_left (by omega)]
    congr 1
    rw [Nat.sub_self, show M - l.length = 0 by omega]
theorem foldl_walk {M : Nat} {w : List Int → VT → List Int} {g : VT → List Int} : ∀ (xs : List VT) (_ : ∀ x ∈ xs, ∀ o : List Int, o.length ≤ M → w o x = (o ++ g x).take M) (o : List Int), o.length ≤ M → xs.foldl w o = (o ++ xs.flatMap g).take M
  | [], _, o, h => by simp [List.take_of_length_le h]
  | x :: xs, hw, o, h => by
    rw [List.foldl_cons, hw x List.mem_cons_self o h, foldl_walk xs (fun y hy => hw y (List.mem_cons_of_mem _ hy)) _ (by rw [List.length_take]; omega), take_app, List.flatMap_cons, List.append_assoc]
theorem foldZ_walk {M : Nat} {w : KT → VT → List Int → List Int} {g : KT → VT → List Int} {e : KT → VT → Bool} (hw : ∀ t x, e t x = true → ∀ o : List Int, o.length ≤ M → w t x o = (o ++ g t x).take M) : ∀ (ts : List KT) (xs : List VT) (o : List Int), allZip e ts xs = true → xs.length = ts.length → o.length ≤ M →
    foldZ w ts xs o = (o ++ (List.range xs.length).flatMap fun i => g (ts.getD i (.mk 0 0 [] [])) (xs.getD i VT.zero)).take M
  | [], [], o, _, _, h => by simp [foldZ, List.take_of_length_le h]
  | t :: ts, x :: xs, o, ha, hl, h => by
    simp only [allZip, Bool.and_eq_true] at ha
    rw [foldZ, hw t x ha.1 o h, foldZ_walk hw ts xs _ ha.2 (by simpa using hl) (by rw [List.length_take]; omega), take_app, List.length_cons, List.range_succ_eq_map, List.flatMap_cons, List.flatMap_map, List.append_assoc]
    rfl
theorem flatMap_range {g : VT → List Int} : ∀ xs : List VT, xs.flatMap g = (List.range xs.length).flatMap fun i => g (xs.getD i VT.zero)
  | [] => rfl
  | x :: xs => by
    rw [List.length_cons, List.range_succ_eq_map, List.flatMap_cons, List.flatMap_cons, List.flatMap_map, flatMap_range xs]
    rfl
/-- What the walk tells is the beginning of the numbers. -/
theorem walk_flat (M : Nat) {e : Nat} {T : KT} (h : WT e T) : ∀ (d : Nat) (v : VT) (o : List Int), e ≤ d → VT.is e T v = true → o.length ≤ M → walkM M d T v o = (o ++ flatR e T v).take M := by
  have full : ∀ (o r : List Int), o.length ≥ M → o.length ≤ M → o = (o ++ r).take M := fun o r h1 h2 => by
    rw [List.take_append_of_le_length h1, List.take_of_length_le h2]
  have one : ∀ (o : List Int) (n : Int), ¬ o.length ≥ M → o ++ [n] = (o ++ [n]).take M := fun o n h => by
    rw [List.take_of_length_le (by simp; omega)]
  induction h with
  | base e k hk =>
    intro d v o hd his ho
    obtain ⟨d, rfl⟩ : ∃ d', d = d' + 1 := ⟨d - 1, by omega⟩
    have hz : v.of.length = 0 := by
      have : k = 0 ∨ k = 1 ∨ k = 2 ∨ k = 3 := by omega
      rcases this with rfl | rfl | rfl | rfl
      · rw [is0] at his; simp at his; simp [his]
      · rw [is1] at his; simp at his; simp [his]
      · rw [is2] at his; simp at his; simp [his]
      · rw [is3] at his; simp at his; simp [his]
    by_cases hM : o.length ≥ M
    · rw [walkM, if_pos (by omega)]
      exact full _ _ hM ho
    · rw [walkM, if_neg (by omega)]
      by_cases h3 : k = 3
      · subst h3
        exact one _ _ hM
      · have e1 : flatR (e + 1) (.mk k 0 [] []) v = [v.n] := by
          rw [flatR, if_neg (show ¬ (KT.mk k 0 [] []).kind = 3 from h3), if_neg (show ¬ (KT.mk k 0 [] []).kind = 4 from by show ¬ k = 4; omega), if_neg (show ¬ (KT.mk k 0 [] []).kind = 5 from by show ¬ k = 5; omega), if_pos (show (KT.mk k 0 [] []).kind < 3 ∨ _ from .inl (by show k < 3; omega)), hz]
          rfl
        rw [if_neg (show ¬ (KT.mk k 0 [] []).kind = 3 from h3), if_neg (show ¬ (KT.mk k 0 [] []).kind = 4 from by show ¬ k = 4; omega), if_neg (show ¬ (KT.mk k 0 [] []).kind = 5 from by show ¬ k = 5; omega), if_neg (show ¬ (KT.mk k 0 [] []).kind = 6 from by show ¬ k = 6; omega), if_neg (show ¬ (KT.mk k 0 [] []).kind = 8 from by show ¬ k = 8; omega), e1]
        exact one _ _ hM
  | text e m hm =>
    intro d v o hd his ho
    obtain ⟨d, rfl⟩ : ∃ d', d = d' + 1 := ⟨d - 1, by omega⟩
    by_cases hM : o.length ≥ M
    · rw [walkM, if_pos (by omega)]
      exact full _ _ hM ho
    · rw [walkM, if_neg (by omega)]
      exact one _ _ hM
  | enum e n hl hf =>
    intro d v o hd his ho
    obtain ⟨d, rfl⟩ : ∃ d', d = d' + 1 := ⟨d - 1, by omega⟩
    have hz : v.of.length = 0 := by rw [is7] at his; simp at his; simp [his]
    by_cases hM : o.length ≥ M
    · rw [walkM, if_pos (by omega)]
      exact full _ _ hM ho
    · rw [walkM, if_neg (by omega)]
      have e1 : flatR (e + 1) (.mk 7 0 n []) v = [v.n] := by
        show [] ++ [v.n] ++ (List.range v.of.length).flatMap _ = [v.n]
        rw [hz]; rfl
      rw [e1]
      exact one _ _ hM
  | seq e m u hm hu ih =>
    intro d v o hd his ho
    obtain ⟨d, rfl⟩ : ∃ d', d = d' + 1 := ⟨d - 1, by omega⟩
    obtain ⟨_, _, _, ha⟩ := is_5 rfl his
    by_cases hM : o.length ≥ M
    · rw [walkM, if_pos (by omega)]
      exact full _ _ hM ho
    · rw [walkM, if_neg (by omega)]
      show v.of.foldl (fun o x => walkM M d u x o) (o ++ [(v.of.length : Int)]) = _
      rw [foldl_walk (M := M) (g := flatR e u) v.of (fun x hx o ho => ih d x o (by omega) (ha x hx) ho) _ (by simp; omega), flatMap_range]
      show _ = (o ++ ([(v.of.length : Int)] ++ [] ++ (List.range v.of.length).flatMap fun i => flatR e u (v.of.getD i VT.zero))).take M
      rw [List.append_nil, List.append_assoc]
  | reco e k n os hk hl hn hf hos ih =>
    intro d v o hd his ho
    obtain ⟨d, rfl⟩ : ∃ d', d = d' + 1 := ⟨d - 1, by omega⟩
    rcases hk with rfl | rfl
    · obtain ⟨_, h2, ha⟩ := is_6 rfl his
      by_cases hM : o.length ≥ M
      · rw [walkM, if_pos (by omega)]
        exact full _ _ hM ho
      · rw [walkM, if_neg (by omega)]
        show foldZ (walkM M d) os v.of o = _
        have key : ∀ (ts : List KT) (xs : List VT) (o : List Int), (∀ t ∈ ts, t ∈ os) → allZip (VT.is e) ts xs = true → xs.length = ts.length → o.length ≤ M → foldZ (walkM M d) ts xs o = (o ++ (List.range xs.length).flatMap fun i => flatR e (ts.getD i (.mk 0 0 [] [])) (xs.getD i VT.zero)).take M := by
          intro ts
          induction ts with
          | nil =>
            intro xs o _ _ h2 h3
            obtain rfl : xs = [] := List.eq_nil_of_length_eq_zero (by simpa using h2)
            simp [foldZ, List.take_of_length_le h3]
          | cons t ts iht =>
            intro xs o h0 h1 h2 h3
            cases xs with
            | nil => cases h2
            | cons x xs =>
              simp only [allZip, Bool.and_eq_true] at h1
              rw [foldZ, ih t (h0 t List.mem_cons_self) d x o (by omega) h1.1 h3, iht xs _ (fun u hu => h0 u (List.mem_cons_of_mem _ hu)) h1.2 (by simpa using h2) (by rw [List.length_take]; omega), take_app, List.length_cons, List.range_succ_eq_map, List.flatMap_cons, List.flatMap_map, List.append_assoc]
              rfl
        rw [key os v.of o (fun _ h => h) ha h2 ho]
        show _ = (o ++ ([] ++ [] ++ (List.range v.of.length).flatMap fun i => flatR e (os.getD i (.mk 0 0 [] [])) (v.of.getD i VT.zero))).take M
        rfl
    · obtain ⟨⟨h1, h2, h3⟩, ha⟩ := is_8 rfl his
      by_cases hM : o.length ≥ M
      · rw [walkM, if_pos (by omega)]
        exact full _ _ hM ho
      · rw [walkM, if_neg (by omega)]
        show walkM M d (os.getD v.n.toNat (.mk 0 0 [] [])) (v.of.getD 0 VT.zero) (o ++ [v.n]) = _
        have hj : v.n.toNat < os.length := by
          have : v.n < (os.length : Int) := h2
          omega
        have hg : os.getD v.n.toNat (.mk 0 0 [] []) = os[v.n.toNat] := by rw [List.getD_eq_getElem?_getD, List.getElem?_eq_getElem hj]; rfl
        have ha' : VT.is e (os.getD v.n.toNat (.mk 0 0 [] [])) (v.of.getD 0 VT.zero) = true := ha
        rw [hg] at ha' ⊢
        rw [ih _ (List.getElem_mem hj) d _ _ (by omega) ha' (by simp; omega)]
        show _ = (o ++ ([] ++ [v.n] ++ (List.range v.of.length).flatMap fun i => flatR e (os.getD v.n.toNat (.mk 0 0 [] [])) (v.of.getD i VT.zero))).take M
        rw [h3, hg]
        simp
theorem flatM_eq (most : Int) {e : Nat} {T : KT} (h : WT e T) (he : e ≤ 20) {v : VT} (hv : VT.is e T v = true) : flatM most T v = (flatR e T v).take (max most 0).toNat := by
  have hv' : VT.is 20 T v = true := by rw [is_deep h 20 v he]; exact hv
  rw [flatM, if_pos hv']
  by_cases h0 : 0 ≤ most
  · obtain ⟨M, rfl⟩ : ∃ M : Nat, most = M := ⟨most.toNat, by omega⟩
    rw [walk_flat M h 20 v [] he hv (Nat.zero_le _), show (max (M : Int) 0).toNat = M by omega, List.nil_append, List.take_take, Nat.min_self]
  · rw [show (max most 0).toNat = 0 by omega]
    simp
end Go.Pv
namespace Go.Pv
theorem flatR_len {e : Nat} {T : KT} (h : WT e T) {v : VT} (hv : VT.is e T v = true) : (flatR e T v).length ≤ v.count := by
  have h1 := walk_flat (flatR e T v).length h e v [] (Nat.le_refl _) hv (Nat.zero_le _)
  have h2 := walkM_len ((flatR e T v).length : Int) e T v [] hv
  rw [h1, List.nil_append, List.take_length] at h2
  simpa using h2
theorem pre_len {f : Nat → List Int} {k n : Nat} (h : k ≤ n) : ((List.range k).flatMap f).length ≤ ((List.range n).flatMap f).length := by
  induction n with
  | zero => rw [Nat.le_zero.1 h]; exact Nat.le_refl _
  | succ n ih =>
    by_cases hk : k = n + 1
    · rw [hk]; exact Nat.le_refl _
    · have := ih (by omega)
      rw [List.range_succ, List.flatMap_append, List.length_append]
      omega
end Go.Pv
