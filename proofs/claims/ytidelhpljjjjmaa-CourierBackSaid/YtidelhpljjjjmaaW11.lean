/- Functions of the program, by value. No condition. -/
import Derived.Test.YtidelhpljjjjmaaW8
import Derived.Test.YtidelhpljjjjmaaW10
namespace Go.Pv

/-- From one place to another, just these bytes, no error. -/
structure Took (l : List Int) (s : RS) (x : List Int) (q : RS) : Prop where
  s0 : s.e = 0
  q0 : q.e = 0
  at_ : l.drop s.p = x ++ l.drop q.p
  le : q.p ≤ l.length
theorem Took.trans {l x y : List Int} {s q r : RS} (h : Took l s x q) (k : Took l q y r) : Took l s (x ++ y) r :=
  ⟨h.s0, k.q0, by rw [h.at_, k.at_, List.append_assoc], k.le⟩
theorem Took.nil {l : List Int} {s : RS} (h : s.ok l) (he : s.e = 0) : Took l s [] s := ⟨he, he, rfl, h.p⟩
theorem rWord_took {l : List Int} (hb : bytesL l) {s : RS} (_h : s.ok l) (he : (rWord l s).2.e = 0) : Took l s (wordB (rWord l s).1) (rWord l s).2 := by
  have b1 := getD_byte hb s.p
  have b2' := getD_byte hb (s.p + 1)
  unfold rWord at he ⊢
  split at he
  · exact absurd he (rFail_e (by decide))
  · rename_i h2
    rw [if_neg h2]
    simp only at he ⊢
    have hp : s.p + 2 ≤ l.length := by
      unfold rLeft at h2
      rw [if_pos he] at h2
      omega
    refine ⟨he, he, ?_, hp⟩
    have g1 : l.getD s.p 0 = l[s.p] := by rw [List.getD_eq_getElem?_getD, List.getElem?_eq_getElem (by omega)]; rfl
    have g2 : l.getD (s.p + 1) 0 = l[s.p + 1] := by rw [List.getD_eq_getElem?_getD, List.getElem?_eq_getElem (by omega)]; rfl
    rw [List.drop_eq_getElem_cons (by omega : s.p < l.length), List.drop_eq_getElem_cons (by omega : s.p + 1 < l.length), ← g1, ← g2]
    generalize l.getD s.p 0 = x at *
    generalize l.getD (s.p + 1) 0 = y at *
    show _ = [(x * 256 + y) / 256 % 256, (x * 256 + y) % 256] ++ _
    rw [show (x * 256 + y) / 256 % 256 = x by omega, show (x * 256 + y) % 256 = y by omega]; rfl
theorem rWithin_took {l : List Int} (hb : bytesL l) {s : RS} (h : s.ok l) {m : Int} (he : (rWithin l s m).2.e = 0) : Took l s (wordB (rWithin l s m).1) (rWithin l s m).2 := by
  unfold rWithin at he ⊢
  split at he
  · exact absurd he (rFail_e (by decide))
  · rename_i h2
    rw [if_neg h2]
    exact rWord_took hb h he
theorem rLong_took {l : List Int} (hb : bytesL l) {s : RS} (h : s.ok l) (he : (rLong l s).2.e = 0) : Took l s (longB (rLong l s).1) (rLong l s).2 := by
  have h2 := rWord_took hb (rWord_ok h) (show (rWord l (rWord l s).2).2.e = 0 from he)
  have h1 := rWord_took hb h h2.s0
  have n1 := rWord_in hb s
  have n2 := rWord_in hb (rWord l s).2
  have := h1.trans h2
  unfold rLong
  simp only
  rw [if_pos (show (rWord l (rWord l s).2).2.e = 0 from he), longB]
  rw [show ((rWord l s).1 * 65536 + (rWord l (rWord l s).2).1) / 65536 = (rWord l s).1 by omega, show ((rWord l s).1 * 65536 + (rWord l (rWord l s).2).1) % 65536 = (rWord l (rWord l s).2).1 by omega]
  exact this
theorem rQuad_took {l : List Int} (hb : bytesL l) {s : RS} (h : s.ok l) (he : (rQuad l s).2.e = 0) : Took l s (quadB (rQuad l s).1) (rQuad l s).2 := by
  have h2 := rLong_took hb (rLong_ok h) (show (rLong l (rLong l s).2).2.e = 0 from he)
  have h1 := rLong_took hb h h2.s0
  have n1 := rLong_in hb s
  have n2 := rLong_in hb (rLong l s).2
  have := h1.trans h2
  unfold rQuad
  simp only
  rw [if_pos (show (rLong l (rLong l s).2).2.e = 0 from he), quadB]
  rw [show ((rLong l s).1 * 4294967296 + (rLong l (rLong l s).2).1) / 4294967296 = (rLong l s).1 by omega, show ((rLong l s).1 * 4294967296 + (rLong l (rLong l s).2).1) % 4294967296 = (rLong l (rLong l s).2).1 by omega]
  exact this
theorem strB_strOfL {l : List Int} (hb : bytesL l) : strB (strOfL l) = l := by
  show (((l.map fun n => UInt8.ofNat n.toNat).toArray).toList.map fun b : UInt8 => (b.toNat : Int)) = l
  rw [List.map_map]
  induction l with
  | nil => rfl
  | cons x xs ih =>
    have hx := hb x List.mem_cons_self
    rw [List.map_cons, ih (fun y hy => hb y (List.mem_cons_of_mem _ hy))]
    congr 1
    show ((UInt8.ofNat x.toNat).toNat : Int) = x
    rw [UInt8.toNat_ofNat']; omega
theorem rText_took {l : List Int} (hb : bytesL l) {s : RS} (h : s.ok l) {m : Int} (he : (rText l s m).2.e = 0) : Took l s (textB (rText l s m).1) (rText l s m).2 ∧ ((rText l s m).1.size : Int) ≤ m ∧ (rText l s m).1.size ≤ 65535 := by
  have hq := rText_q h (m := m)
  have hn := rWithin_in hb s m
  have hok := rWithin_ok h m
  have ht := fun h' => rWithin_took hb h (m := m) h'
  have hle := rWithin_le (l := l) (s := s) (m := m)
  unfold rText at he ⊢
  generalize rWithin l s m = R at *
  obtain ⟨n, r⟩ := R
  simp only at *
  obtain ⟨n, rfl⟩ := Int.eq_ofNat_of_zero_le hn.1
  rw [Int.toNat_natCast] at *
  have hr0 : ∀ q, q = (if (txEnd n : Int) > rLeft l r then rFail r 3 else r) → q.e = 0 → q = r ∧ r.e = 0 := by
    rintro q rfl h0
    split at h0
    · exact absurd h0 (rFail_e (by decide))
    · rename_i h2
      rw [if_neg h2]; exact ⟨rfl, h0⟩
  generalize (if (txEnd n : Int) > rLeft l r then rFail r 3 else r) = q at *
  have hr := hr0 q rfl
  clear hr0
  have hte : txEnd n = n ∨ txEnd n = n + 1 := by unfold txEnd; omega
  split at he
  · rename_i hqe
    rw [if_pos hqe]
    obtain ⟨rfl, hre⟩ := hr hqe
    have hq2 := hq.2 hqe
    have ht := ht hre
    have hle := hle hre
    split at he
    · simp at he
    · rename_i hz
      rw [if_neg hz]
      simp only
      have hsz : (strOfL ((l.drop q.p).take n)).size = n := by rw [strOfL_size, List.length_take, List.length_drop]; omega
      refine ⟨⟨ht.s0, rfl, ?_, hq2⟩, by rw [hsz]; exact hle, by rw [hsz]; omega⟩
      rw [ht.at_]
      unfold textB
      rw [hsz, strB_strOfL (fun x hx => hb x (List.mem_of_mem_drop (List.mem_of_mem_take hx)))]
      rw [List.append_assoc, List.append_assoc]
      congr 1
      rcases hte with h4 | h4
      · rw [h4, if_neg (by unfold txEnd at h4; omega), List.nil_append, ← List.drop_drop, List.take_append_drop]
      · have hn1 : n % 2 = 1 := by unfold txEnd at h4; omega
        rw [if_pos hn1, h4]
        have h0 : l.getD (q.p + n) 0 = 0 := by
          have : ¬ l.getD (q.p + txEnd n - 1) 0 ≠ 0 := fun h => hz ⟨by omega, h⟩
          rw [h4, show q.p + (n + 1) - 1 = q.p + n by omega] at this
          omega
        have hlt : q.p + n < l.length := by omega
        have hd := List.drop_eq_getElem_cons hlt
        have hg : l.getD (q.p + n) 0 = l[q.p + n] := by rw [List.getD_eq_getElem?_getD, List.getElem?_eq_getElem hlt]; rfl
        rw [← hg, h0] at hd
        rw [show q.p + (n + 1) = q.p + n + 1 by omega]
        show _ = _ ++ (0 :: List.drop (q.p + n + 1) l)
        rw [← hd, ← List.drop_drop, List.take_append_drop]
  · rename_i hqe
    exact absurd he hqe
theorem seqT_took {l : List Int} {f : RS → VT × RS} {g : VT → List Int} {P : VT → Prop} (hf : ∀ s : RS, s.ok l → (f s).2.e = 0 → Took l s (g (f s).1) (f s).2 ∧ P (f s).1) (hk : ∀ s : RS, s.ok l → (f s).2.ok l) : ∀ (n : Nat) (o : List VT) (s : RS), s.ok l → (seqT f n o s).2.e = 0 →
    ∃ os, (seqT f n o s).1 = o ++ os ∧ os.length = n ∧ Took l s (os.flatMap g) (seqT f n o s).2 ∧ ∀ x ∈ os, P x
  | 0, o, s, h, he => ⟨[], by simp [seqT], rfl, .nil h he, fun x hx => by cases hx⟩
  | n + 1, o, s, h, he => by
    rw [seqT] at he ⊢
    by_cases hs : s.e = 0
    · rw [if_pos hs] at he ⊢
      obtain ⟨os, h1, h2, h3, h4⟩ := seqT_took hf hk n _ _ (hk s h) he
      obtain ⟨h5, h6⟩ := hf s h h3.s0
      refine ⟨(f s).1 :: os, by rw [h1, List.append_assoc]; rfl, by rw [List.length_cons, h2], by rw [List.flatMap_cons]; exact h5.trans h3, fun x hx => ?_⟩
      rcases List.mem_cons.1 hx with rfl | hx
      · exact h6
      · exact h4 x hx
    · rw [if_neg hs] at he
      exact absurd he hs
theorem recoT_took {l : List Int} {f : KT → RS → VT × RS} {g : KT → VT → List Int} {P : KT → VT → Prop} (hk : ∀ t (s : RS), s.ok l → (f t s).2.ok l) : ∀ (ts : List KT) (o : List VT) (s : RS), (∀ t ∈ ts, ∀ s : RS, s.ok l → (f t s).2.e = 0 → Took l s (g t (f t s).1) (f t s).2 ∧ P t (f t s).1) → s.ok l → (recoT f ts o s).2.e = 0 →
    ∃ os, (recoT f ts o s).1 = o ++ os ∧ os.length = ts.length ∧ Took l s ((List.range os.length).flatMap fun i => g (ts.getD i (.mk 0 0 [] [])) (os.getD i VT.zero)) (recoT f ts o s).2 ∧ ∀ (i : Nat) (t : KT) (x : VT), ts[i]? = some t → os[i]? = some x → P t x
  | [], o, s, _, h, he => ⟨[], by simp [recoT], rfl, .nil h he, fun i t x ht => by cases ht⟩
  | t :: ts, o, s, hf, h, he => by
    rw [recoT] at he ⊢
    obtain ⟨os, h1, h2, h3, h4⟩ := recoT_took (P := P) (g := g) hk ts _ _ (fun t ht => hf t (List.mem_cons_of_mem _ ht)) (hk t s h) he
    obtain ⟨h5, h6⟩ := hf t List.mem_cons_self s h h3.s0
    refine ⟨(f t s).1 :: os, by rw [h1, List.append_assoc]; rfl, by rw [List.length_cons, h2]; rfl, ?_, ?_⟩
    · rw [List.length_cons, List.range_succ_eq_map, List.flatMap_cons, List.flatMap_map]
      exact h5.trans h3
    · intro i t' x ht hx
      cases i with
      | zero =>
        cases ht; cases hx
        exact h6
      | succ i => exact h4 i t' x ht hx
theorem allZip_of {e : KT → VT → Bool} : ∀ {ts : List KT} {xs : List VT}, (∀ (i : Nat) (t : KT) (x : VT), ts[i]? = some t → xs[i]? = some x → e t x = true) → allZip e ts xs = true
  | [], _, _ => by simp [allZip]
  | _ :: _, [], _ => by simp [allZip]
  | t :: ts, x :: xs, h => by
    simp only [allZip, h 0 t x rfl rfl, Bool.true_and]
    exact allZip_of fun i t x ht hx => h (i + 1) t x ht hx
/-- What is taken is of the type, and the bytes are its own. -/
theorem takeM_took {l : List Int} (hb : bytesL l) (_hl : l.length < 2 ^ 40) {e : Nat} {T : KT} (hW : WO e T) : ∀ {s : RS}, s.ok l → (takeM l e T s).2.e = 0 → Took l s (putR e T (takeM l e T s).1) (takeM l e T s).2 ∧ VT.is e T (takeM l e T s).1 = true ∧ (takeM l e T s).1.fit := by
  have f0 : fbits 0 = 0 := rfl
  have fitN : ∀ {n : Int}, 0 ≤ n ∧ n ≤ 65535 → (VT.num n).fit := fun h => fit_num (by omega)
  have noz : ∀ n o, noFT (.mk n 0 (bs []) o) = true := fun n o => by simp [noFT, f0, VT.pj]
  have hs0 : ∀ {e : Nat} {T : KT} {s : RS}, (takeM l (e + 1) T s).2.e = 0 → s.e = 0 := by
    intro e T s h
    by_cases he : s.e = 0
    · exact he
    · rw [takeM, if_pos he] at h; exact h
  induction hW with
  | odd e k m hk hm =>
    intro s h he
    have h0 := hs0 he
    obtain ⟨p, q⟩ := s
    simp only at h0
    subst h0
    have : k = 0 ∨ k = 1 ∨ k = 2 ∨ k = 3 ∨ k = 4 ∨ k = 5 ∨ k = 6 ∨ k = 7 ∨ k = 8 ∨ 9 ≤ k := by omega
    rcases this with rfl | rfl | rfl | rfl | rfl | rfl | rfl | rfl | rfl | hk9
    · rw [show takeM l (e + 1) (.mk 0 m [] []) ⟨p, 0⟩ = (VT.num (rWithin l ⟨p, 0⟩ 1).1, (rWithin l ⟨p, 0⟩ 1).2) from rfl] at he ⊢
      have hn := rWithin_in hb ⟨p, 0⟩ 1
      have hle := rWithin_le he
      refine ⟨?_, ?_, fitN hn⟩
      · rw [put0 _ _ _ _ _ (by decide) rfl]
        exact rWithin_took hb h he
      · rw [is0]
        simp only [pvq]
        exact ⟨⟨⟨noz _ _, rfl⟩, hn.1⟩, hle⟩
    · rw [show takeM l (e + 1) (.mk 1 m [] []) ⟨p, 0⟩ = (VT.num (rWord l ⟨p, 0⟩).1, (rWord l ⟨p, 0⟩).2) from rfl] at he ⊢
      have hn := rWord_in hb ⟨p, 0⟩
      refine ⟨?_, ?_, fitN hn⟩
      · rw [put0 _ _ _ _ _ (by decide) rfl]
        exact rWord_took hb h he
      · rw [is1]
        simp only [pvq]
        exact ⟨⟨⟨noz _ _, rfl⟩, hn.1⟩, hn.2⟩
    · rw [show takeM l (e + 1) (.mk 2 m [] []) ⟨p, 0⟩ = (VT.num (IntKind.i64.wrap (IntKind.i32.wrap (rLong l ⟨p, 0⟩).1)), (rLong l ⟨p, 0⟩).2) from rfl] at he ⊢
      have hn := rLong_in hb ⟨p, 0⟩
      have ht := rLong_took hb h he
      generalize rLong l ⟨p, 0⟩ = R at *
      obtain ⟨n, r⟩ := R
      simp only at *
      have e1 : IntKind.i64.wrap (IntKind.i32.wrap n) = if n ≥ 2147483648 then n - 4294967296 else n := by
        rw [IntKind.wrap_i32, IntKind.wrap_i64]; split <;> omega
      have e2 : -2147483648 ≤ IntKind.i64.wrap (IntKind.i32.wrap n) ∧ IntKind.i64.wrap (IntKind.i32.wrap n) < 2147483648 ∧ IntKind.i64.wrap (IntKind.i32.wrap n) % 4294967296 = n := by
        rw [e1]; split <;> omega
      generalize IntKind.i64.wrap (IntKind.i32.wrap n) = z at *
      refine ⟨?_, ?_, fit_num (by omega)⟩
      · rw [show putR (e + 1) (.mk 2 m [] []) (VT.num z) = longB (z % 4294967296) from rfl, e2.2.2]
        exact ht
      · rw [is2]
        simp only [pvq]
        exact ⟨⟨⟨noz _ _, rfl⟩, e2.1⟩, e2.2.1⟩
    · rw [show takeM l (e + 1) (.mk 3 m [] []) ⟨p, 0⟩ = (.mk 0 (rQuad l ⟨p, 0⟩).1.toNat (bs []) [], if fbits (rQuad l ⟨p, 0⟩).1.toNat = (rQuad l ⟨p, 0⟩).1 then (rQuad l ⟨p, 0⟩).2 else rFail (rQuad l ⟨p, 0⟩).2 4) from rfl] at he ⊢
      have hn := rQuad_in hb ⟨p, 0⟩
      have ht := rQuad_took hb h
      generalize rQuad l ⟨p, 0⟩ = R at *
      obtain ⟨n, r⟩ := R
      simp only at *
      by_cases hf : fbits n.toNat = n
      · rw [if_pos hf] at he ⊢
        refine ⟨?_, ?_, .mk (by decide) (by omega) (by decide) (by decide) fun x hx => by cases hx⟩
        · rw [show putR (e + 1) (.mk 3 m [] []) (.mk 0 n.toNat (bs []) []) = quadB (fbits n.toNat) from rfl, hf]
          exact ht he
        · rw [is3]; simp [VT.pj]
      · rw [if_neg hf] at he
        exact absurd he (rFail_e (by decide))
    · rw [show takeM l (e + 1) (.mk 4 m [] []) ⟨p, 0⟩ = (.mk 0 0 (rText l ⟨p, 0⟩ m).1 [], (rText l ⟨p, 0⟩ m).2) from rfl] at he ⊢
      obtain ⟨h1, h2, h3⟩ := rText_took hb h he
      refine ⟨h1, ?_, .mk (by decide) (by decide) (by omega) (by decide) fun x hx => by cases hx⟩
      rw [is4]
      simp only [pvq]
      exact ⟨⟨⟨rfl, f0⟩, rfl⟩, h2⟩
    · rw [show takeM l (e + 1) (.mk 5 m [] []) ⟨p, 0⟩ = ((.mk 0 0 (bs []) (seqT (takeM l e (.mk 0 0 [] [])) (rWithin l ⟨p, 0⟩ m).1.toNat [] (rFail (rWithin l ⟨p, 0⟩ m).2 5)).1), (seqT (takeM l e (.mk 0 0 [] [])) (rWithin l ⟨p, 0⟩ m).1.toNat [] (rFail (rWithin l ⟨p, 0⟩ m).2 5)).2) from rfl, seqT_err (rFail_e (by decide))] at he
      exact absurd he (rFail_e (by decide))
    · rw [show takeM l (e + 1) (.mk 6 m [] []) ⟨p, 0⟩ = (.mk 0 0 (bs []) [], ⟨p, 0⟩) from rfl]
      refine ⟨.nil h rfl, ?_, .mk (by decide) (by decide) (by decide) (by decide) fun x hx => by cases hx⟩
      rw [is6]; simp only [pvq]
      exact ⟨⟨noz _ _, rfl, rfl⟩, rfl⟩
    · rw [show takeM l (e + 1) (.mk 7 m [] []) ⟨p, 0⟩ = (VT.num (rWithin l ⟨p, 0⟩ (0 - 1)).1, (rWithin l ⟨p, 0⟩ (0 - 1)).2) from rfl] at he
      have h1 := rWithin_le he
      have h2 := rWithin_in hb ⟨p, 0⟩ (0 - 1)
      omega
    · rw [show takeM l (e + 1) (.mk 8 m [] []) ⟨p, 0⟩ = (if (rWithin l ⟨p, 0⟩ (0 - 1)).2.e = 0 then (.mk (rWithin l ⟨p, 0⟩ (0 - 1)).1 0 (bs []) [(takeM l e (.mk 0 0 [] []) (rWithin l ⟨p, 0⟩ (0 - 1)).2).1], (takeM l e (.mk 0 0 [] []) (rWithin l ⟨p, 0⟩ (0 - 1)).2).2) else (VT.zero, (rWithin l ⟨p, 0⟩ (0 - 1)).2)) from rfl] at he
      by_cases h3 : (rWithin l ⟨p, 0⟩ (0 - 1)).2.e = 0
      · have h1 := rWithin_le h3
        have h2 := rWithin_in hb ⟨p, 0⟩ (0 - 1)
        omega
      · rw [if_neg h3] at he
        exact absurd he h3
    · exfalso
      have h0 : ∀ {j : Int}, j < 9 → ¬ (KT.mk k m [] []).kind = j := fun h e => by
        have : k = _ := e
        omega
      rw [takeM, if_neg (fun h : ¬ (0 : Int) = 0 => h rfl), if_neg (h0 (by decide)), if_neg (h0 (by decide)), if_neg (h0 (by decide)), if_neg (h0 (by decide)), if_neg (h0 (by decide)), if_neg (h0 (by decide)), if_neg (h0 (by decide)), if_neg (h0 (by decide)), if_neg (h0 (by decide))] at he
      exact absurd he (rFail_e (by decide))
  | enum e n hl =>
    intro s h he
    have h0 := hs0 he
    obtain ⟨p, q⟩ := s
    simp only at h0
    subst h0
    rw [show takeM l (e + 1) (.mk 7 0 n []) ⟨p, 0⟩ = (VT.num (rWithin l ⟨p, 0⟩ (n.length - 1)).1, (rWithin l ⟨p, 0⟩ (n.length - 1)).2) from rfl] at he ⊢
    have hn := rWithin_in hb ⟨p, 0⟩ (n.length - 1)
    have hle := rWithin_le he
    refine ⟨?_, ?_, fitN hn⟩
    · rw [put0 _ _ _ _ _ (by decide) rfl]
      exact rWithin_took hb h he
    · rw [is7]
      simp only [pvq]
      refine ⟨⟨⟨noz _ _, rfl⟩, hn.1⟩, ?_⟩
      show (rWithin l ⟨p, 0⟩ (n.length - 1)).1 < _
      omega
  | seq e m o hm ho ih =>
    intro s h he
    have h0 := hs0 he
    obtain ⟨p, q⟩ := s
    simp only at h0
    subst h0
    rw [show takeM l (e + 1) (.mk 5 m [] [o]) ⟨p, 0⟩ = (.mk 0 0 (bs []) (seqT (takeM l e o) (rWithin l ⟨p, 0⟩ m).1.toNat [] (rWithin l ⟨p, 0⟩ m).2).1, (seqT (takeM l e o) (rWithin l ⟨p, 0⟩ m).1.toNat [] (rWithin l ⟨p, 0⟩ m).2).2) from rfl] at he ⊢
    have hn := rWithin_in hb ⟨p, 0⟩ m
    obtain ⟨os, h1, h2, h3, h4⟩ := seqT_took (g := putR e o) (P := fun x => VT.is e o x = true ∧ x.fit) (fun s h he => ih h he) (fun s h => takeM_ok e o s h) _ [] _ (rWithin_ok h m) he
    have ht := rWithin_took hb h h3.s0
    have hle := rWithin_le h3.s0
    rw [List.nil_append] at h1
    rw [h1]
    have hsz : (os.length : Int) = (rWithin l ⟨p, 0⟩ m).1 := by rw [h2]; exact Int.toNat_of_nonneg hn.1
    refine ⟨?_, ?_, .mk (by decide) (by decide) (by decide) (by omega) fun x hx => (h4 x hx).2⟩
    · rw [put5]
      simp only [VT.pj]
      rw [flat_all, hsz]
      exact ht.trans h3
    · rw [is5]
      simp only [pvq, VT.pj]
      exact ⟨⟨noz _ _, ⟨trivial, by omega⟩, rfl⟩, List.all_eq_true.2 fun x hx => (h4 x hx).1⟩
  | reco e k n o hk hlo ho ih =>
    intro s h he
    have h0 := hs0 he
    obtain ⟨p, q⟩ := s
    simp only at h0
    subst h0
    rcases hk with rfl | rfl
    · rw [show takeM l (e + 1) (.mk 6 0 n o) ⟨p, 0⟩ = (.mk 0 0 (bs []) (recoT (takeM l e) o [] ⟨p, 0⟩).1, (recoT (takeM l e) o [] ⟨p, 0⟩).2) from rfl] at he ⊢
      obtain ⟨os, h1, h2, h3, h4⟩ := recoT_took (g := putR e) (P := fun t x => VT.is e t x = true ∧ x.fit) (fun t s h => takeM_ok e t s h) o [] _ (fun t ht s h he => ih t ht h he) h he
      rw [List.nil_append] at h1
      rw [h1]
      refine ⟨?_, ?_, .mk (by decide) (by decide) (by decide) (by omega) fun x hx => ?_⟩
      · rw [put6, List.nil_append]; exact h3
      · rw [is6]
        simp only [pvq, VT.pj]
        exact ⟨⟨noz _ _, trivial, by simpa using h2⟩, allZip_of fun i t x ht hx => (h4 i t x ht hx).1⟩
      · obtain ⟨i, hi⟩ := List.getElem?_of_mem hx
        have hlt := (List.getElem?_eq_some_iff.1 hi).1
        exact (h4 i _ x (List.getElem?_eq_getElem (by omega)) hi).2
    · rw [show takeM l (e + 1) (.mk 8 0 n o) ⟨p, 0⟩ = (if (rWithin l ⟨p, 0⟩ (o.length - 1)).2.e = 0 then (.mk (rWithin l ⟨p, 0⟩ (o.length - 1)).1 0 (bs []) [(takeM l e (o.getD (rWithin l ⟨p, 0⟩ (o.length - 1)).1.toNat (.mk 0 0 [] [])) (rWithin l ⟨p, 0⟩ (o.length - 1)).2).1], (takeM l e (o.getD (rWithin l ⟨p, 0⟩ (o.length - 1)).1.toNat (.mk 0 0 [] [])) (rWithin l ⟨p, 0⟩ (o.length - 1)).2).2) else (VT.zero, (rWithin l ⟨p, 0⟩ (o.length - 1)).2)) from rfl] at he ⊢
      have hok := rWithin_ok h (o.length - 1)
      have hn := rWithin_in hb ⟨p, 0⟩ (o.length - 1)
      have hle := rWithin_le (l := l) (s := ⟨p, 0⟩) (m := o.length - 1)
      have ht := fun he => rWithin_took hb h (m := o.length - 1) he
      generalize rWithin l ⟨p, 0⟩ (o.length - 1) = R at *
      obtain ⟨n', r⟩ := R
      simp only at *
      obtain ⟨n', rfl⟩ := Int.eq_ofNat_of_zero_le hn.1
      rw [Int.toNat_natCast] at *
      by_cases hre : r.e = 0
      · rw [if_pos hre] at he ⊢
        have hlt : n' < o.length := by have := hle hre; omega
        have e3 : o.getD n' (.mk 0 0 [] []) = o[n'] := by rw [List.getD_eq_getElem?_getD, List.getElem?_eq_getElem hlt]; rfl
        rw [e3] at he ⊢
        obtain ⟨h1, h2, h3⟩ := ih _ (List.getElem_mem hlt) hok he
        refine ⟨?_, ?_, .mk (by omega) (by decide) (by decide) (by simp) fun x hx => ?_⟩
        · rw [put8]
          simp only [VT.pj, List.length_cons, List.length_nil, Nat.zero_add, List.range_succ, List.range_zero, List.nil_append, List.flatMap_cons, List.flatMap_nil, List.append_nil, Int.toNat_natCast, e3]
          exact (ht hre).trans h1
        · rw [is8]
          simp only [pvq, VT.pj]
          refine ⟨⟨noz _ _, ⟨by omega, by omega⟩, rfl⟩, ?_⟩
          rw [Int.toNat_natCast, e3]
          exact h2
        · rw [List.mem_singleton.1 hx]; exact h3
      · rw [if_neg hre] at he
        exact absurd he hre
end Go.Pv
