/- Functions of the program, by value. No condition. -/
import Derived.Test.YtidelhpljjjjmaaW6
namespace Go.Pv

theorem drop_get {l : List Int} {p : Nat} {x : Int} {r : List Int} (h : l.drop p = x :: r) : l.getD p 0 = x ∧ l.drop (p + 1) = r ∧ p + 1 ≤ l.length := by
  have h1 : (l.drop p).length = r.length + 1 := by rw [h]; rfl
  rw [List.length_drop] at h1
  have hp : p < l.length := by omega
  have h2 := List.drop_eq_getElem_cons hp
  rw [h] at h2
  obtain ⟨h3, h4⟩ := List.cons.inj h2
  exact ⟨by rw [List.getD_eq_getElem?_getD, List.getElem?_eq_getElem hp]; exact h3.symm, h4.symm, by omega⟩
theorem drop_app {l x r : List Int} {p : Nat} (hp : p ≤ l.length) (h : l.drop p = x ++ r) : l.drop (p + x.length) = r ∧ p + x.length ≤ l.length := by
  have h1 : (l.drop p).length = x.length + r.length := by rw [h, List.length_append]
  rw [List.length_drop] at h1
  exact ⟨by rw [← List.drop_drop, h, List.drop_left], by omega⟩
/-- What was put is read back. -/
theorem rWord_at {l : List Int} {p : Nat} {n : Int} {r : List Int} (h : l.drop p = wordB n ++ r) (hn : 0 ≤ n ∧ n ≤ 65535) : rWord l ⟨p, 0⟩ = (n, ⟨p + 2, 0⟩) := by
  obtain ⟨h1, h2, _⟩ := drop_get (show l.drop p = _ :: ([n % 256] ++ r) from h)
  obtain ⟨h3, h4, h5⟩ := drop_get (show l.drop (p + 1) = _ :: r from h2)
  have hl : ¬ rLeft l ⟨p, 0⟩ < 2 := by unfold rLeft; rw [if_pos rfl]; simp only; omega
  rw [rWord, if_neg hl]
  simp only [h1, h3]
  rw [show n / 256 % 256 * 256 + n % 256 = n by omega]
theorem rWithin_at {l : List Int} {p : Nat} {n m : Int} {r : List Int} (h : l.drop p = wordB n ++ r) (hn : 0 ≤ n ∧ n ≤ 65535) (hm : n ≤ m) : rWithin l ⟨p, 0⟩ m = (n, ⟨p + 2, 0⟩) := by
  rw [rWithin, rWord_at h hn, if_neg (by simp only; omega)]
theorem rLong_at {l : List Int} {p : Nat} {n : Int} {r : List Int} (hp : p ≤ l.length) (h : l.drop p = longB n ++ r) (hn : 0 ≤ n ∧ n ≤ 4294967295) : rLong l ⟨p, 0⟩ = (n, ⟨p + 4, 0⟩) := by
  rw [longB, List.append_assoc] at h
  have h1 := rWord_at h (by omega)
  obtain ⟨h2, _⟩ := drop_app hp h
  have h3 := rWord_at h2 (by omega)
  rw [rLong, h1]
  simp only
  rw [show p + (wordB (n / 65536)).length = p + 2 from rfl] at h3
  rw [h3]
  simp only [if_true]
  rw [show n / 65536 * 65536 + n % 65536 = n by omega]
theorem rQuad_at {l : List Int} {p : Nat} {n : Int} {r : List Int} (hp : p ≤ l.length) (h : l.drop p = quadB n ++ r) (hn : 0 ≤ n ∧ n ≤ 18446744073709551615) : rQuad l ⟨p, 0⟩ = (n, ⟨p + 8, 0⟩) := by
  rw [quadB, List.append_assoc] at h
  have h1 := rLong_at hp h (by omega)
  obtain ⟨h2, h4⟩ := drop_app hp h
  have h3 := rLong_at h4 h2 (by omega)
  rw [rQuad, h1]
  simp only
  rw [show p + (longB (n / 4294967296)).length = p + 4 from rfl] at h3
  rw [h3]
  simp only [if_true]
  rw [show n / 4294967296 * 4294967296 + n % 4294967296 = n by omega]
theorem strOfL_strB (s : ByteArray) : strOfL (strB s) = s := by
  apply ByteArray.ext
  show ((strB s).map fun n => UInt8.ofNat n.toNat).toArray = s.data
  rw [strB, List.map_map]
  have : ((fun n : Int => UInt8.ofNat n.toNat) ∘ fun b : UInt8 => (b.toNat : Int)) = id := by
    funext b
    simp
  rw [this, List.map_id, Array.toArray_toList]
theorem rText_at {l : List Int} {p : Nat} {s : ByteArray} {m : Int} {r : List Int} (hp : p ≤ l.length) (h : l.drop p = textB s ++ r) (hs : s.size ≤ 65535) (hm : (s.size : Int) ≤ m) : rText l ⟨p, 0⟩ m = (s, ⟨p + (textB s).length, 0⟩) := by
  have hlen : (textB s).length = 2 + txEnd s.size := by
    unfold textB txEnd
    rw [List.length_append, List.length_append, strB_len, wordB_len]
    split <;> simp <;> omega
  obtain ⟨_, hend⟩ := drop_app hp h
  unfold textB at h
  rw [List.append_assoc, List.append_assoc] at h
  have h1 := rWithin_at h (by omega) hm
  obtain ⟨h2, h3⟩ := drop_app hp h
  rw [wordB_len] at h2 h3
  obtain ⟨h4, h5⟩ := drop_app h3 h2
  rw [strB_len] at h4 h5
  unfold rText
  rw [h1]
  simp only [Int.toNat_natCast]
  have hl : ¬ (txEnd s.size : Int) > rLeft l ⟨p + 2, 0⟩ := by unfold rLeft; rw [if_pos rfl]; simp only; omega
  rw [if_neg hl, if_pos rfl]
  have hz : ¬ (s.size < txEnd s.size ∧ l.getD (p + 2 + txEnd s.size - 1) 0 ≠ 0) := by
    rintro ⟨g1, g2⟩
    have ho : s.size % 2 = 1 := by unfold txEnd at g1; omega
    rw [if_pos ho] at h4
    obtain ⟨g3, _, _⟩ := drop_get (show l.drop (p + 2 + s.size) = 0 :: r from h4)
    rw [show p + 2 + txEnd s.size - 1 = p + 2 + s.size by unfold txEnd; omega] at g2
    exact g2 g3
  rw [if_neg hz]
  simp only
  rw [h2, ← strB_len s, List.take_left, strOfL_strB, hlen, strB_len, Nat.add_assoc]
theorem seqT_at {l : List Int} {f : RS → VT × RS} {g : VT → List Int} : ∀ (vs : List VT) (o : List VT) (p : Nat) (r : List Int), (∀ x ∈ vs, ∀ p r, p ≤ l.length → l.drop p = g x ++ r → ∃ y, f ⟨p, 0⟩ = (y, ⟨p + (g x).length, 0⟩) ∧ VT.same x y = true) → p ≤ l.length → l.drop p = vs.flatMap g ++ r →
    ∃ os, seqT f vs.length o ⟨p, 0⟩ = (o ++ os, ⟨p + (vs.flatMap g).length, 0⟩) ∧ eqAll VT.same vs os = true
  | [], o, p, r, _, _, _ => ⟨[], by simp [seqT], rfl⟩
  | x :: vs, o, p, r, hf, hp, h => by
    rw [List.flatMap_cons, List.append_assoc] at h
    obtain ⟨y, h1, h2⟩ := hf x List.mem_cons_self p _ hp h
    obtain ⟨h3, h4⟩ := drop_app hp h
    obtain ⟨os, h5, h6⟩ := seqT_at vs (o ++ [y]) _ r (fun x hx => hf x (List.mem_cons_of_mem _ hx)) h4 h3
    refine ⟨y :: os, ?_, by simp only [eqAll, h2, h6, Bool.and_self]⟩
    rw [List.length_cons, seqT, if_pos rfl, h1]
    simp only
    rw [h5, List.append_assoc, List.flatMap_cons, List.length_append, Nat.add_assoc]; rfl
theorem recoT_at {l : List Int} {f : KT → RS → VT × RS} {g : KT → VT → List Int} : ∀ (ts : List KT) (vs : List VT) (o : List VT) (p : Nat) (r : List Int), vs.length = ts.length → (∀ (i : Nat) (t : KT) (x : VT), ts[i]? = some t → vs[i]? = some x → ∀ p r, p ≤ l.length → l.drop p = g t x ++ r → ∃ y, f t ⟨p, 0⟩ = (y, ⟨p + (g t x).length, 0⟩) ∧ VT.same x y = true) → p ≤ l.length → l.drop p = (List.range vs.length).flatMap (fun i => g (ts.getD i (.mk 0 0 [] [])) (vs.getD i VT.zero)) ++ r →
    ∃ os, recoT f ts o ⟨p, 0⟩ = (o ++ os, ⟨p + ((List.range vs.length).flatMap (fun i => g (ts.getD i (.mk 0 0 [] [])) (vs.getD i VT.zero))).length, 0⟩) ∧ eqAll VT.same vs os = true
  | [], [], o, p, r, _, _, _, _ => ⟨[], by simp [recoT], rfl⟩
  | [], _ :: _, _, _, _, hl, _, _, _ => by cases hl
  | _ :: _, [], _, _, _, hl, _, _, _ => by cases hl
  | t :: ts, x :: vs, o, p, r, hl, hf, hp, h => by
    have e1 : (List.range (x :: vs).length).flatMap (fun i => g ((t :: ts).getD i (.mk 0 0 [] [])) ((x :: vs).getD i VT.zero)) = g t x ++ (List.range vs.length).flatMap (fun i => g (ts.getD i (.mk 0 0 [] [])) (vs.getD i VT.zero)) := by
      rw [List.length_cons, List.range_succ_eq_map, List.flatMap_cons, List.flatMap_map]; rfl
    rw [e1] at h ⊢
    rw [List.append_assoc] at h
    obtain ⟨y, h1, h2⟩ := hf 0 t x rfl rfl p _ hp h
    obtain ⟨h3, h4⟩ := drop_app hp h
    obtain ⟨os, h5, h6⟩ := recoT_at ts vs (o ++ [y]) _ r (by simpa using hl) (fun i t x ht hx => hf (i + 1) t x ht hx) h4 h3
    refine ⟨y :: os, ?_, by simp only [eqAll, h2, h6, Bool.and_self]⟩
    rw [recoT, h1]
    simp only
    rw [h5, List.append_assoc, List.length_append, Nat.add_assoc]; rfl
theorem flat_all {g : VT → List Int} : ∀ vs : List VT, (List.range vs.length).flatMap (fun i => g (vs.getD i VT.zero)) = vs.flatMap g
  | [] => rfl
  | x :: vs => by
    rw [List.length_cons, List.range_succ_eq_map, List.flatMap_cons, List.flatMap_map, List.flatMap_cons, ← flat_all vs]; rfl
theorem fbits_fbits (f : Nat) : fbits (fbits f).toNat = fbits f := by
  by_cases h : (FloatKind.f64.format.order f f != some Ordering.eq) = true
  · have : fbits f = 9221120237041090560 := by rw [fbits, if_pos h]
    rw [this]; rfl
  · have : fbits f = f := by rw [fbits, if_neg h]
    rw [this, Int.toNat_natCast, this]
theorem same_mk {v : VT} {n : Int} {f : Nat} {s : ByteArray} {o : List VT} (h1 : v.n = n) (h2 : fbits v.f = fbits f) (h3 : v.s.toList = s.toList) (h4 : eqAll VT.same v.of o = true) : VT.same v (.mk n f s o) = true := by
  rw [VT.same_eq]; simp only [VT.pj, h1, h2, h3, h4, beq_self_eq_true, Bool.and_self]
theorem eqAll_nil {v : VT} (h : v.of.length = 0) : eqAll VT.same v.of [] = true := by
  rw [List.length_eq_zero_iff.1 h]; rfl
/-- A value's bytes are read back. -/
theorem takeM_at {l : List Int} {e : Nat} {T : KT} (hW : WT e T) : ∀ {v : VT}, v.fit → VT.is e T v = true → ∀ (p : Nat) (r : List Int), p ≤ l.length → l.drop p = putR e T v ++ r → ∃ y, takeM l e T ⟨p, 0⟩ = (y, ⟨p + (putR e T v).length, 0⟩) ∧ VT.same v y = true := by
  have f0 : fbits 0 = 0 := rfl
  induction hW with
  | base e k hk =>
    intro v hv iv p r hp h
    have : k = 0 ∨ k = 1 ∨ k = 2 ∨ k = 3 := by omega
    rcases this with rfl | rfl | rfl | rfl
    · rw [is0] at iv
      simp only [pvq] at iv
      rw [put0 _ _ _ _ _ (by decide) (by omega)] at h ⊢
      obtain ⟨a1, a2⟩ := noFT_of iv.1.1.1
      refine ⟨VT.num v.n, ?_, same_mk rfl (a1.trans f0.symm) a2 (eqAll_nil (by omega))⟩
      show (VT.num (rWithin l ⟨p, 0⟩ 1).1, (rWithin l ⟨p, 0⟩ 1).2) = _
      rw [rWithin_at h (by omega) (by omega)]; rfl
    · rw [is1] at iv
      simp only [pvq] at iv
      rw [put0 _ _ _ _ _ (by decide) (by omega)] at h ⊢
      obtain ⟨a1, a2⟩ := noFT_of iv.1.1.1
      refine ⟨VT.num v.n, ?_, same_mk rfl (a1.trans f0.symm) a2 (eqAll_nil (by omega))⟩
      show (VT.num (rWord l ⟨p, 0⟩).1, (rWord l ⟨p, 0⟩).2) = _
      rw [rWord_at h (by omega)]; rfl
    · rw [is2] at iv
      simp only [pvq] at iv
      rw [show putR (e + 1) (.mk 2 0 [] []) v = longB (v.n % 4294967296) from rfl] at h ⊢
      obtain ⟨a1, a2⟩ := noFT_of iv.1.1.1
      refine ⟨VT.num v.n, ?_, same_mk rfl (a1.trans f0.symm) a2 (eqAll_nil (by omega))⟩
      show (VT.num (IntKind.i64.wrap (IntKind.i32.wrap (rLong l ⟨p, 0⟩).1)), (rLong l ⟨p, 0⟩).2) = _
      rw [rLong_at hp h (by omega)]
      simp only
      rw [show IntKind.i64.wrap (IntKind.i32.wrap (v.n % 4294967296)) = v.n by rw [IntKind.wrap_i32, IntKind.wrap_i64]; omega]; rfl
    · rw [is3] at iv
      simp only [Bool.and_eq_true, beq_iff_eq] at iv
      rw [show putR (e + 1) (.mk 3 0 [] []) v = quadB (fbits v.f) from rfl] at h ⊢
      have hin := fbits_in _ hv.flt
      refine ⟨.mk 0 (fbits v.f).toNat (bs []) [], ?_, same_mk iv.1.1 (fbits_fbits v.f).symm iv.1.2 (eqAll_nil (by omega))⟩
      show (VT.mk 0 (rQuad l ⟨p, 0⟩).1.toNat (bs []) [], if fbits (rQuad l ⟨p, 0⟩).1.toNat = (rQuad l ⟨p, 0⟩).1 then (rQuad l ⟨p, 0⟩).2 else rFail (rQuad l ⟨p, 0⟩).2 4) = _
      rw [rQuad_at hp h hin]
      simp only
      rw [if_pos (fbits_fbits v.f)]; rfl
  | text e m hm =>
    intro v hv iv p r hp h
    rw [is4] at iv
    simp only [pvq] at iv
    rw [show putR (e + 1) (.mk 4 m [] []) v = textB v.s from rfl] at h ⊢
    refine ⟨.mk 0 0 v.s [], ?_, same_mk iv.1.1.1 (iv.1.1.2.trans f0.symm) rfl (eqAll_nil (by omega))⟩
    show (VT.mk 0 0 (rText l ⟨p, 0⟩ m).1 [], (rText l ⟨p, 0⟩ m).2) = _
    rw [rText_at hp h (by omega) (by omega)]
  | enum e n hl hf =>
    intro v hv iv p r hp h
    rw [is7] at iv
    simp only [pvq] at iv
    rw [put0 _ _ _ _ _ (by decide) (by omega)] at h ⊢
    obtain ⟨a1, a2⟩ := noFT_of iv.1.1.1
    refine ⟨VT.num v.n, ?_, same_mk rfl (a1.trans f0.symm) a2 (eqAll_nil (by omega))⟩
    show (VT.num (rWithin l ⟨p, 0⟩ (n.length - 1)).1, (rWithin l ⟨p, 0⟩ (n.length - 1)).2) = _
    rw [rWithin_at h (by omega) (by omega)]; rfl
  | seq e m o hm ho ih =>
    intro v hv iv p r hp h
    rw [is5] at iv
    simp only [pvq] at iv
    obtain ⟨a1, a2⟩ := noFT_of iv.1.1
    rw [put5] at h ⊢
    rw [List.append_assoc, flat_all] at h
    rw [flat_all]
    have h1 := rWithin_at (m := m) h (by omega) (by omega)
    obtain ⟨h2, h3⟩ := drop_app hp h
    rw [wordB_len] at h2 h3
    obtain ⟨os, h4, h5⟩ := seqT_at (f := takeM l e o) (g := putR e o) v.of [] (p + 2) r (fun x hx p r hp h => ih (hv.part hx) (List.all_eq_true.1 iv.2 _ hx) p r hp h) h3 h2
    refine ⟨.mk 0 0 (bs []) os, ?_, same_mk iv.1.2.1.1 (a1.trans f0.symm) a2 h5⟩
    show (VT.mk 0 0 (bs []) (seqT (takeM l e o) (rWithin l ⟨p, 0⟩ m).1.toNat [] (rWithin l ⟨p, 0⟩ m).2).1, (seqT (takeM l e o) (rWithin l ⟨p, 0⟩ m).1.toNat [] (rWithin l ⟨p, 0⟩ m).2).2) = _
    rw [h1]
    simp only [Int.toNat_natCast]
    rw [h4, List.length_append, wordB_len, Nat.add_assoc]; rfl
  | reco e k n o hk hl hn hf ho ih =>
    intro v hv iv p r hp h
    rcases hk with rfl | rfl
    · rw [is6] at iv
      simp only [pvq] at iv
      obtain ⟨a1, a2⟩ := noFT_of iv.1.1
      rw [put6, List.nil_append] at h ⊢
      have hlen : v.of.length = o.length := by simpa using iv.1.2.2
      obtain ⟨os, h4, h5⟩ := recoT_at (f := takeM l e) (g := putR e) o v.of [] p r hlen (fun i t x ht hx p r hp h => ih t (List.mem_of_getElem? ht) (hv.part (List.mem_of_getElem? hx)) (allZip_get iv.2 i t x ht hx) p r hp h) hp h
      refine ⟨.mk 0 0 (bs []) os, ?_, same_mk iv.1.2.1 (a1.trans f0.symm) a2 h5⟩
      show (VT.mk 0 0 (bs []) (recoT (takeM l e) o [] ⟨p, 0⟩).1, (recoT (takeM l e) o [] ⟨p, 0⟩).2) = _
      rw [h4]; rfl
    · rw [is8] at iv
      simp only [pvq] at iv
      obtain ⟨a1, a2⟩ := noFT_of iv.1.1
      have hvl : v.of.length = 1 := by simpa using iv.1.2.2
      obtain ⟨x, hx⟩ : ∃ x, v.of = [x] := List.length_eq_one_iff.1 hvl
      rw [put8, List.append_assoc, hvl] at h
      rw [put8, hvl]
      have e1 : v.of.getD 0 VT.zero = x := by rw [hx]; rfl
      have hj : v.n.toNat < o.length := by omega
      have e3 : o.getD v.n.toNat (.mk 0 0 [] []) = o[v.n.toNat] := by rw [List.getD_eq_getElem?_getD, List.getElem?_eq_getElem hj]; rfl
      rw [e1, e3] at iv
      have h1 := rWithin_at (m := o.length - 1) h (by omega) (by omega)
      obtain ⟨h2, h3⟩ := drop_app hp h
      rw [wordB_len] at h2 h3
      simp only [List.range_succ, List.range_zero, List.nil_append, List.flatMap_cons, List.flatMap_nil, List.append_nil, e1, e3] at h2 ⊢
      obtain ⟨y, h4, h5⟩ := ih _ (List.getElem_mem hj) (hv.part (show x ∈ v.of by rw [hx]; exact List.mem_cons_self)) iv.2 (p + 2) r h3 h2
      refine ⟨.mk v.n 0 (bs []) [y], ?_, same_mk rfl (a1.trans f0.symm) a2 (by rw [hx]; simp only [eqAll, h5, Bool.and_self])⟩
      show (if (rWithin l ⟨p, 0⟩ (o.length - 1)).2.e = 0 then (VT.mk (rWithin l ⟨p, 0⟩ (o.length - 1)).1 0 (bs []) [(takeM l e (o.getD (rWithin l ⟨p, 0⟩ (o.length - 1)).1.toNat (.mk 0 0 [] [])) (rWithin l ⟨p, 0⟩ (o.length - 1)).2).1], (takeM l e (o.getD (rWithin l ⟨p, 0⟩ (o.length - 1)).1.toNat (.mk 0 0 [] [])) (rWithin l ⟨p, 0⟩ (o.length - 1)).2).2) else (VT.zero, (rWithin l ⟨p, 0⟩ (o.length - 1)).2)) = _
      rw [h1]
      simp only [if_true]
      rw [e3, h4, List.length_append, wordB_len, Nat.add_assoc]
end Go.Pv
