/- A reader of bytes, and what it takes. No condition. -/
import Derived.Test.YtidelhpljjjjmaaE1
import Derived.Test.YtidelhpljjjjmaaW3
namespace Go.Pv

/-- A reader: where it stands, its error. -/
structure RS where
  p : Nat
  e : Int
def rLeft (l : List Int) (s : RS) : Int := if s.e = 0 then (l.length : Int) - s.p else 0
def rFail (s : RS) (k : Int) : RS := if s.e = 0 then ⟨s.p, k⟩ else s
def rWord (l : List Int) (s : RS) : Int × RS := if rLeft l s < 2 then (0, rFail s 3) else (l.getD s.p 0 * 256 + l.getD (s.p + 1) 0, ⟨s.p + 2, s.e⟩)
def rWithin (l : List Int) (s : RS) (m : Int) : Int × RS := if (rWord l s).1 > m then (0, rFail (rWord l s).2 7) else rWord l s
def rLong (l : List Int) (s : RS) : Int × RS :=
  (if (rWord l (rWord l s).2).2.e = 0 then (rWord l s).1 * 65536 + (rWord l (rWord l s).2).1 else 0, (rWord l (rWord l s).2).2)
def rQuad (l : List Int) (s : RS) : Int × RS :=
  (if (rLong l (rLong l s).2).2.e = 0 then (rLong l s).1 * 4294967296 + (rLong l (rLong l s).2).1 else 0, (rLong l (rLong l s).2).2)
/-- Where a text ends. -/
def txEnd (n : Nat) : Nat := n + n % 2
def rText (l : List Int) (s : RS) (m : Int) : ByteArray × RS :=
  let r := rWithin l s m
  let n := r.1.toNat
  let q := if (txEnd n : Int) > rLeft l r.2 then rFail r.2 3 else r.2
  if q.e = 0 then
    (if n < txEnd n ∧ l.getD (q.p + txEnd n - 1) 0 ≠ 0 then (bs [], ⟨q.p + txEnd n, 4⟩) else (strOfL ((l.drop q.p).take n), ⟨q.p + txEnd n, 0⟩))
  else (bs [], q)
/-- It stands within the bytes. -/
structure RS.ok (l : List Int) (s : RS) : Prop where
  p : s.p ≤ l.length
  e : 0 ≤ s.e ∧ s.e ≤ 255
theorem rFail_ok {l : List Int} {s : RS} (h : s.ok l) {k : Int} (hk : 0 ≤ k ∧ k ≤ 255) : (rFail s k).ok l := by
  unfold rFail; split
  · exact ⟨h.p, hk⟩
  · exact h
theorem rWord_ok {l : List Int} {s : RS} (h : s.ok l) : (rWord l s).2.ok l := by
  unfold rWord; split
  · exact rFail_ok h (by decide)
  · rename_i h2
    refine ⟨?_, h.e⟩
    unfold rLeft at h2
    split at h2 <;> simp only <;> omega
theorem getD_byte {l : List Int} (hl : bytesL l) (i : Nat) : 0 ≤ l.getD i 0 ∧ l.getD i 0 ≤ 255 := by
  rw [List.getD_eq_getElem?_getD]
  by_cases h : i < l.length
  · rw [List.getElem?_eq_getElem h]; exact hl _ (List.getElem_mem h)
  · rw [List.getElem?_eq_none (by omega)]; exact ⟨Int.le_refl 0, by decide⟩
theorem rWord_in {l : List Int} (hl : bytesL l) (s : RS) : 0 ≤ (rWord l s).1 ∧ (rWord l s).1 ≤ 65535 := by
  have h1 := getD_byte hl s.p
  have h2 := getD_byte hl (s.p + 1)
  unfold rWord; split <;> simp only <;> omega
theorem rWithin_ok {l : List Int} {s : RS} (h : s.ok l) (m : Int) : (rWithin l s m).2.ok l := by
  unfold rWithin; split
  · exact rFail_ok (rWord_ok h) (by decide)
  · exact rWord_ok h
theorem rWithin_in {l : List Int} (hl : bytesL l) (s : RS) (m : Int) : 0 ≤ (rWithin l s m).1 ∧ (rWithin l s m).1 ≤ 65535 := by
  unfold rWithin; split
  · simp
  · exact rWord_in hl s
theorem rLong_ok {l : List Int} {s : RS} (h : s.ok l) : (rLong l s).2.ok l := rWord_ok (rWord_ok h)
theorem rLong_in {l : List Int} (hl : bytesL l) (s : RS) : 0 ≤ (rLong l s).1 ∧ (rLong l s).1 ≤ 4294967295 := by
  have h1 := rWord_in hl s
  have h2 := rWord_in hl (rWord l s).2
  unfold rLong; simp only; split <;> omega
theorem rQuad_ok {l : List Int} {s : RS} (h : s.ok l) : (rQuad l s).2.ok l := rLong_ok (rLong_ok h)
theorem rQuad_in {l : List Int} (hl : bytesL l) (s : RS) : 0 ≤ (rQuad l s).1 ∧ (rQuad l s).1 ≤ 18446744073709551615 := by
  have h1 := rLong_in hl s
  have h2 := rLong_in hl (rLong l s).2
  unfold rQuad; simp only; split <;> omega
theorem rText_q {l : List Int} {s : RS} (h : s.ok l) {m : Int} : (if (txEnd (rWithin l s m).1.toNat : Int) > rLeft l (rWithin l s m).2 then rFail (rWithin l s m).2 3 else (rWithin l s m).2).ok l ∧ ((if (txEnd (rWithin l s m).1.toNat : Int) > rLeft l (rWithin l s m).2 then rFail (rWithin l s m).2 3 else (rWithin l s m).2).e = 0 → (if (txEnd (rWithin l s m).1.toNat : Int) > rLeft l (rWithin l s m).2 then rFail (rWithin l s m).2 3 else (rWithin l s m).2).p + txEnd (rWithin l s m).1.toNat ≤ l.length) := by
  have h1 := rWithin_ok h m
  split
  · rename_i h3
    refine ⟨rFail_ok h1 (by decide), fun he => ?_⟩
    unfold rFail at he
    split at he
    · simp at he
    · exact absurd he (by assumption)
  · rename_i h3
    refine ⟨h1, fun he => ?_⟩
    unfold rLeft at h3
    rw [if_pos he] at h3
    omega
theorem rText_ok {l : List Int} {s : RS} (h : s.ok l) (m : Int) : (rText l s m).2.ok l := by
  have h1 := rWithin_ok h m
  unfold rText
  simp only
  have hq := rText_q h (m := m)
  generalize (if (txEnd (rWithin l s m).1.toNat : Int) > rLeft l (rWithin l s m).2 then rFail (rWithin l s m).2 3 else (rWithin l s m).2) = q at *
  obtain ⟨g1, g2⟩ := hq
  split
  · rename_i he
    split
    · exact ⟨g2 he, show (0 : Int) ≤ _ ∧ _ by simp⟩
    · exact ⟨g2 he, show (0 : Int) ≤ _ ∧ _ by simp⟩
  · exact g1

/-- So many of a kind, up to the first error. -/
def seqT (f : RS → VT × RS) : Nat → List VT → RS → List VT × RS
  | 0, o, s => (o, s)
  | n + 1, o, s => if s.e = 0 then seqT f n (o ++ [(f s).1]) (f s).2 else (o, s)
theorem seqT_err {f : RS → VT × RS} {n : Nat} {o : List VT} {s : RS} (h : s.e ≠ 0) : seqT f n o s = (o, s) := by
  cases n with
  | zero => rfl
  | succ n => rw [seqT, if_neg h]
def recoT (f : KT → RS → VT × RS) : List KT → List VT → RS → List VT × RS
  | [], o, s => (o, s)
  | t :: ts, o, s => recoT f ts (o ++ [(f t s).1]) (f t s).2
/-- A float's number of its bits. -/
def takeM (l : List Int) : Nat → KT → RS → VT × RS
  | 0, _, s => (VT.zero, s)
  | d + 1, t, s =>
    if ¬ s.e = 0 then (VT.zero, s)
    else if t.kind = 0 then (VT.num (rWithin l s 1).1, (rWithin l s 1).2)
    else if t.kind = 1 then (VT.num (rWord l s).1, (rWord l s).2)
    else if t.kind = 7 then (VT.num (rWithin l s (t.names.length - 1)).1, (rWithin l s (t.names.length - 1)).2)
    else if t.kind = 2 then (VT.num (IntKind.i64.wrap (IntKind.i32.wrap (rLong l s).1)), (rLong l s).2)
    else if t.kind = 3 then (.mk 0 (rQuad l s).1.toNat (bs []) [], if fbits (rQuad l s).1.toNat = (rQuad l s).1 then (rQuad l s).2 else rFail (rQuad l s).2 4)
    else if t.kind = 4 then (.mk 0 0 (rText l s t.most).1 [], (rText l s t.most).2)
    else if t.kind = 5 then
      let r := rWithin l s t.most
      let q := if t.of.length = 1 then r.2 else rFail r.2 5
      let o := seqT (takeM l d (t.of.getD 0 (.mk 0 0 [] []))) r.1.toNat [] q
      (.mk 0 0 (bs []) o.1, o.2)
    else if t.kind = 6 then
      let o := recoT (takeM l d) t.of [] s
      (.mk 0 0 (bs []) o.1, o.2)
    else if t.kind = 8 then
      let r := rWithin l s (t.of.length - 1)
      if r.2.e = 0 then
        let o := takeM l d (t.of.getD r.1.toNat (.mk 0 0 [] [])) r.2
        (.mk r.1 0 (bs []) [o.1], o.2)
      else (VT.zero, r.2)
    else (VT.zero, rFail s 5)
theorem seqT_ok {l : List Int} {f : RS → VT × RS} (hf : ∀ s : RS, s.ok l → (f s).2.ok l) : ∀ (n : Nat) (o : List VT) (s : RS), s.ok l → (seqT f n o s).2.ok l
  | 0, _, _, h => h
  | n + 1, o, s, h => by
    rw [seqT]
    split
    · exact seqT_ok hf n _ _ (hf s h)
    · exact h
theorem recoT_ok {l : List Int} {f : KT → RS → VT × RS} (hf : ∀ (t : KT) (s : RS), s.ok l → (f t s).2.ok l) : ∀ (ts : List KT) (o : List VT) (s : RS), s.ok l → (recoT f ts o s).2.ok l
  | [], _, _, h => h
  | t :: ts, _, s, h => recoT_ok hf ts _ _ (hf t s h)
theorem ite_ok {α : Type} {P : α → Prop} {c : Prop} [Decidable c] {a b : α} (h1 : c → P a) (h2 : ¬ c → P b) : P (if c then a else b) := by
  by_cases h : c
  · rw [if_pos h]; exact h1 h
  · rw [if_neg h]; exact h2 h
theorem takeM_ok {l : List Int} : ∀ (d : Nat) (t : KT) (s : RS), s.ok l → (takeM l d t s).2.ok l
  | 0, _, _, h => h
  | d + 1, t, s, h => by
    rw [takeM]
    refine ite_ok (P := fun r : VT × RS => r.2.ok l) (fun _ => h) fun _ => ?_
    refine ite_ok (P := fun r : VT × RS => r.2.ok l) (fun _ => rWithin_ok h _) fun _ => ?_
    refine ite_ok (P := fun r : VT × RS => r.2.ok l) (fun _ => rWord_ok h) fun _ => ?_
    refine ite_ok (P := fun r : VT × RS => r.2.ok l) (fun _ => rWithin_ok h _) fun _ => ?_
    refine ite_ok (P := fun r : VT × RS => r.2.ok l) (fun _ => rLong_ok h) fun _ => ?_
    refine ite_ok (P := fun r : VT × RS => r.2.ok l) (fun _ => ite_ok (P := fun r : RS => r.ok l) (fun _ => rQuad_ok h) fun _ => rFail_ok (rQuad_ok h) (by decide)) fun _ => ?_
    refine ite_ok (P := fun r : VT × RS => r.2.ok l) (fun _ => rText_ok h _) fun _ => ?_
    refine ite_ok (P := fun r : VT × RS => r.2.ok l) (fun _ => seqT_ok (fun s h => takeM_ok d _ s h) _ _ _ (ite_ok (P := fun r : RS => r.ok l) (fun _ => rWithin_ok h _) fun _ => rFail_ok (rWithin_ok h _) (by decide))) fun _ => ?_
    refine ite_ok (P := fun r : VT × RS => r.2.ok l) (fun _ => recoT_ok (fun t s h => takeM_ok d t s h) _ _ _ h) fun _ => ?_
    refine ite_ok (P := fun r : VT × RS => r.2.ok l) (fun _ => ite_ok (P := fun r : VT × RS => r.2.ok l) (fun _ => takeM_ok d _ _ (rWithin_ok h _)) fun _ => rWithin_ok h _) fun _ => rFail_ok h (by decide)
theorem rFail_e {s : RS} {k : Int} (hk : k ≠ 0) : (rFail s k).e ≠ 0 := by
  unfold rFail; split
  · exact hk
  · assumption
theorem rWithin_le {l : List Int} {s : RS} {m : Int} (h : (rWithin l s m).2.e = 0) : (rWithin l s m).1 ≤ m := by
  unfold rWithin at h ⊢
  split at h
  · exact absurd h (rFail_e (by decide))
  · rename_i h2
    rw [if_neg h2]; omega
end Go.Pv
