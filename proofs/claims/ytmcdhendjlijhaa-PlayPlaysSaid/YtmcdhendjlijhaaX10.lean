/- A loop is its body, so many times; one program behind another: plain. No condition. -/
import Derived.Test.YtmcdhendjlijhaaX6
import Derived.Test.YtmcdhendjlijhaaX4
namespace Go.Pv
set_option maxRecDepth 100000

/-- Straight through. -/
def goL (args : List Int) : List Ins → List Int → Out
  | [], R => .done true R
  | x :: l, R =>
    if 16 ≤ x.dst ∨ 16 ≤ x.a then .stuck
    else if x.op = 0 then .done false R
    else if x.op = 6 ∧ bOf x R = 0 then .fail 14 0
    else if x.op = 10 ∧ rg R x.a ≠ 0 then .fail 16 x.n
    else goL args l (act x args R)
theorem goL_app (args : List Int) : ∀ (l k : List Ins) (R : List Int), goL args (l ++ k) R = match goL args l R with | .done true R' => goL args k R' | o => o
  | [], _, _ => rfl
  | x :: l, k, R => by
    rw [List.cons_append, goL, goL]
    split
    · rfl
    split
    · rfl
    split
    · rfl
    split
    · rfl
    exact goL_app args l k _
theorem go_goL {p : List Ins} {args : List Int} {to : Nat} : ∀ (l : List Ins) (f i : Nat) (R : List Int), (∀ j x, l[j]? = some x → p[i + j]? = some x) → i + l.length = to → (∀ x ∈ l, jumps x = false) → l.length < f → go p args f i to R = goL args l R
  | _, 0, _, _, _, _, _, h => by omega
  | [], f + 1, i, R, _, h, _, _ => by rw [go, if_neg (by simp at h; omega)]; rfl
  | x :: l, f + 1, i, R, hp, ht, hj, hf => by
    have hjx := hj x List.mem_cons_self
    simp [jumps] at hjx
    simp only [List.length_cons] at ht hf
    rw [go, if_pos (by omega), show p[i]? = some x from hp 0 x rfl]
    simp only
    rw [goL, if_neg (c := x.op = 9) hjx.1, if_neg (c := x.op = 8 ∧ rg R x.a = 0) (fun h => hjx.2 h.1), go_goL l f (i + 1) _ (fun j y hy => by have := hp (j + 1) y (by simpa using hy); rwa [Nat.add_assoc, Nat.add_comm 1 j]) (by omega) (fun y hy => hj y (List.mem_cons_of_mem _ hy)) (by omega)]
theorem goL_rep (args : List Int) (l : List Ins) : ∀ (n : Nat) (R : List Int), goL args (List.replicate n l).flatten R = rep (goL args l) n R
  | 0, _ => rfl
  | n + 1, R => by
    rw [List.replicate_succ, List.flatten_cons, goL_app, rep]
    cases goL args l R with
    | done b R' => cases b with
      | true => exact goL_rep args l n R'
      | false => rfl
    | fail e r => rfl
    | stuck => rfl
theorem rep_congr {g h : List Int → Out} (e : ∀ R, g R = h R) (n : Nat) (R : List Int) : rep g n R = rep h n R := by rw [funext e]
def lpI (k n : Nat) : Ins := ⟨9, 0, 0, k, n⟩
theorem go_loop (args : List Int) (l : List Ins) (hj : ∀ x ∈ l, jumps x = false) (n : Nat) (R : List Int) : go (lpI l.length n :: l) args (l.length + 2) 0 (l.length + 1) R = rep (goL args l) n R := by
  rw [go, if_pos (by omega)]
  simp only [List.getElem?_cons_zero]
  rw [if_neg (by simp [lpI]), if_neg (by simp [lpI]), if_neg (by simp [lpI]), if_neg (by simp [lpI]), if_pos (c := (lpI l.length n).op = 9) rfl]
  have e : ∀ R, go (lpI l.length n :: l) args (l.length + 1) (0 + 1) (0 + 1 + (lpI l.length n).b.toNat) R = goL args l R := fun R =>
    go_goL l (l.length + 1) 1 R (fun j x hx => by rw [Nat.add_comm, List.getElem?_cons_succ]; exact hx) (by simp [lpI]) hj (by omega)
  rw [rep_congr e, show (lpI l.length n).n.toNat = n by simp [lpI]]
  cases rep (goL args l) n R with
  | done b R' => cases b with
    | true => show go _ _ (l.length + 1) _ _ _ = _; rw [go, if_neg (by simp [lpI]; omega)]
    | false => rfl
  | fail e r => rfl
  | stuck => rfl
theorem go_reps (args : List Int) (l : List Ins) (hj : ∀ x ∈ l, jumps x = false) (n : Nat) (R : List Int) : go (List.replicate n l).flatten args ((List.replicate n l).flatten.length + 1) 0 (List.replicate n l).flatten.length R = rep (goL args l) n R := by
  rw [← goL_rep]
  exact go_goL _ _ 0 R (fun j x hx => by rwa [Nat.zero_add]) (by omega) (fun x hx => by
    obtain ⟨m, hm, hx⟩ := List.mem_flatten.1 hx
    rw [List.eq_of_mem_replicate hm] at hx
    exact hj x hx) (by omega)
theorem chk_loop {l : List Ins} (ht : ∀ x ∈ l, Tm x) (hj : ∀ x ∈ l, jumps x = false) (h1 : 1 ≤ l.length) (h4 : l.length ≤ 4) {n : Nat} (hn : 1 ≤ n ∧ n ≤ 5) : checkP (lpI l.length n :: l) = 0 := by
  have h9 : ∀ x ∈ l, x.op ≠ 9 := fun x hx e => by have := hj x hx; simp [jumps, e] at this
  have h8 : ∀ x ∈ l, x.op ≠ 8 := fun x hx e => by have := hj x hx; simp [jumps, e] at this
  refine checkP_of (by simp; omega) ?_ fun i x hx => chk1_zero.2 ?_
  · have e : fuelP l = l.length := flat_fuel h9
    rw [fuelP] at e
    rw [fuelP, List.map_cons, List.sum_cons]
    have e2 : fuel1 (lpI l.length n) = (l.length : Int) * (max (n : Int) 1 - 1) := rfl
    rw [e2]
    have h5 : (l.length : Int) * (max (n : Int) 1 - 1) ≤ 4 * 4 := Int.mul_le_mul (by omega) (by omega) (by omega) (by omega)
    simp only [List.length_cons]
    omega
  · match i, hx with
    | 0, hx =>
      simp only [List.getElem?_cons_zero, Option.some.injEq] at hx
      subst hx
      refine ⟨show (9 : Int) < 12 by decide, show (0 : Int) < 16 by decide, show (0 : Int) < 16 by decide, fun h => absurd rfl h, fun _ => ⟨?_, ?_, ?_, ?_, ?_⟩, fun h => absurd h (show ¬ (9 : Int) = 8 by decide), fun h => absurd h (show ¬ (9 : Int) = 10 by decide)⟩
      · exact within_zero fun k hk => by simp at hk
      · show (1 : Int) ≤ (l.length : Int); omega
      · show (if (lpI l.length n).op = 9 then 0 + 1 + ((l.length : Nat) : Int).toNat else 0) ≤ l.length + 1
        rw [if_pos (show (lpI l.length n).op = 9 from rfl)]; omega
      · show (1 : Int) ≤ (n : Int); omega
      · show (n : Int) ≤ 8; omega
    | i + 1, hx =>
      have hm := List.mem_of_getElem? (by simpa using hx : l[i]? = some x)
      have t := ht x hm
      exact ⟨t.op.2, t.dst.2, t.a.2, fun _ => t.b.2, fun h => absurd h (h9 x hm), fun h => absurd h (h8 x hm), t.raise⟩
theorem chk_reps {l : List Ins} (ht : ∀ x ∈ l, Tm x) (hj : ∀ x ∈ l, jumps x = false) (h4 : l.length ≤ 4) {n : Nat} (hn : n ≤ 5) : checkP (List.replicate n l).flatten = 0 := by
  have hm : ∀ x ∈ (List.replicate n l).flatten, x ∈ l := fun x hx => by
    obtain ⟨m, hm, hx⟩ := List.mem_flatten.1 hx
    rwa [List.eq_of_mem_replicate hm] at hx
  refine flat_chk (fun x hx => ht x (hm x hx)) ?_ fun x hx => hj x (hm x hx)
  have : (List.replicate n l).flatten.length = n * l.length := by simp
  rw [this]
  have : n * l.length ≤ 5 * 4 := Nat.mul_le_mul hn h4
  omega

/-! One behind another. -/
theorem rep_mono {g g' : List Int → Out} (h : ∀ R, g R ≠ .stuck → g' R = g R) : ∀ (n : Nat) (R : List Int), rep g n R ≠ .stuck → rep g' n R = rep g n R
  | 0, _, _ => rfl
  | n + 1, R, hs => by
    rw [rep] at hs ⊢
    rw [rep]
    cases hg : g R with
    | done b R' =>
      rw [h R (by rw [hg]; exact fun h => by cases h), hg]
      rw [hg] at hs
      cases b with
      | true => exact rep_mono h n R' hs
      | false => rfl
    | fail e r => rw [h R (by rw [hg]; exact fun h => by cases h), hg]
    | stuck => rw [hg] at hs; exact absurd rfl hs
theorem go_mono1 {p : List Ins} {args : List Int} : ∀ (f i to : Nat) (R : List Int), go p args f i to R ≠ .stuck → go p args (f + 1) i to R = go p args f i to R
  | 0, _, _, _, h => absurd rfl h
  | f + 1, i, to, R, h => by
    rw [go] at h
    rw [go, go]
    split
    · rename_i hi
      rw [if_pos hi] at h
      cases hx : p[i]? with
      | none => rfl
      | some x =>
        rw [hx] at h
        simp only at h ⊢
        split
        · rfl
        rename_i c1; rw [if_neg c1] at h
        split
        · rfl
        rename_i c2; rw [if_neg c2] at h
        split
        · rfl
        rename_i c3; rw [if_neg c3] at h
        split
        · rfl
        rename_i c4; rw [if_neg c4] at h
        split
        · rename_i c5; rw [if_pos c5] at h
          have hr : rep (go p args f (i + 1) (i + 1 + x.b.toNat)) x.n.toNat R ≠ .stuck := fun e => by rw [e] at h; exact h rfl
          have hm : rep (go p args (f + 1) (i + 1) (i + 1 + x.b.toNat)) x.n.toNat R = _ := rep_mono (fun R => go_mono1 f _ _ R) _ _ hr
          rw [hm]
          cases ho : rep (go p args f (i + 1) (i + 1 + x.b.toNat)) x.n.toNat R with
          | done b R' => cases b with
            | true => rw [ho] at h; exact go_mono1 f _ _ _ h
            | false => rfl
          | fail e r => rfl
          | stuck => rfl
        rename_i c5; rw [if_neg c5] at h
        split
        · rename_i c6; rw [if_pos c6] at h
          split
          · rfl
          · rename_i c7; rw [if_neg c7] at h; exact go_mono1 f _ _ _ h
        · rename_i c6; rw [if_neg c6] at h; exact go_mono1 f _ _ _ h
    · rfl
theorem go_mono {p : List Ins} {args : List Int} {f i to : Nat} {R : List Int} (h : go p args f i to R ≠ .stuck) : ∀ k, go p args (f + k) i to R = go p args f i to R
  | 0 => rfl
  | k + 1 => by
    have e := go_mono h k
    rw [← Nat.add_assoc, go_mono1 _ _ _ _ (by rw [e]; exact h), e]
theorem go_det {p : List Ins} {args : List Int} {f g i to : Nat} {R : List Int} (h : go p args f i to R ≠ .stuck) (h' : go p args g i to R ≠ .stuck) : go p args f i to R = go p args g i to R := by
  rcases Nat.le_total f g with hl | hl
  · obtain ⟨k, rfl⟩ := Nat.le.dest hl; exact (go_mono h k).symm
  · obtain ⟨k, rfl⟩ := Nat.le.dest hl; exact go_mono h' k
/-- Of what is played ahead only that is seen. -/
theorem go_pre {p q : List Ins} {args : List Int} (hok : ∀ i x, p[i]? = some x → x.op = 9 → i + 1 + x.b.toNat ≤ p.length) : ∀ (f i to : Nat) (R : List Int), to ≤ p.length → go (p ++ q) args f i to R = go p args f i to R
  | 0, _, _, _, _ => rfl
  | f + 1, i, to, R, ht => by
    rw [go, go]
    split
    · rename_i hi
      rw [List.getElem?_append_left (by omega)]
      cases hx : p[i]? with
      | none => rfl
      | some x =>
        simp only
        by_cases h9 : x.op = 9
        · rw [rep_congr (fun R => go_pre hok f _ _ R (hok i x hx h9))]
          simp only [go_pre hok f _ to _ ht]
        · rw [if_neg h9, if_neg h9]
          simp only [go_pre hok f _ to _ ht]
    · rfl
/-- What stands behind. -/
theorem go_post {p q : List Ins} {args : List Int} : ∀ (f i to : Nat) (R : List Int), go (p ++ q) args f (p.length + i) (p.length + to) R = go q args f i to R
  | 0, _, _, _ => rfl
  | f + 1, i, to, R => by
    rw [go, go]
    by_cases hi : i < to
    · rw [if_pos hi, if_pos (by omega), List.getElem?_append_right (by omega), Nat.add_sub_cancel_left]
      cases q[i]? with
      | none => rfl
      | some x =>
        simp only
        have e : ∀ R, go (p ++ q) args f (p.length + i + 1) (p.length + i + 1 + x.b.toNat) R = go q args f (i + 1) (i + 1 + x.b.toNat) R := fun R => by
          rw [← go_post f (i + 1) (i + 1 + x.b.toNat) R]
          congr 1; omega
        rw [rep_congr e]
        have e2 : ∀ R, go (p ++ q) args f (p.length + i + 1 + x.b.toNat) (p.length + to) R = go q args f (i + 1 + x.b.toNat) to R := fun R => by
          rw [← go_post f (i + 1 + x.b.toNat) to R]
          congr 1; omega
        have e3 : ∀ R, go (p ++ q) args f (p.length + i + 1 + x.n.toNat) (p.length + to) R = go q args f (i + 1 + x.n.toNat) to R := fun R => by
          rw [← go_post f (i + 1 + x.n.toNat) to R]
          congr 1; omega
        have e4 : ∀ R, go (p ++ q) args f (p.length + i + 1) (p.length + to) R = go q args f (i + 1) to R := fun R => by
          rw [← go_post f (i + 1) to R]
          congr 1
        simp only [e2, e3, e4]
    · rw [if_neg hi, if_neg (by omega)]
theorem go_s {P : List Ins} {args : List Int} {f i to : Nat} {R : List Int} {x : Ins} (hi : i < to) (hx : P[i]? = some x) : go P args (f + 1) i to R =
    (if 16 ≤ x.dst ∨ 16 ≤ x.a then .stuck
    else if x.op = 0 then .done false R
    else if x.op = 6 ∧ bOf x R = 0 then .fail 14 0
    else if x.op = 10 ∧ rg R x.a ≠ 0 then .fail 16 x.n
    else if x.op = 9 then
      match rep (go P args f (i + 1) (i + 1 + x.b.toNat)) x.n.toNat R with
      | .done true R' => go P args f (i + 1 + x.b.toNat) to R'
      | o => o
    else if x.op = 8 ∧ rg R x.a = 0 then
      if x.n < 0 then .stuck else go P args f (i + 1 + x.n.toNat) to R
    else go P args f (i + 1) to (act x args R)) := by rw [go, if_pos hi, hx]; rfl
/-- It stops ahead of the place. -/
theorem go_stop {P : List Ins} {args : List Int} {m to : Nat} (hmt : m ≤ to) (h9 : ∀ i x, i < m → P[i]? = some x → x.op = 9 → i + 1 + x.b.toNat ≤ m) (h8 : ∀ i x, i < m → P[i]? = some x → x.op = 8 → i + 1 + x.n.toNat ≤ m) :
    ∀ (f i : Nat) (R : List Int) (o : Out), i ≤ m → go P args f i m R = o → o ≠ .stuck → (∀ R', o ≠ .done true R') → go P args f i to R = o
  | 0, _, _, _, _, h, hs, _ => absurd h.symm hs
  | f + 1, i, R, o, hi, h, hs, hd => by
    by_cases him : i < m
    · cases hx : P[i]? with
      | none => rw [go, if_pos him, hx] at h; exact absurd h.symm hs
      | some x =>
        rw [go_s him hx] at h
        rw [go_s (Nat.lt_of_lt_of_le him hmt) hx]
        split
        · rename_i c; rwa [if_pos c] at h
        rename_i c; rw [if_neg c] at h
        split
        · rename_i c; rwa [if_pos c] at h
        rename_i c; rw [if_neg c] at h
        split
        · rename_i c; rwa [if_pos c] at h
        rename_i c; rw [if_neg c] at h
        split
        · rename_i c; rwa [if_pos c] at h
        rename_i c; rw [if_neg c] at h
        split
        · rename_i c; rw [if_pos c] at h
          split
          · rename_i R' e; rw [e] at h; exact go_stop hmt h9 h8 f _ R' o (h9 i x him hx c) h hs hd
          · rename_i e'
            revert h
            split
            · rename_i R' e; exact absurd e (e' R')
            · exact id
        rename_i c; rw [if_neg c] at h
        split
        · rename_i c; rw [if_pos c] at h
          split
          · rename_i c; rwa [if_pos c] at h
          · rename_i c'; rw [if_neg c'] at h; exact go_stop hmt h9 h8 f _ R o (h8 i x him hx c.1) h hs hd
        · rename_i c; rw [if_neg c] at h; exact go_stop hmt h9 h8 f _ _ o him h hs hd
    · rw [go, if_neg him] at h
      exact absurd h.symm (hd R)
/-- It goes on. -/
theorem go_on {P : List Ins} {args : List Int} {m to : Nat} (hmt : m ≤ to) (h9 : ∀ i x, i < m → P[i]? = some x → x.op = 9 → i + 1 + x.b.toNat ≤ m) (h8 : ∀ i x, i < m → P[i]? = some x → x.op = 8 → i + 1 + x.n.toNat ≤ m) {g : Nat} {o : Out} (hs : o ≠ .stuck) {R' : List Int} (hk : go P args g m to R' = o) :
    ∀ (f i : Nat) (R : List Int), i ≤ m → go P args f i m R = .done true R' → go P args (f + g) i to R = o
  | 0, _, _, _, h => by cases h
  | f + 1, i, R, hi, h => by
    by_cases him : i < m
    · cases hx : P[i]? with
      | none => rw [go, if_pos him, hx] at h; cases h
      | some x =>
        rw [go_s him hx] at h
        rw [Nat.add_right_comm, go_s (Nat.lt_of_lt_of_le him hmt) hx]
        split
        · rename_i c; rw [if_pos c] at h; cases h
        rename_i c; rw [if_neg c] at h
        split
        · rename_i c; rw [if_pos c] at h; cases h
        rename_i c; rw [if_neg c] at h
        split
        · rename_i c; rw [if_pos c] at h; cases h
        rename_i c; rw [if_neg c] at h
        split
        · rename_i c; rw [if_pos c] at h; cases h
        rename_i c; rw [if_neg c] at h
        split
        · rename_i c; rw [if_pos c] at h
          have hr : rep (go P args f (i + 1) (i + 1 + x.b.toNat)) x.n.toNat R ≠ .stuck := fun e => by rw [e] at h; cases h
          rw [rep_mono (fun R hR => go_mono hR g) _ _ hr]
          split
          · rename_i R2 e; rw [e] at h; exact go_on hmt h9 h8 hs hk f _ R2 (h9 i x him hx c) h
          · rename_i e'
            revert h
            split
            · rename_i R2 e; exact absurd e (e' R2)
            · intro h; exact absurd h (e' R')
        rename_i c; rw [if_neg c] at h
        split
        · rename_i c; rw [if_pos c] at h
          split
          · rename_i c; rw [if_pos c] at h; cases h
          · rename_i c'; rw [if_neg c'] at h; exact go_on hmt h9 h8 hs hk f _ R (h8 i x him hx c.1) h
        · rename_i c; rw [if_neg c] at h; exact go_on hmt h9 h8 hs hk f _ _ him h
    · rw [go, if_neg him] at h
      cases h
      obtain rfl : i = m := by omega
      rw [Nat.add_comm, go_mono (by rw [hk]; exact hs), hk]
end Go.Pv
/- One program behind another: plain. No condition. -/
namespace Go.Pv
set_option maxRecDepth 100000

/-- The state alone, without an end. -/
def keepI (x : Ins) : Ins := ⟨if x.op = 0 ∨ x.op = 11 then 2 else x.op, x.dst % 8, x.a % 8, if x.op = 9 then x.b else x.b % 8, x.n⟩
theorem keep_op (x : Ins) (k : Int) (hk : k = 8 ∨ k = 9 ∨ k = 10) : (keepI x).op = k ↔ x.op = k := by
  simp only [keepI]; split <;> omega
theorem keep_tm {x : Ins} (h : Tm x) : Tm (keepI x) := by
  obtain ⟨h1, h2, h3, h4, h5, h6, h7⟩ := h
  refine ⟨by simp only [keepI]; split <;> omega, by simp only [keepI]; omega, by simp only [keepI]; omega, by simp only [keepI]; split <;> omega, h5, fun e => ?_, fun e => h7 ((keep_op x 10 (by decide)).1 e)⟩
  have e' := (keep_op x 9 (by decide)).1 e
  have := h6 e'
  simp only [keepI]; rw [if_pos e']; exact this
theorem keep_get {p : List Ins} {i : Nat} : (p.map keepI)[i]? = p[i]?.map keepI := List.getElem?_map ..
theorem keep_end (p : List Ins) (i : Nat) : bodyEnd (p.map keepI) i = bodyEnd p i := by
  unfold bodyEnd
  rw [keep_get]
  cases p[i]? with
  | none => rfl
  | some x =>
    simp only [Option.map_some]
    by_cases h : x.op = 9
    · rw [if_pos ((keep_op x 9 (by decide)).2 h), if_pos h]; simp only [keepI]; rw [if_pos h]
    · rw [if_neg (fun e => h ((keep_op x 9 (by decide)).1 e)), if_neg h]
theorem keep_within (p : List Ins) (i : Nat) : within (p.map keepI) i = within p i := by
  unfold within
  rw [List.length_map, funext (keep_end p)]
theorem keep_fuel (p : List Ins) : fuelP (p.map keepI) = fuelP p := by
  unfold fuelP
  rw [List.length_map, List.map_map]
  congr 2
  refine List.map_congr_left fun x _ => ?_
  show fuel1 (keepI x) = _
  unfold fuel1
  by_cases h : x.op = 9
  · rw [if_pos ((keep_op x 9 (by decide)).2 h), if_pos h]; simp only [keepI]; rw [if_pos h]
  · rw [if_neg (fun e => h ((keep_op x 9 (by decide)).1 e)), if_neg h]
theorem keep_chk {p : List Ins} (ht : ∀ x ∈ p, Tm x) (h : checkP p = 0) : checkP (p.map keepI) = 0 := by
  obtain ⟨h1, h2, h3⟩ := checkP_zero h
  refine checkP_of (by rwa [List.length_map]) (by rwa [keep_fuel]) fun i y hy => chk1_zero.2 ?_
  rw [keep_get] at hy
  obtain ⟨x, hx, rfl⟩ := Option.map_eq_some_iff.1 hy
  have o := chk1_zero.1 (h3 i x hx)
  have t := keep_tm (ht x (List.mem_of_getElem? hx))
  refine ⟨t.op.2, t.dst.2, t.a.2, fun _ => t.b.2, fun e => ?_, fun e => ?_, t.raise⟩
  · have e' := (keep_op x 9 (by decide)).1 e
    rw [keep_within, keep_end, List.length_map]
    obtain ⟨k1, k2, k3, k4, k5⟩ := o.loop e'
    exact ⟨k1, (t.loop e).1, k3, k4, k5⟩
  · have e' := (keep_op x 8 (by decide)).1 e
    rw [keep_within, keep_within, List.length_map]
    exact o.skip e'
/-- The state alone. -/
structure Lw (x : Ins) : Prop where
  dst : 0 ≤ x.dst ∧ x.dst < 8
  op : x.op ≠ 0
theorem keep_lw {x : Ins} (h : Tm x) : Lw (keepI x) := by
  have := h.dst
  exact ⟨by simp only [keepI]; omega, by simp only [keepI]; split <;> omega⟩
theorem act_low {x : Ins} (h : Lw x) (args R : List Int) : (act x args R).drop 8 = R.drop 8 ∧ (act x args R).length = R.length := by
  have := h.dst
  exact ⟨List.drop_set_of_lt (by omega), List.length_set ..⟩
theorem rep_low {g : List Int → Out} (h : ∀ R b R', g R = .done b R' → b = true ∧ R'.drop 8 = R.drop 8 ∧ R'.length = R.length) : ∀ (n : Nat) (R : List Int) (b : Bool) (R' : List Int), rep g n R = .done b R' → b = true ∧ R'.drop 8 = R.drop 8 ∧ R'.length = R.length
  | 0, R, b, R', he => by cases he; exact ⟨rfl, rfl, rfl⟩
  | n + 1, R, b, R', he => by
    rw [rep] at he
    split at he
    · rename_i R2 h2
      obtain ⟨k1, k2, k3⟩ := rep_low h n R2 b R' he
      obtain ⟨_, l2, l3⟩ := h _ _ _ h2
      exact ⟨k1, k2.trans l2, k3.trans l3⟩
    · exact h _ _ _ he
theorem go_low {p : List Ins} (hp : ∀ x ∈ p, Lw x) {args : List Int} : ∀ (f i to : Nat) (R : List Int) (b : Bool) (R' : List Int), go p args f i to R = .done b R' → b = true ∧ R'.drop 8 = R.drop 8 ∧ R'.length = R.length
  | 0, _, _, _, _, _, h => by cases h
  | f + 1, i, to, R, b, R', h => by
    rw [go] at h
    split at h
    · split at h
      · cases h
      · rename_i x hx
        have hxf := hp x (List.mem_of_getElem? hx)
        split at h
        · cases h
        split at h
        · rename_i e; exact absurd e hxf.op
        split at h
        · cases h
        split at h
        · cases h
        split at h
        · split at h
          · rename_i R2 h2
            obtain ⟨_, k2, k3⟩ := rep_low (fun R b R' => go_low hp f _ _ R b R') _ _ _ _ h2
            obtain ⟨l1, l2, l3⟩ := go_low hp f _ _ _ _ _ h
            exact ⟨l1, l2.trans k2, l3.trans k3⟩
          · exact rep_low (fun R b R' => go_low hp f _ _ R b R') _ _ _ _ h
        split at h
        · split at h
          · cases h
          · exact go_low hp f _ _ _ _ _ h
        · obtain ⟨l1, l2, l3⟩ := go_low hp f _ _ _ _ _ h
          obtain ⟨k2, k3⟩ := act_low hxf args R
          exact ⟨l1, l2.trans k2, l3.trans k3⟩
    · cases h; exact ⟨rfl, rfl, rfl⟩
theorem rep_fail {g : List Int → Out} (h : ∀ R e r, g R = .fail e r → e = 14 ∨ e = 16) : ∀ (n : Nat) (R : List Int) (e r : Int), rep g n R = .fail e r → e = 14 ∨ e = 16
  | 0, R, e, r, he => by cases he
  | n + 1, R, e, r, he => by
    rw [rep] at he
    split at he
    · exact rep_fail h n _ e r he
    · exact h _ _ _ he
theorem go_fail {p : List Ins} {args : List Int} : ∀ (f i to : Nat) (R : List Int) (e r : Int), go p args f i to R = .fail e r → e = 14 ∨ e = 16
  | 0, _, _, _, _, _, h => by cases h
  | f + 1, i, to, R, e, r, h => by
    rw [go] at h
    split at h
    · split at h
      · cases h
      · split at h
        · cases h
        split at h
        · cases h
        split at h
        · cases h; exact .inl rfl
        split at h
        · cases h; exact .inr rfl
        split at h
        · split at h
          · exact go_fail f _ _ _ _ _ h
          · exact rep_fail (fun R e r => go_fail f _ _ R e r) _ _ _ _ h
        split at h
        · split at h
          · cases h
          · exact go_fail f _ _ _ _ _ h
        · exact go_fail f _ _ _ _ _ h
    · cases h
theorem no_ok : VT.checkE noT VT.zero = 0 := by kernel_rfl
/-- What a program that may be leaves, without arguments and answers. -/
theorem playF_no {p : List Ins} (hc : checkP p = 0) (hf : ∀ x ∈ p, x.fit) {S : List Int} (hS : Rok S) : playF noT noT p S .zero = match go p (flatM 64 noT .zero) (p.length + 1) 0 p.length (reg0 S (flatM 64 noT .zero)) with
    | .fail e r => (S, e, r, .zero)
    | .done _ R => (R.take 8, 0, 0, buildV (R.drop 8) noT)
    | .stuck => (S, 0, 0, .zero) := by
  rw [playF, if_neg (by rw [hc]; decide), if_neg (by rw [no_ok]; decide)]
  cases h : go p (flatM 64 noT .zero) (p.length + 1) 0 p.length (reg0 S (flatM 64 noT .zero)) with
  | fail e r => rfl
  | done b R =>
    have hR : Rok R := go_rok hf _ _ _ _ _ _ (reg0_ok hS (flatM_ok zero_fit rfl)) h
    simp only
    rw [if_neg (by rw [build_no fun x hx => hR x (List.mem_of_mem_drop hx)]; decide)]
  | stuck => rfl
theorem joins {p q : List Ins} (hp : ∀ x ∈ p, Tm x ∧ Lw x) (hq : ∀ x ∈ q, Tm x ∧ Lw x) (cp : checkP p = 0) (cq : checkP q = 0) (cb : checkP (p ++ q) = 0) {S : List Int} (hS : S.length = 8) (hSr : Rok S) :
    ((playF noT noT p S .zero).2.1 ≠ 0 → (playF noT noT (p ++ q) S .zero).2.1 = (playF noT noT p S .zero).2.1 ∧ (playF noT noT (p ++ q) S .zero).2.2.1 = (playF noT noT p S .zero).2.2.1 ∧ (playF noT noT (p ++ q) S .zero).1 = S) ∧
    ((playF noT noT p S .zero).2.1 = 0 → ((playF noT noT q (playF noT noT p S .zero).1 .zero).2.1 ≠ 0 → (playF noT noT (p ++ q) S .zero).2.1 = (playF noT noT q (playF noT noT p S .zero).1 .zero).2.1 ∧ (playF noT noT (p ++ q) S .zero).2.2.1 = (playF noT noT q (playF noT noT p S .zero).1 .zero).2.2.1 ∧ (playF noT noT (p ++ q) S .zero).1 = S) ∧
      ((playF noT noT q (playF noT noT p S .zero).1 .zero).2.1 = 0 → (playF noT noT (p ++ q) S .zero).2.1 = 0 ∧ (playF noT noT (p ++ q) S .zero).1 = (playF noT noT q (playF noT noT p S .zero).1 .zero).1)) := by
  have fp : ∀ x ∈ p, x.fit := fun x hx => (hp x hx).1.fit
  have fq : ∀ x ∈ q, x.fit := fun x hx => (hq x hx).1.fit
  have fb : ∀ x ∈ p ++ q, x.fit := fun x hx => (List.mem_append.1 hx).elim (fp x) (fq x)
  rw [playF_no cp fp hSr, playF_no cb fb hSr]
  have hA : Rok (flatM 64 noT .zero) := flatM_ok zero_fit rfl
  have o9 : ∀ i x, p[i]? = some x → x.op = 9 → i + 1 + x.b.toNat ≤ p.length := fun i x hx h => by
    have := ((chk1_zero.1 ((checkP_zero cp).2.2 i x hx)).loop h).2.2.1
    rw [bodyEnd, hx] at this
    simp only [if_pos h] at this
    exact this
  have o8 : ∀ i x, p[i]? = some x → x.op = 8 → i + 1 + x.n.toNat ≤ p.length := fun i x hx h => by
    have := (chk1_zero.1 ((checkP_zero cp).2.2 i x hx)).skip h
    omega
  have b9 : ∀ i x, i < p.length → (p ++ q)[i]? = some x → x.op = 9 → i + 1 + x.b.toNat ≤ p.length := fun i x hi hx => o9 i x (by rwa [List.getElem?_append_left hi] at hx)
  have b8 : ∀ i x, i < p.length → (p ++ q)[i]? = some x → x.op = 8 → i + 1 + x.n.toNat ≤ p.length := fun i x hi hx => o8 i x (by rwa [List.getElem?_append_left hi] at hx)
  generalize hAe : flatM 64 noT .zero = A at *
  have hgp := go_ok fp cp A (reg0 S A)
  have hgb := go_ok fb cb A (reg0 S A)
  have hpre := go_pre (q := q) (args := A) o9 (p.length + 1) 0 p.length (reg0 S A) (Nat.le_refl _)
  cases h : go p A (p.length + 1) 0 p.length (reg0 S A) with
  | stuck => exact absurd h hgp
  | fail e r =>
    rw [h] at hpre
    have h1 := go_stop (to := (p ++ q).length) (by simp) b9 b8 _ 0 _ _ (Nat.zero_le _) hpre (fun h => by cases h) (fun R' h => by cases h)
    rw [go_det hgb (g := p.length + 1) (by rw [h1]; exact fun h => by cases h), h1]
    simp only
    refine ⟨fun _ => ⟨trivial, trivial, trivial⟩, fun h0 => ?_⟩
    have := go_fail _ _ _ _ _ _ h
    omega
  | done b R1 =>
    obtain ⟨rfl, k2, k3⟩ := go_low (fun x hx => (hp x hx).2) _ _ _ _ _ _ h
    simp only
    refine ⟨fun h0 => absurd rfl h0, fun _ => ?_⟩
    have hR1 : Rok R1 := go_rok fp _ _ _ _ _ _ (reg0_ok hSr hA) h
    have e1 : reg0 (R1.take 8) A = R1 := by
      have e2 : R1.drop 8 = (List.range 8).map fun i => A.getD i 0 := by rw [k2, reg0, List.drop_left' hS]
      rw [reg0, ← e2, List.take_append_drop]
    rw [playF_no cq fq (fun x hx => hR1 x (List.mem_of_mem_take hx)), hAe]
    have hgq := go_ok fq cq A R1
    have hpost : go (p ++ q) A (q.length + 1) p.length (p.length + q.length) R1 = go q A (q.length + 1) 0 q.length R1 := go_post (q.length + 1) 0 q.length R1
    have hon := go_on (to := p.length + q.length) (by omega) b9 b8 hgq hpost (p.length + 1) 0 (reg0 S A) (Nat.zero_le _) (hpre.trans h)
    rw [List.length_append] at hgb ⊢
    rw [go_det hgb (g := p.length + 1 + (q.length + 1)) (by rw [hon]; exact hgq), hon, e1]
    cases h2 : go q A (q.length + 1) 0 q.length R1 with
    | stuck => exact absurd h2 hgq
    | fail e r =>
      simp only
      refine ⟨fun _ => ⟨trivial, trivial, trivial⟩, fun h0 => ?_⟩
      have := go_fail _ _ _ _ _ _ h2
      omega
    | done b R => exact ⟨fun h => absurd rfl h, fun _ => ⟨rfl, rfl⟩⟩
end Go.Pv
