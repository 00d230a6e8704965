/- Loops whose variables come anew with each round. No condition. -/
import Derived.Test.YtmkfohiocklkoaaDoorP24
namespace Go.Pv
theorem prangeL {G : Glob} {C : CallsP} {keep : Option (List Nat)} {id ti tc tx : Nat} {bnd : Arg} {body : PCode} {Q : PEx → Slots → St → Prop} {s : Slots} {t : St} (n : Nat) (hn : n < 2 ^ 63) (S : Nat → Slots) (T : St → Prop) (I : Nat → Prop) (hI : I 0)
    (h0 : trim keep s = S 0) (ht : T t) (hi : ∀ k, S k ti = i64 k) (hl : ∀ k, bnd.ev G (S k) = i64 n)
    (hend : ∀ t, T t → I n → Q .normal (put (S n) (some tc) (b2 false)) t)
    (hstep : ∀ k, k < n → ∀ t, T t → I k → pwp G C body (PEx.next (fun s' t' => I (k + 1) ∧ T t' ∧ s' ti = i64 k ∧ trim keep (put (put s' (some tx) (i64 ((k + 1 : Nat) : Int))) (some ti) (i64 ((k + 1 : Nat) : Int))) = S (k + 1)) (PEx.inBlock id Q)) (put (S k) (some tc) (b2 true)) t) :
    pwp G C (.block id (.loop keep (.seq (.region [⟨some tc, .bin .lss (.t ti) bnd, none⟩]) (.seq (.cond (.t tc) .skip (.exit id)) (.seq body (.region [⟨some tx, .bin .add (.t ti) (.c (.d (.int .i64 1))), none⟩, ⟨some ti, .mov (.t tx), none⟩])))))) Q s t := by
  refine prange' n hn (fun k s t => s = S k ∧ T t ∧ I k) ⟨h0, ht, hI⟩ (fun k s t _ h => by rw [h.1]; exact hi k) (fun k s t _ h => by rw [h.1]; exact hl k) ?_ ?_
  · rintro s t ⟨rfl, h1, h2⟩; exact hend t h1 h2
  · rintro k hk s t ⟨rfl, h1, h2⟩
    refine pwp_mono ?_ (hstep k hk t h1 h2)
    rintro e s' t' he
    cases e with
    | normal => exact ⟨he.2.2.1, he.2.2.2, he.2.1, he.1⟩
    | exit j => exact he
    | ret => exact he
section
variable {G : Glob} {C : CallsP}
theorem po_nilE {neg : Bool} {x : Arg} {d : Option Nat} {rest : List POper} {K : X → Prop} {s : Slots} {m : Mx} (hx : x.ev G s = .d (.sl [])) (h : ∀ b : Bool, pops G C rest K ⟨put s d (b2 b), m⟩) : pops G C (⟨d, .isNilS neg x, none⟩ :: rest) K ⟨s, m⟩ := by
  rw [pops_plain]
  unfold ostep
  simp only [nf, hx]
  exact h
theorem po_nilS {neg : Bool} {x : Arg} {d : Option Nat} {rest : List POper} {K : X → Prop} {s : Slots} {m : Mx} {v : AV} {b : Bool} (hx : x.ev G s = v) (hv : nilEv 1 v = some b) (h : pops G C rest K ⟨put s d (b2 (if neg then !b else b)), m⟩) : pops G C (⟨d, .isNilS neg x, none⟩ :: rest) K ⟨s, m⟩ := by
  rw [pops_plain]
  unfold ostep
  simp only [nf, hx]
  split
  · cases hv
  · exact ⟨_, by rw [hv]; rfl, h⟩
/-- A call that turns the state. -/
theorem po_callS {f : FuncId} {args : List Arg} {d : Option Nat} {rest : List POper} {K : X → Prop} {s : Slots} {m : Mx} {as : List AV} (hargs : (args.map fun (p : Arg) => p.ev G s).map AV.weak = as) {R : AV → St → Prop}
    (hc : C f as m.st R) (hne : ∀ L : List Nat, (∀ b ∈ L, m.st.fresh b) → ∃ r st', R r st' ∧ ∀ b ∈ L, st'.fresh b) (h : ∀ r st', R r st' → pops G C rest K ⟨put s d r, m.setSt st'⟩) : pops G C (⟨d, .call0 f args, none⟩ :: rest) K ⟨s, m⟩ := by
  rw [pops_plain]
  unfold ostep
  simp only [nf, hargs]
  exact ⟨R, hc, hne, h⟩
theorem po_callvS {x : Arg} {f : FuncId} {first caps : List Dat} {args : List Arg} {d : Option Nat} {rest : List POper} {K : X → Prop} {s : Slots} {m : Mx} {as : List AV} (hx : x.ev G s = .d (.fn f first caps))
    (hargs : first.map .d ++ ((args.map fun (p : Arg) => p.ev G s).map AV.weak) ++ caps.map .d = as) {R : AV → St → Prop} (hc : C f as m.st R) (hne : ∀ L : List Nat, (∀ b ∈ L, m.st.fresh b) → ∃ r st', R r st' ∧ ∀ b ∈ L, st'.fresh b)
    (h : ∀ r st', R r st' → pops G C rest K ⟨put s d r, m.setSt st'⟩) : pops G C (⟨d, .callv0 x args, none⟩ :: rest) K ⟨s, m⟩ := by
  rw [pops_plain]
  unfold ostep
  simp only [nf, hx, hargs]
  exact ⟨R, hc, hne, h⟩
theorem does_call0 {s : Slots} {m : Mx} {f : FuncId} {args : List Arg} {as : List AV} {v : AV} (hargs : (args.map fun (p : Arg) => p.ev G s).map AV.weak = as) (hc : Pure C f as v) : Does G C s m (.call0 f args) v := fun _ _ _ k => po_call hargs hc (fun _ _ h => False.elim h) k
end
theorem ne_fresh {t : St} {b c : Nat} {l : List AV} (h : t.box b = some l) (hc : t.fresh c) : b ≠ c := fun e => by
  rw [e, hc.1] at h
  cases h
theorem fresh_le {s t : St} {b : Nat} (h : s.le t) (hb : t.fresh b) : s.fresh b := by
  constructor
  · cases e : s.box b with
    | none => rfl
    | some l => have := h.box _ _ e; rw [hb.1] at this; cases this
  · cases e : s.tok b with
    | none => rfl
    | some l => have := h.tok _ _ e; rw [hb.2] at this; cases this
end Go.Pv
