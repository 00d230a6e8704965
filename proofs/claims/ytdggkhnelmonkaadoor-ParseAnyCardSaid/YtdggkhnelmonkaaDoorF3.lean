/- What is read of tokens, in plain words. No condition. -/
import Derived.Test.YtdggkhnelmonkaaDoorF1
import Derived.Test.YtdggkhnelmonkaaDoorD1
namespace Go.Pv
set_option maxRecDepth 100000

def noTok : LTok := ⟨0, 0, bs []⟩
def tokAt (l : List LTok) (k : Nat) : LTok := l.getD k noTok
/-- What comes of reading: a value, and where it goes on; or an error, and where. -/
inductive PO (α : Type) where
  | ok (v : α) (k : Nat)
  | err (p e : Int)
def isM (l : List LTok) (k : Nat) (w : ByteArray) : Bool := (tokAt l k).kind != 0 && ((tokAt l k).kind != 2 && seqB (tokAt l k).text w)
def failM {α : Type} (l : List LTok) (k : Nat) (e : Int) : PO α := .err (tokAt l k).pos e
def mustM (l : List LTok) (k : Nat) (w : ByteArray) : PO Unit := if isM l k w = true then .ok () (k + 1) else failM l k 4
def nameM (l : List LTok) (k : Nat) : PO ByteArray := if (tokAt l k).kind = 1 ∧ isName (tokAt l k).text = true then .ok (tokAt l k).text (k + 1) else failM l k 8
/-- A number's value: digit by digit. -/
def valGo (s : ByteArray) : Nat → Int
  | 0 => 0
  | k + 1 => IntKind.i64.wrap (IntKind.i64.wrap (valGo s k * 10) + IntKind.i64.wrap (IntKind.u8.wrap (byteAt s k - 48)))
def valM (x : LTok) : Int := if x.kind = 2 then valGo x.text (min x.text.size 18) else 0
def numM (l : List LTok) (k : Nat) : PO Int := if (tokAt l k).kind = 2 then .ok (valM (tokAt l k)) (k + 1) else failM l k 22
end Go.Pv
/- What is read of tokens: names, numbers, a length: one behind the other. No condition. -/
namespace Go.Pv
set_option maxRecDepth 100000

def PO.bind {α β : Type} (o : PO α) (f : α → Nat → PO β) : PO β := match o with | .ok v k => f v k | .err p e => .err p e
theorem PO.err_bind {α β : Type} {o : PO α} {p e : Int} (h : o = .err p e) (f : α → Nat → PO β) : o.bind f = .err p e := by rw [h]; rfl
theorem PO.ok_bind {α β : Type} {o : PO α} {v : α} {k : Nat} (h : o = .ok v k) (f : α → Nat → PO β) : o.bind f = f v k := by rw [h]; rfl
/-- The tokens' end is a token of its own: whatever is taken, something is behind it. -/
def Ended (l : List LTok) : Prop := ∀ k, k < l.length → (tokAt l k).kind ≠ 0 → k + 1 < l.length
/-- What is read goes on in the tokens. -/
def POin {α : Type} (l : List LTok) (o : PO α) : Prop := ∀ v k, o = .ok v k → k < l.length
theorem POin.bind {α β : Type} {l : List LTok} {o : PO α} {f : α → Nat → PO β} (h : POin l o) (hf : ∀ v k, k < l.length → POin l (f v k)) : POin l (o.bind f) := by
  cases o with
  | err p e => intro v k h; cases h
  | ok v k => exact hf v k (h v k rfl)
theorem POin.ok {α : Type} {l : List LTok} {v : α} {k : Nat} (h : k < l.length) : POin l (.ok v k) := by
  intro v k h; cases h; assumption
theorem failM_in {α : Type} (l : List LTok) (k : Nat) (e : Int) : POin l (failM (α := α) l k e) := by intro v k h; cases h
theorem isM_next {l : List LTok} {k : Nat} {w : ByteArray} (he : Ended l) (hk : k < l.length) (h : isM l k w = true) : k + 1 < l.length := by
  refine he k hk (fun h0 => ?_)
  unfold isM at h
  rw [h0] at h
  exact absurd h (by simp)
theorem mustM_in {l : List LTok} {k : Nat} {w : ByteArray} (he : Ended l) (hk : k < l.length) : POin l (mustM l k w) := by
  unfold mustM
  split
  · exact .ok (isM_next he hk ‹_›)
  · exact failM_in _ _ _
theorem nameM_in {l : List LTok} {k : Nat} (he : Ended l) (hk : k < l.length) : POin l (nameM l k) := by
  unfold nameM
  split
  · rename_i h
    exact .ok (he k hk (by rw [h.1]; decide))
  · exact failM_in _ _ _
theorem numM_in {l : List LTok} {k : Nat} (he : Ended l) (hk : k < l.length) : POin l (numM l k) := by
  unfold numM
  split
  · rename_i h
    exact .ok (he k hk (by rw [h]; decide))
  · exact failM_in _ _ _
/-- A greatest length. -/
def lenM (l : List LTok) (k : Nat) : PO Int :=
  (mustM l k (bs [91])).bind fun _ k => (numM l k).bind fun n k => (mustM l k (bs [93])).bind fun _ k => .ok n k
theorem lenM_in {l : List LTok} {k : Nat} (he : Ended l) (hk : k < l.length) : POin l (lenM l k) :=
  (mustM_in he hk).bind fun _ _ h1 => (numM_in he h1).bind fun _ _ h2 => (mustM_in he h2).bind fun _ _ h3 => .ok h3
end Go.Pv
/- A type, read. No condition. -/
namespace Go.Pv
set_option maxRecDepth 100000

/-- Names, and what they are (an enumeration's are nothing). -/
def fieldsGo (K : Nat → PO KT) (kk : Int) (l : List LTok) : Nat → Nat → List ByteArray → List KT → PO KT
  | 0, k, _, _ => failM l k 0
  | f + 1, k, ns, ts => (nameM l k).bind fun s k =>
    (if kk = 7 then .ok ts k else (mustM l k (bs [58])).bind fun _ k => (K k).bind fun t k => .ok (ts ++ [t]) k).bind fun ts k =>
    if isM l k (bs [44]) = true then fieldsGo K kk l f (k + 1) (ns ++ [s]) ts
    else (mustM l k (bs [125])).bind fun _ k => .ok (.mk kk 0 (ns ++ [s]) ts) k
def fieldsM (K : Nat → PO KT) (kk : Int) (l : List LTok) (k : Nat) : PO KT :=
  (mustM l k (bs [123])).bind fun _ k => fieldsGo K kk l (l.length - k) k [] []
/-- A type, so deep yet. -/
def kindM (l : List LTok) : Nat → Nat → PO KT
  | 0, k => failM l k 5
  | d + 1, k =>
    if isM l k (bs [98, 111, 111, 108]) = true then .ok (.mk 0 0 [] []) (k + 1)
    else if isM l k (bs [99, 97, 114, 100]) = true then .ok (.mk 1 0 [] []) (k + 1)
    else if isM l k (bs [108, 111, 110, 103]) = true then .ok (.mk 2 0 [] []) (k + 1)
    else if isM l k (bs [114, 101, 97, 108]) = true then .ok (.mk 3 0 [] []) (k + 1)
    else if isM l k (bs [116, 101, 120, 116]) = true then (lenM l (k + 1)).bind fun n k => .ok (.mk 4 n [] []) k
    else if isM l k (bs [115, 101, 113]) = true then (lenM l (k + 1)).bind fun n k => (mustM l k (bs [111, 102])).bind fun _ k => (kindM l d k).bind fun t k => .ok (.mk 5 n [] [t]) k
    else if isM l k (bs [114, 101, 99, 111, 114, 100]) = true then fieldsM (kindM l d) 6 l (k + 1)
    else if isM l k (bs [101, 110, 117, 109]) = true then fieldsM (kindM l d) 7 l (k + 1)
    else if isM l k (bs [99, 104, 111, 105, 99, 101]) = true then fieldsM (kindM l d) 8 l (k + 1)
    else (nameM l k).bind fun s k => .ok (.mk 9 0 [s] []) k
end Go.Pv
