/- Tokens of a text, in plain words. No condition. -/
import Derived.Test.YtdggkhnelmonkaaDoorD1
import Derived.Test.YtdggkhnelmonkaaDoorP26
import Derived.Test.YtdggkhnelmonkaaDoorP20
namespace Go.Pv
set_option maxRecDepth 100000

/-- A token: what it is, where it begins, its text. -/
structure LTok where
  kind : Int
  pos : Nat
  text : ByteArray
def LTok.row (x : LTok) : List Dat := [.int .u8 x.kind, .int .i64 x.pos, .str x.text]
theorem LTok.row_len (x : LTok) : x.row.length = 3 := rfl
theorem LTok.row_av (x : LTok) : x.row.map AV.d = [.d (.int .u8 x.kind), .d (.int .i64 x.pos), .d (.str x.text)] := rfl

def blankB (n : Int) : Bool := n == 32 || n == 9 || n == 10
def signsB : ByteArray := bs [123, 125, 40, 41, 91, 93, 61, 58, 59, 44]
def signB (n : Int) : Bool := (List.range 10).any fun i => byteAt signsB i == n
def wordB (n : Int) : Bool := letter n || digit n
def restB (n : Int) : Bool := n != 10
/-- The first place from there on where it doesn't hold. -/
def scanB (p : Int → Bool) (s : ByteArray) : Nat → Nat → Nat
  | 0, i => i
  | f + 1, i => if i < s.size ∧ p (byteAt s i) = true then scanB p s f (i + 1) else i
def spanB (p : Int → Bool) (s : ByteArray) (i : Nat) : Nat := scanB p s (s.size - i) i
theorem scanB_le (p : Int → Bool) (s : ByteArray) : ∀ (f i : Nat), i ≤ s.size → i ≤ scanB p s f i ∧ scanB p s f i ≤ s.size
  | 0, i, h => ⟨Nat.le_refl _, h⟩
  | f + 1, i, h => by
    rw [scanB]
    split
    · rename_i hc
      have := scanB_le p s f (i + 1) (by omega)
      omega
    · exact ⟨Nat.le_refl _, h⟩
theorem spanB_le (p : Int → Bool) (s : ByteArray) {i : Nat} (h : i ≤ s.size) : i ≤ spanB p s i ∧ spanB p s i ≤ s.size := scanB_le p s _ i h
theorem scanB_to (p : Int → Bool) (s : ByteArray) : ∀ (k f i : Nat), (∀ j, j < k → p (byteAt s (i + j)) = true) → i + k ≤ s.size → (i + k = s.size ∨ p (byteAt s (i + k)) = false) → k ≤ f → scanB p s f i = i + k
  | 0, f, i, _, _, h3, _ => by
    cases f with
    | zero => rfl
    | succ f =>
      rw [scanB, if_neg]
      · rfl
      · rintro ⟨h4, h5⟩
        rcases h3 with h3 | h3
        · omega
        · rw [Nat.add_zero] at h3; rw [h5] at h3; cases h3
  | k + 1, 0, i, _, _, _, h => by omega
  | k + 1, f + 1, i, h1, h2, h3, h4 => by
    rw [scanB, if_pos ⟨by omega, by have := h1 0 (by omega); simpa using this⟩, scanB_to p s k f (i + 1) (fun j hj => by have := h1 (j + 1) (by omega); rwa [Nat.add_assoc, Nat.add_comm 1 j]) (by omega) (by rwa [Nat.add_assoc, Nat.add_comm 1 k]) (by omega)]
    omega
theorem spanB_to {p : Int → Bool} {s : ByteArray} {i k : Nat} (h1 : ∀ j, j < k → p (byteAt s (i + j)) = true) (h2 : i + k ≤ s.size) (h3 : i + k = s.size ∨ p (byteAt s (i + k)) = false) : spanB p s i = i + k :=
  scanB_to p s k _ i h1 h2 h3 (by omega)
theorem spanB_pos {p : Int → Bool} {s : ByteArray} {i : Nat} (h : i < s.size) (hp : p (byteAt s i) = true) : i + 1 ≤ spanB p s i := by
  unfold spanB
  obtain ⟨f, hf⟩ := Nat.exists_eq_succ_of_ne_zero (show s.size - i ≠ 0 by omega)
  rw [hf, scanB, if_pos ⟨h, hp⟩]
  exact (scanB_le p s f (i + 1) (by omega)).1
inductive LexO where
  | ok (l : List LTok)
  | bad (pos : Nat) (e : Int)
def lexGo (s : ByteArray) : Nat → Nat → List LTok → LexO
  | 0, _, out => .ok out
  | f + 1, i, out =>
    if i < s.size then
      if blankB (byteAt s i) = true then lexGo s f (i + 1) out
      else if byteAt s i = 35 then lexGo s f (spanB restB s i) out
      else if letter (byteAt s i) = true then lexGo s f (spanB wordB s i) (out ++ [⟨1, i, s.extract i (spanB wordB s i)⟩])
      else if digit (byteAt s i) = true then
        if spanB digit s i - i > 10 ∨ (byteAt s i = 48 ∧ spanB digit s i - i > 1) then .bad i 22
        else lexGo s f (spanB digit s i) (out ++ [⟨2, i, s.extract i (spanB digit s i)⟩])
      else if signB (byteAt s i) = true then lexGo s f (i + 1) (out ++ [⟨3, i, s.extract i (i + 1)⟩])
      else .bad i 13
    else .ok out
/-- A text's tokens, an end behind them; or an error, and where. -/
def lexM (s : ByteArray) : LexO := if s.size > 4000 then .bad 4000 6 else match lexGo s (s.size + 1) 0 [] with
  | .ok l => .ok (l ++ [⟨0, s.size, bs []⟩])
  | o => o
end Go.Pv
