/- Functions of the program, by value. No condition. -/
import Derived.Test.YtmcdhendjlijhaaE1
import Derived.Test.YtmcdhendjlijhaaV6
namespace Go.Pv
open Go.Proofs
set_option maxRecDepth 100000
set_option maxHeartbeats 4000000

/-- prompter/prompterlaw08.Type -/
abbrev c35_0 : PCode :=
 (.seq (.region [⟨(.some 3), (.load .true 3 (.t 1) .false), .none⟩,
   ⟨(.some 4), (.call0 46 [(.t 3), (.c (.d (.int .i64 4))), (.c (.full []))]), .none⟩,
   ⟨.none, (.store 4 (.t 2) (.t 4)), .none⟩])
 .ret)
def c35 : PFun := ⟨
 (.seq (.region [⟨(.some 1), (.box 3 (.t 0)), .none⟩,
   ⟨(.some 2), (.alloc [(.d (.int .u8 0)), (.d (.int .i64 0)), (.full []), (.full [])]), .none⟩])
 c35_0),
 1, 5, [(.cell 2 .true 4)]⟩

theorem e35 : entered Try.prog 35 = true := by kernel_rfl
theorem k35 : compFun Try.prog (fun _ => 0) 35 = some c35.er := by kernel_rfl


theorem C35 (x : Nd) (hx : x.fit) : Pure (PCalls Try.prog GG) 35 [x.av] (Nd.typ 4 x []).av := by
  have hc := C46 4 x [] (by decide) hx (by decide)
  rw [KT.av_eq] at *
  intro st; refine pcalls_of k35 e35 (of_decide_eq_true rfl) ?_; dsimp only [c35]; refine pstartL ?_; intro t hL; generalize hQ : pfin _ _ = Q
  (refine gor hL ?_; (repeat (clear hL; intro t hL; refine gor hL ?_))); refine po_boxA hL ?_; clear hL; intro p1 t hL
  (refine gor hL ?_; (repeat (clear hL; intro t hL; refine gor hL ?_))); (with_reducible refine po_allocL hL rfl ?_); clear hL; intro p2 t hL
  refine gor hL ?_; (repeat (clear hL; intro t hL; refine gor hL ?_))
  refine po_c0 (hc) ?_
  refine gor hL ?_; (repeat (clear hL; intro t hL; refine gor hL ?_))
  rw [← hQ]
  refine pwk1 hL ?_
  rfl
def cardT : KT := .mk 1 0 [] []
def recT (n : List ByteArray) (o : List KT) : KT := .mk 6 0 n o
theorem typ_le {x : Nd} (hx : x.fit) : (Nd.typ 4 x []).fit ∧ posd 20 (Nd.typ 4 x []) ∧ cost 20 (Nd.typ 4 x []) < 2 ^ 60 :=
  have hw : WT 4 (Nd.typ 4 x []) := .of_typ (by decide) hx
  ⟨hw.fit, hw.posd 20, Nat.lt_of_le_of_lt (hw.cost 20) (by decide)⟩
def infS (a : Nat) : Nat := if fneg a = true then 18442240474082181120 else 9218868437227405312
def sameF (a b : Nat) : Bool := ((F64.order a a != some .eq) && (F64.order b b != some .eq)) || ((F64.order a b == some .eq) && ((F64.order a 0 != some .eq) || (F64.order (infS a) (infS b) == some .eq)))
end Go.Pv
