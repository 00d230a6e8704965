/- The library's sort, laid at this program. No condition. -/
import Derived.Test.YtoghanbjiikheaaT21
import Derived.Test.YtoghanbjiikheaaProg
namespace Go.Pv
open Go.Proofs Go.Shelf Go.Sort

set_option maxRecDepth 100000
def sortRen : Ren where
  f := fun | 189 => 27 | 125 => 31 | 257 => 30 | 128 => 41 | 129 => 42 | 294 => 32 | 295 => 33 | 296 => 34 | 297 => 35 | 298 => 36 | 299 => 37 | 216 => 38 | 300 => 39 | 301 => 40 | 328 => 43 | 329 => 44 | 330 => 45 | 331 => 46 | 332 => 47 | 215 => 48 | 343 => 49 | n => n
  t := fun | 28 => 24 | 3 => 3 | 46 => 43 | 0 => 0 | 51 => 67 | 53 => 69 | 4 => 4 | 183 => 59 | 182 => 58 | 131 => 64 | 5 => 5 | 9 => 9 | 218 => 70 | 222 => 74 | 228 => 76 | 229 => 77 | n => n
  g := fun n => n
theorem sortLays : Lays.n189 Try.prog sortRen where
  mixed := by kernel_rfl
  f125 := Try.func31.trans (congrArg some (by kernel_rfl))
  f128 := Try.func41.trans (congrArg some (by kernel_rfl))
  f129 := Try.func42.trans (congrArg some (by kernel_rfl))
  f189 := Try.func27.trans (congrArg some (by kernel_rfl))
  f215 := Try.func48.trans (congrArg some (by kernel_rfl))
  f216 := Try.func38.trans (congrArg some (by kernel_rfl))
  f257 := Try.func30.trans (congrArg some (by kernel_rfl))
  f294 := Try.func32.trans (congrArg some (by kernel_rfl))
  f295 := Try.func33.trans (congrArg some (by kernel_rfl))
  f296 := Try.func34.trans (congrArg some (by kernel_rfl))
  f297 := Try.func35.trans (congrArg some (by kernel_rfl))
  f298 := Try.func36.trans (congrArg some (by kernel_rfl))
  f299 := Try.func37.trans (congrArg some (by kernel_rfl))
  f300 := Try.func39.trans (congrArg some (by kernel_rfl))
  f301 := Try.func40.trans (congrArg some (by kernel_rfl))
  f328 := Try.func43.trans (congrArg some (by kernel_rfl))
  f329 := Try.func44.trans (congrArg some (by kernel_rfl))
  f330 := Try.func45.trans (congrArg some (by kernel_rfl))
  f331 := Try.func46.trans (congrArg some (by kernel_rfl))
  f332 := Try.func47.trans (congrArg some (by kernel_rfl))
  f343 := Try.func49.trans (congrArg some (by kernel_rfl))
  t0 := Try.underlying0
  a0 := Try.isAgg0
  z0 := Try.sizeOf0
  v0 := Try.zeroValue0
  t3 := Try.underlying3
  a3 := Try.isAgg3
  z3 := Try.sizeOf3
  v3 := Try.zeroValue3
  t4 := Try.underlying4
  a4 := Try.isAgg4
  z4 := Try.sizeOf4
  v4 := Try.zeroValue4
  t5 := Try.underlying5
  a5 := Try.isAgg5
  z5 := Try.sizeOf5
  v5 := Try.zeroValue5
  t9 := Try.underlying9
  a9 := Try.isAgg9
  z9 := Try.sizeOf9
  v9 := Try.zeroValue9
  t28 := Try.underlying24
  a28 := Try.isAgg24
  z28 := Try.sizeOf24
  v28 := Try.zeroValue24
  t46 := Try.underlying43
  a46 := Try.isAgg43
  z46 := Try.sizeOf43
  v46 := Try.zeroValue43
  t51 := Try.underlying67
  a51 := Try.isAgg67
  z51 := Try.sizeOf67
  v51 := Try.zeroValue67
  t53 := Try.underlying69
  a53 := Try.isAgg69
  z53 := Try.sizeOf69
  v53 := Try.zeroValue69
  t131 := Try.underlying64
  a131 := Try.isAgg64
  z131 := Try.sizeOf64
  v131 := Try.zeroValue64
  t182 := Try.underlying58
  a182 := Try.isAgg58
  z182 := Try.sizeOf58
  v182 := Try.zeroValue58
  t183 := Try.underlying59
  a183 := Try.isAgg59
  z183 := Try.sizeOf59
  v183 := Try.zeroValue59
  t218 := Try.underlying70
  a218 := Try.isAgg70
  z218 := Try.sizeOf70
  v218 := Try.zeroValue70
  t222 := Try.underlying74
  a222 := Try.isAgg74
  z222 := Try.sizeOf74
  v222 := Try.zeroValue74
  t228 := Try.underlying76
  a228 := Try.isAgg76
  z228 := Try.sizeOf76
  v228 := Try.zeroValue76
  t229 := Try.underlying77
  a229 := Try.isAgg77
  z229 := Try.sizeOf77
  v229 := Try.zeroValue77
theorem sortC (zs : List Int) (rest : List AV) (b cap : Nat) (hsz : zs.length < 4611686018427387904) : CL (PCalls Try.prog GG) 27 [.bsl b 0 zs.length cap] [.box b ((zs.map fun n => AV.d (.int .i64 n)) ++ rest)] (fun _ : Unit => .tup []) (fun _ => [.box b (((zs.mergeSort fun x y => decide (x ≤ y)).map fun n => AV.d (.int .i64 n)) ++ rest)]) := by
  refine ⟨fun _ => ⟨(), fun x hx => by
    rw [List.mem_singleton.1 hx]
    exact .inl ⟨_, List.mem_cons_self, _, rfl⟩, by simp⟩, fun st t hL => ?_⟩
  have hb : t.box b = some _ := hL.bx Rem.head
  refine pcalls_mono (sortedP (ρ := sortRen) sortLays (by kernel_rfl) b cap zs rest t hb hsz) (fun r st' ⟨e1, e2⟩ => ⟨(), e1, ?_⟩) fun _ _ _ => ⟨_, _, rfl, rfl⟩
  rw [e2]
  exact (hL.rem (by exact Rem.head)).store _
end Go.Pv
