/- strconv.Itoa at this program: the shelf's contract. -/
import Derived.Test.YtbgohcedakpnbaaGreatDoorBase
import Derived.Shelf.Strconv.Itoa3
import Derived.Shelf.Unicode.PredsPay
import Derived.Lib.ItoaMem
set_option linter.unusedVariables false
namespace Go.Proofs.YtbgohcedakpnbaaGreatDoor
open Go.RowKit Go.Shelf
def itoaRen : Go.Shelf.Ren := ⟨fun | 129 => 90 | 171 => 26 | 243 => 40 | 246 => 56 | 283 => 74 | 284 => 75 | 285 => 76 | 286 => 77 | 317 => 89 | 318 => 91 | 319 => 92 | 320 => 93 | 337 => 102 | 338 => 103 | n => n, fun | 0 => 0 | 2 => 2 | 3 => 3 | 4 => 4 | 5 => 5 | 9 => 9 | 20 => 20 | 37 => 37 | 46 => 71 | 51 => 123 | 53 => 106 | 171 => 105 | 173 => 109 | 212 => 122 | 213 => 124 | 232 => 141 | 233 => 142 | n => n, fun | 17 => 2 | 18 => 5 | 19 => 6 | n => n⟩
theorem itoaLays : Go.Proofs.LaysM.n171 Tryz.prog itoaRen := {
  mixed := by kernel_rfl
  f129 := Tryz.func90.trans (congrArg some (by kernel_rfl))
  f171 := Tryz.func26.trans (congrArg some (by kernel_rfl))
  f243 := Tryz.func40.trans (congrArg some (by kernel_rfl))
  f246 := Tryz.func56.trans (congrArg some (by kernel_rfl))
  f283 := Tryz.func74.trans (congrArg some (by kernel_rfl))
  f284 := Tryz.func75.trans (congrArg some (by kernel_rfl))
  f285 := Tryz.func76.trans (congrArg some (by kernel_rfl))
  f286 := Tryz.func77.trans (congrArg some (by kernel_rfl))
  f317 := Tryz.func89.trans (congrArg some (by kernel_rfl))
  f318 := Tryz.func91.trans (congrArg some (by kernel_rfl))
  f319 := Tryz.func92.trans (congrArg some (by kernel_rfl))
  f320 := Tryz.func93.trans (congrArg some (by kernel_rfl))
  f337 := Tryz.func102.trans (congrArg some (by kernel_rfl))
  f338 := Tryz.func103.trans (congrArg some (by kernel_rfl))
  t0 := Tryz.underlying0
  a0 := Tryz.isAgg0
  z0 := Tryz.sizeOf0
  v0 := Tryz.zeroValue0
  t2 := Tryz.underlying2
  a2 := Tryz.isAgg2
  z2 := Tryz.sizeOf2
  v2 := Tryz.zeroValue2
  t3 := Tryz.underlying3
  a3 := Tryz.isAgg3
  z3 := Tryz.sizeOf3
  v3 := Tryz.zeroValue3
  t4 := Tryz.underlying4
  a4 := Tryz.isAgg4
  z4 := Tryz.sizeOf4
  v4 := Tryz.zeroValue4
  t5 := Tryz.underlying5
  a5 := Tryz.isAgg5
  z5 := Tryz.sizeOf5
  v5 := Tryz.zeroValue5
  t9 := Tryz.underlying9
  a9 := Tryz.isAgg9
  z9 := Tryz.sizeOf9
  v9 := Tryz.zeroValue9
  t20 := Tryz.underlying20
  a20 := Tryz.isAgg20
  z20 := Tryz.sizeOf20
  v20 := Tryz.zeroValue20
  t37 := Tryz.underlying37
  a37 := Tryz.isAgg37
  z37 := Tryz.sizeOf37
  v37 := Tryz.zeroValue37
  t46 := Tryz.underlying71
  a46 := Tryz.isAgg71
  z46 := Tryz.sizeOf71
  v46 := Tryz.zeroValue71
  t51 := Tryz.underlying123
  a51 := Tryz.isAgg123
  z51 := Tryz.sizeOf123
  v51 := Tryz.zeroValue123
  t53 := Tryz.underlying106
  a53 := Tryz.isAgg106
  z53 := Tryz.sizeOf106
  v53 := Tryz.zeroValue106
  t171 := Tryz.underlying105
  a171 := Tryz.isAgg105
  z171 := Tryz.sizeOf105
  v171 := Tryz.zeroValue105
  t173 := Tryz.underlying109
  a173 := Tryz.isAgg109
  z173 := Tryz.sizeOf109
  v173 := Tryz.zeroValue109
  t212 := Tryz.underlying122
  a212 := Tryz.isAgg122
  z212 := Tryz.sizeOf122
  v212 := Tryz.zeroValue122
  t213 := Tryz.underlying124
  a213 := Tryz.isAgg124
  z213 := Tryz.sizeOf124
  t232 := Tryz.underlying141
  a232 := Tryz.isAgg141
  z232 := Tryz.sizeOf141
  v232 := Tryz.zeroValue141
  t233 := Tryz.underlying142
  a233 := Tryz.isAgg142
  z233 := Tryz.sizeOf142
  v233 := Tryz.zeroValue142
  g17 := by kernel_rfl
  g18 := by kernel_rfl
  g19 := by kernel_rfl
  i0 := by kernel_rfl
  i2 := by kernel_rfl
  i3 := by kernel_rfl
  i4 := by kernel_rfl
  i5 := by kernel_rfl
  i9 := by kernel_rfl
  i20 := by kernel_rfl
  i37 := by kernel_rfl
  i46 := by kernel_rfl
  i51 := by kernel_rfl
  i53 := by kernel_rfl
  i171 := by kernel_rfl
  i173 := by kernel_rfl
  i212 := by kernel_rfl
  i232 := by kernel_rfl
  i233 := by kernel_rfl
  m17 := by kernel_rfl
  m18 := by kernel_rfl
  m19 := by kernel_rfl }
/-- the listed table of powers is there -/
def Pows (w : World) : Prop := Lib.TabIs Tryz.prog w "internal/strconv.uint64pow10" .u64 Lib.pow10Tab
theorem Pows.below {w w' : World} (h : Pows w) (hb : Below w.heap.size w w') : Pows w' := TabIs_below (g := 2) (by kernel_rfl) h hb
theorem below_grow {B : Nat} (w : World) (k : Nat) (os : Array Obj) (hB : B ≤ w.heap.size) : Below B w (Sort.grow (w.drewN k) os) := by
  refine ⟨rfl, rfl, rfl, ?_, fun i hi => ?_⟩
  · show w.heap.size ≤ (w.heap ++ os).size
    simp
  · show (w.heap ++ os)[i]? = w.heap[i]?
    exact Array.getElem?_append_left (by omega)
theorem itoa_any (n : Nat) (w : World) (hn : n ≤ 9223372036854775807) (hG : Pows w) :
    Calls Tryz.prog 26 #[.int .i64 n] w fun e w' => e = .returned (.string ⟨(Lib.decDigits n).toArray⟩) ∧ Below w.heap.size w w' := by
  refine (Any.strconv_Itoa itoaLays (n : Int) (by omega) (by omega) w hG).mono ?_
  rintro e w' ⟨rfl, k, os, rfl⟩
  exact ⟨by rw [Lib.itoa_nonneg], below_grow w k os (Nat.le_refl _)⟩
end Go.Proofs.YtbgohcedakpnbaaGreatDoor
