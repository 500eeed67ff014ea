/- strconv.Itoa at this program: the shelf's contract. -/
import Derived.Test.YtefodifmfjpnlaaDoorBase
import Derived.Shelf.Strconv.Itoa3
import Derived.Shelf.Unicode.PredsPay
import Derived.Lib.ItoaMem
set_option linter.unusedVariables false
namespace Go.Proofs.YtefodifmfjpnlaaDoor
open Go.RowKit Go.Shelf
def itoaRen : Go.Shelf.Ren := ⟨fun | 129 => 74 | 171 => 44 | 243 => 57 | 246 => 65 | 283 => 68 | 284 => 69 | 285 => 70 | 286 => 71 | 317 => 73 | 318 => 75 | 319 => 76 | 320 => 77 | 337 => 78 | 338 => 79 | n => n, fun | 0 => 0 | 2 => 2 | 3 => 3 | 4 => 4 | 5 => 5 | 9 => 9 | 20 => 20 | 37 => 59 | 46 => 110 | 51 => 108 | 53 => 100 | 171 => 99 | 173 => 103 | 212 => 107 | 213 => 109 | 232 => 113 | 233 => 114 | n => n, fun | 17 => 0 | 18 => 1 | 19 => 2 | n => n⟩
theorem itoaLays : Go.Proofs.LaysM.n171 Tryd.prog itoaRen := {
  mixed := by kernel_rfl
  f129 := Tryd.func74.trans (congrArg some (by kernel_rfl))
  f171 := Tryd.func44.trans (congrArg some (by kernel_rfl))
  f243 := Tryd.func57.trans (congrArg some (by kernel_rfl))
  f246 := Tryd.func65.trans (congrArg some (by kernel_rfl))
  f283 := Tryd.func68.trans (congrArg some (by kernel_rfl))
  f284 := Tryd.func69.trans (congrArg some (by kernel_rfl))
  f285 := Tryd.func70.trans (congrArg some (by kernel_rfl))
  f286 := Tryd.func71.trans (congrArg some (by kernel_rfl))
  f317 := Tryd.func73.trans (congrArg some (by kernel_rfl))
  f318 := Tryd.func75.trans (congrArg some (by kernel_rfl))
  f319 := Tryd.func76.trans (congrArg some (by kernel_rfl))
  f320 := Tryd.func77.trans (congrArg some (by kernel_rfl))
  f337 := Tryd.func78.trans (congrArg some (by kernel_rfl))
  f338 := Tryd.func79.trans (congrArg some (by kernel_rfl))
  t0 := Tryd.underlying0
  a0 := Tryd.isAgg0
  z0 := Tryd.sizeOf0
  v0 := Tryd.zeroValue0
  t2 := Tryd.underlying2
  a2 := Tryd.isAgg2
  z2 := Tryd.sizeOf2
  v2 := Tryd.zeroValue2
  t3 := Tryd.underlying3
  a3 := Tryd.isAgg3
  z3 := Tryd.sizeOf3
  v3 := Tryd.zeroValue3
  t4 := Tryd.underlying4
  a4 := Tryd.isAgg4
  z4 := Tryd.sizeOf4
  v4 := Tryd.zeroValue4
  t5 := Tryd.underlying5
  a5 := Tryd.isAgg5
  z5 := Tryd.sizeOf5
  v5 := Tryd.zeroValue5
  t9 := Tryd.underlying9
  a9 := Tryd.isAgg9
  z9 := Tryd.sizeOf9
  v9 := Tryd.zeroValue9
  t20 := Tryd.underlying20
  a20 := Tryd.isAgg20
  z20 := Tryd.sizeOf20
  v20 := Tryd.zeroValue20
  t37 := Tryd.underlying59
  a37 := Tryd.isAgg59
  z37 := Tryd.sizeOf59
  v37 := Tryd.zeroValue59
  t46 := Tryd.underlying110
  a46 := Tryd.isAgg110
  z46 := Tryd.sizeOf110
  v46 := Tryd.zeroValue110
  t51 := Tryd.underlying108
  a51 := Tryd.isAgg108
  z51 := Tryd.sizeOf108
  v51 := Tryd.zeroValue108
  t53 := Tryd.underlying100
  a53 := Tryd.isAgg100
  z53 := Tryd.sizeOf100
  v53 := Tryd.zeroValue100
  t171 := Tryd.underlying99
  a171 := Tryd.isAgg99
  z171 := Tryd.sizeOf99
  v171 := Tryd.zeroValue99
  t173 := Tryd.underlying103
  a173 := Tryd.isAgg103
  z173 := Tryd.sizeOf103
  v173 := Tryd.zeroValue103
  t212 := Tryd.underlying107
  a212 := Tryd.isAgg107
  z212 := Tryd.sizeOf107
  v212 := Tryd.zeroValue107
  t213 := Tryd.underlying109
  a213 := Tryd.isAgg109
  z213 := Tryd.sizeOf109
  t232 := Tryd.underlying113
  a232 := Tryd.isAgg113
  z232 := Tryd.sizeOf113
  v232 := Tryd.zeroValue113
  t233 := Tryd.underlying114
  a233 := Tryd.isAgg114
  z233 := Tryd.sizeOf114
  v233 := Tryd.zeroValue114
  g17 := by kernel_rfl
  g18 := by kernel_rfl
  g19 := by kernel_rfl
  i0 := by kernel_rfl
  i2 := by kernel_rfl
  i3 := by kernel_rfl
  i4 := by kernel_rfl
  i5 := by kernel_rfl
  i9 := by kernel_rfl
  i20 := by kernel_rfl
  i37 := by kernel_rfl
  i46 := by kernel_rfl
  i51 := by kernel_rfl
  i53 := by kernel_rfl
  i171 := by kernel_rfl
  i173 := by kernel_rfl
  i212 := by kernel_rfl
  i232 := by kernel_rfl
  i233 := by kernel_rfl
  m17 := by kernel_rfl
  m18 := by kernel_rfl
  m19 := by kernel_rfl }
/-- the listed table of powers is there -/
def Pows (w : World) : Prop := Lib.TabIs Tryd.prog w "internal/strconv.uint64pow10" .u64 Lib.pow10Tab
theorem Pows.below {w w' : World} (h : Pows w) (hb : Below w.heap.size w w') : Pows w' := TabIs_below (g := 0) (by kernel_rfl) h hb
theorem below_grow {B : Nat} (w : World) (k : Nat) (os : Array Obj) (hB : B ≤ w.heap.size) : Below B w (Sort.grow (w.drewN k) os) := by
  refine ⟨rfl, rfl, rfl, ?_, fun i hi => ?_⟩
  · show w.heap.size ≤ (w.heap ++ os).size
    simp
  · show (w.heap ++ os)[i]? = w.heap[i]?
    exact Array.getElem?_append_left (by omega)
theorem itoa_any (n : Nat) (w : World) (hn : n ≤ 9223372036854775807) (hG : Pows w) :
    Calls Tryd.prog 44 #[.int .i64 n] w fun e w' => e = .returned (.string ⟨(Lib.decDigits n).toArray⟩) ∧ Below w.heap.size w w' := by
  refine (Any.strconv_Itoa itoaLays (n : Int) (by omega) (by omega) w hG).mono ?_
  rintro e w' ⟨rfl, k, os, rfl⟩
  exact ⟨by rw [Lib.itoa_nonneg], below_grow w k os (Nat.le_refl _)⟩
end Go.Proofs.YtefodifmfjpnlaaDoor
