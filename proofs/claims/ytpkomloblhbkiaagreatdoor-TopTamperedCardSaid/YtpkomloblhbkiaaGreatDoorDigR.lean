/- digest.Step: the region of the first sum of a round, cut out. -/
import Derived.Test.YtpkomloblhbkiaaGreatDoorDigA
set_option linter.unusedVariables false
/- digest.Step: the spec (plain). -/
namespace Go.Proofs.YtpkomloblhbkiaaGreatDoor
open Go.RowKit
/-- the words of chapter 2's rounds -/
def K64 : List Nat := [1116352408, 1899447441, 3049323471, 3921009573, 961987163, 1508970993, 2453635748, 2870763221, 3624381080, 310598401, 607225278, 1426881987, 1925078388, 2162078206, 2614888103, 3248222580, 3835390401, 4022224774, 264347078, 604807628, 770255983, 1249150122, 1555081692, 1996064986, 2554220882, 2821834349, 2952996808, 3210313671, 3336571891, 3584528711, 113926993, 338241895, 666307205, 773529912, 1294757372, 1396182291, 1695183700, 1986661051, 2177026350, 2456956037, 2730485921, 2820302411, 3259730800, 3345764771, 3516065817, 3600352804, 4094571909, 275423344, 430227734, 506948616, 659060556, 883997877, 958139571, 1322822218, 1537002063, 1747873779, 1955562222, 2024104815, 2227730452, 2361852424, 2428436474, 2756734187, 3204031479, 3329325298]
theorem K64_len : K64.length = 64 := by rfl
structure S8 where
  (a b c d e f g h : Nat)
def S8.list (s : S8) : List Nat := [s.a, s.b, s.c, s.d, s.e, s.f, s.g, s.h]
def S8.ok (s : S8) : Prop := words s.list
def pW (s : S8) (k w : Nat) : Nat := sumW [s.h, xorW [rotl s.e 26, rotl s.e 21, rotl s.e 7], xorW [s.e &&& s.f, (4294967295 - s.e) &&& s.g], k, w]
def qW (s : S8) : Nat := sumW [xorW [rotl s.a 30, rotl s.a 19, rotl s.a 10], xorW [s.a &&& s.b, s.a &&& s.c, s.b &&& s.c]]
def turnS (s : S8) (k w : Nat) : S8 := ⟨sumW [pW s k w, qW s], s.a, s.b, s.c, sumW [s.d, pW s k w], s.e, s.f, s.g⟩
/-- n rounds -/
def turnsTo (W : List Nat) (s : S8) : Nat → S8
  | 0 => s
  | n + 1 => turnS (turnsTo W s n) (K64.getD n 0) (W.getD n 0)
/-- the state with m of its words added -/
def addTo (s t : S8) (m : Nat) : List Nat := ((List.range 8).map fun i => if i < m then sumW [s.list.getD i 0, t.list.getD i 0] else t.list.getD i 0)
def stepS (s : S8) (block : ByteArray) : List Nat := addTo s (turnsTo (spreadW block) s 64) 8
theorem turnS_ok {s : S8} (h : s.ok) (k w : Nat) : (turnS s k w).ok := by
  intro n hn
  have hh : ∀ x ∈ s.list, x < 4294967296 := h
  simp only [S8.list, List.mem_cons, List.not_mem_nil, or_false, forall_eq_or_imp, forall_eq] at hh
  simp only [turnS, S8.list, List.mem_cons, List.not_mem_nil, or_false] at hn
  obtain ⟨h1, h2, h3, h4, h5, h6, h7, h8⟩ := hh
  rcases hn with rfl | rfl | rfl | rfl | rfl | rfl | rfl | rfl
  · exact sumW_lt _
  · exact h1
  · exact h2
  · exact h3
  · exact sumW_lt _
  · exact h5
  · exact h6
  · exact h7
theorem turnsTo_ok {s : S8} (h : s.ok) (W : List Nat) (n : Nat) : (turnsTo W s n).ok := by
  induction n with
  | zero => exact h
  | succ n ih => exact turnS_ok ih _ _
theorem addTo_len (s t : S8) (m : Nat) : (addTo s t m).length = 8 := by simp [addTo]
theorem list_len (t : S8) : t.list.length = 8 := rfl
theorem list_get (t : S8) {m : Nat} (hm : m < 8) : t.list[m]? = some (t.list.getD m 0) := by
  rw [List.getD_eq_getElem?_getD, List.getElem?_eq_getElem (by rw [list_len]; exact hm)]; rfl
theorem addTo_get (s t : S8) {m : Nat} (hm : m < 8) : (addTo s t m)[m]? = some (t.list.getD m 0) := by
  simp [addTo, hm]
theorem addTo_succ (s t : S8) {m : Nat} (hm : m < 8) : addTo s t (m + 1) = (addTo s t m).set m (sumW [s.list.getD m 0, t.list.getD m 0]) := by
  apply List.ext_getElem?
  intro j
  by_cases hj : j < 8
  · by_cases e : m = j
    · subst e
      rw [List.getElem?_set_self (by rw [addTo_len]; exact hj)]
      simp [addTo, hj]
    · rw [List.getElem?_set_ne e]
      simp only [addTo, List.getElem?_map, List.getElem?_range hj, Option.map_some]
      by_cases h : j < m
      · rw [if_pos h, if_pos (by omega)]
      · rw [if_neg h, if_neg (by omega)]
  · rw [List.getElem?_eq_none (by rw [addTo_len]; omega), List.getElem?_eq_none (by rw [List.length_set, addTo_len]; omega)]
theorem results_row_tmp {P : Program} {fn : Func} {p q : Tmp} {ty : TypeId} (h : fn.results = #[.cell p ty, .tmp q]) (tmps : Array Value) (w : World) (g : Nat) (t : TypeId) (cs : Array Value) (fr : Nat × Nat) (d : TypeDesc) (v : Value)
    (hp : tmps.getD p undef = .pointer (some ⟨g, 0, none⟩)) (hq : tmps.getD q undef = v) (hg : w.heap[g]? = some (.cells cs t fr))
    (hu : P.underlying ty = some d) (hd : (match d with | .struct _ | .array _ _ => true | _ => false) = true) (hi : (P.info? ty).map (·.size) = some cs.size) :
    (results fn tmps).run P w = .ok (.tuple #[.agg cs, v]) w := by
  have hp' : tmps[p]?.getD undef = .pointer (some ⟨g, 0, none⟩) := by simpa using hp
  have hq' : tmps[q]?.getD undef = v := by simpa using hq
  simp [results, h, hp', hq', asAddr, run_loadVar_row w g t ty cs fr d hg hu hd hi]
end Go.Proofs.YtpkomloblhbkiaaGreatDoor
/- Plain: the words of chapters 1 and 2, as the document tells them. -/
namespace Go.Proofs.YtpkomloblhbkiaaGreatDoor
open Go.RowKit
end Go.Proofs.YtpkomloblhbkiaaGreatDoor
/- Plain: the digest. -/
namespace Go.Proofs.YtpkomloblhbkiaaGreatDoor
open Go.RowKit
theorem stepS_len (s : S8) (b : ByteArray) : (stepS s b).length = 8 := by simp [stepS, addTo]
theorem stepS_words (s : S8) (b : ByteArray) : words (stepS s b) := by
  intro n hn
  rw [stepS, addTo] at hn
  obtain ⟨i, hi, rfl⟩ := List.mem_map.1 hn
  rw [if_pos (List.mem_range.1 hi)]
  exact sumW_lt _
def startL : List Nat := [1779033703, 3144134277, 1013904242, 2773480762, 1359893119, 2600822924, 528734635, 1541459225]
/-- the state behind one block -/
def stepL (L : List Nat) (b : ByteArray) : List Nat := stepS ⟨L.getD 0 0, L.getD 1 0, L.getD 2 0, L.getD 3 0, L.getD 4 0, L.getD 5 0, L.getD 6 0, L.getD 7 0⟩ b
/-- the state behind n blocks of s -/
def foldB (x : List Nat) (s : ByteArray) : Nat → List Nat
  | 0 => x
  | n + 1 => stepL (foldB x s n) (s.extract (64 * n) (64 * n + 64))
def State (L : List Nat) : Prop := L.length = 8 ∧ words L
theorem stepL_state (L : List Nat) (b : ByteArray) : State (stepL L b) := ⟨stepS_len _ _, stepS_words _ _⟩
theorem startL_state : State startL := ⟨rfl, by unfold words startL; decide⟩
theorem foldB_state {x : List Nat} (hx : State x) (s : ByteArray) (n : Nat) : State (foldB x s n) := by
  cases n with
  | zero => exact hx
  | succ n => exact stepL_state _ _
theorem extract_left {s t : ByteArray} {i j : Nat} (h : j ≤ s.size) : (s ++ t).extract i j = s.extract i j := by
  rw [ByteArray.extract_append, show j - s.size = 0 by omega]
  have : t.extract (i - s.size) 0 = ByteArray.empty := ByteArray.extract_eq_empty_iff.2 (by simp)
  rw [this, ByteArray.append_empty]
theorem extract_clip (s : ByteArray) (i j : Nat) : s.extract i (min j s.size) = s.extract i j := by
  rcases Nat.le_total j s.size with h | h
  · rw [Nat.min_eq_left h]
  · rw [Nat.min_eq_right h]
    apply ByteArray.ext
    rw [ByteArray.data_extract, ByteArray.data_extract]
    apply Array.ext'
    rw [Array.toList_extract, Array.toList_extract]
    have hs : s.data.toList.length = s.size := by simp
    rw [List.extract_eq_take_drop, List.extract_eq_take_drop, List.take_of_length_le (by first | (simp; done) | (simp; omega)), List.take_of_length_le (by first | (simp; done) | (simp; omega))]
/-- how many bytes 0 stand behind a text of n bytes and byte 128 -/
def padZ (n : Nat) : Nat := (64 - (n + 9) % 64) % 64
def padL (n k : Nat) : List UInt8 := (128 :: List.replicate (padZ n) 0) ++ (List.range k).map fun i => UInt8.ofNat (8 * n / 2 ^ (56 - 8 * i) % 256)
def padB (n : Nat) : ByteArray := ⟨(padL n 8).toArray⟩
theorem padB_size (n : Nat) : (padB n).size = padZ n + 9 := by
  show (padL n 8).toArray.size = _
  simp [padL]
theorem pad_whole (n : Nat) : (n + (padB n).size) % 64 = 0 := by rw [padB_size, padZ]; omega
theorem pad_bounds (n : Nat) : 9 ≤ (padB n).size ∧ (padB n).size ≤ 72 := by rw [padB_size, padZ]; omega
/-- the digest -/
def stateS (s : ByteArray) : List Nat := foldB startL (s ++ padB s.size) ((s.size + (padB s.size).size) / 64)
def sumS (s : ByteArray) : ByteArray := joinW (stateS s) true
theorem stateS_state (s : ByteArray) : State (stateS s) := foldB_state startL_state _ _
theorem sumS_size (s : ByteArray) : (sumS s).size = 32 := by rw [sumS, joinW_size, (stateS_state s).1]
end Go.Proofs.YtpkomloblhbkiaaGreatDoor
namespace Go.Proofs.YtpkomloblhbkiaaGreatDoor
open Go.RowKit
/-- the package's table of the rounds' words is there -/
def Rounds (w : World) : Prop := ∀ k x : Nat, K64[k]? = some x → w.cell? ⟨0, k, none⟩ = some (.int .i64 x)
theorem Rounds.pos {w : World} (h : Rounds w) : 0 < w.heap.size := World.block_lt_of_cell? w _ (h 0 1116352408 rfl)
theorem Rounds.below {B : Nat} {w w' : World} (h : Rounds w) (hb : Below B w w') (hB : 0 < B) : Rounds w' := fun k x hx => (hb.cell hB).trans (h k x hx)
theorem and2 (x y z : Nat) (w : World) (hx : x < 4294967296) (hy : y < 4294967296) (h : x &&& y = z) : Calls Tryz.prog 77 #[.int .i64 x, .int .i64 y] w fun e w' => e = .returned (.int .i64 z) ∧ w.alloc (.cells #[.int .i64 x, .int .i64 y] 3) = w' := by
  subst h; exact dand_any x y w hx hy
theorem and_get (x y : Nat) (hx : x < 4294967296) : ∃ z, x &&& y = z ∧ z < 4294967296 := ⟨_, rfl, Nat.lt_of_le_of_lt Nat.and_le_left hx⟩
theorem keepG {w w2 : World} {g : Nat} {t : TypeId} {T : Array Value} {n k : Nat} {v : Value} (hG : Rounds w2) (hk : K64[n]? = some k) (hT : Blk w2 g t T) (hv : T[n]? = some v) (hb : Below w2.heap.size w2 w) :
    w.cell? ⟨0, n, none⟩ = some (.int .i64 k) ∧ w.cell? ⟨g, n, none⟩ = some v :=
  ⟨(hG.below hb hG.pos) n k hk, ((hT.below hb hT.lt).cell n).trans hv⟩
theorem sub_get (e : Nat) (he : e < 4294967296) : ∃ y : Nat, 4294967295 - e = y ∧ y < 4294967296 ∧ (4294967295 : Int) - (e : Int) = (y : Int) ∧ IntKind.i64.wrap (y : Int) = (y : Int) :=
  ⟨_, rfl, by omega, by omega, wrap_i64_nat _ (by omega)⟩
theorem slr_newT {ty : TypeId} (L : List Nat) {W : World} {g B : Nat} (hW : Blk W g ty ((ints L).map (fun x => Value.int .i64 x)).toArray) (hB : g < B) : SlR encI 1 W B (some ⟨g, 0, none⟩) L.length (ints L) := by
  refine SlR.ofC (by simp [ints]) hB ?_
  intro k x hx j v hv
  have hj : j = 0 := by
    have := (List.getElem?_eq_some_iff.1 hv).1
    simp [encI] at this; omega
  subst hj
  simp [encI] at hv
  subst hv
  have := hW.cell k
  rw [Nat.mul_one, Nat.zero_add, Nat.add_zero, this]
  simp [hx]
def findRegion (n : Nat) : Code → Option Code
  | .region id ops d => if id = n then some (.region id ops d) else none
  | .loop c => findRegion n c
  | .seq a b => match findRegion n a with
    | some c => some c
    | none => findRegion n b
  | .block _ c => findRegion n c
  | .scope c => findRegion n c
  | .cond _ a b => match findRegion n a with
    | some c => some c
    | none => findRegion n b
  | _ => none
noncomputable def regU : Code := ((Tryz.f38.body.bind (findRegion 10)).getD .skip)
set_option maxHeartbeats 2000000 in
set_option maxRecDepth 100000 in
theorem turnU {Q : Exit → Act → World → Prop} {wr : World} (g6 n E F G H kk x e1 e2 e3 eX ne f1 f2 fX P : Nat) (T : Array Value)
    (v0 v1 v2 v3 v4 v5 v7 v9 v10 v11 v12 v17 v18 v19 v20 v21 v22 v23 v24 v25 v26 v27 v28 v29 v30 v31 v32 v33 v34 v35 v36 v37 v38 v39 v40 v41 v42 v43 v44 v45 v46 v47 v48 v49 v50 v51 v52 v53 v54 v55 v56 v57 v58 v59 v60 v61 v62 v63 v64 v65 v66 v67 v68 v69 v70 v71 v72 v73 v74 v75 v76 v77 v78 v79 v80 v81 v82 v83 v84 v85 v86 v87 v88 v89 v90 v91 v92 v93 v94 v95 v96 v97 v98 v99 v100 v101 v102 v103 v104 v105 v106 v107 v108 v109 v110 v111 v112 v113 v114 v115 v116 v117 v118 v119 v120 v121 v122 v123 v124 v125 v126 v127 v128 : Value)
    (hGr : Hid (Rounds wr)) (HK : Hid (K64[n]? = some kk)) (hT : Hid (Blk wr g6 142 T)) (hTx : Hid (T[n]? = some (.int .i64 x))) (hE : E < 4294967296) (hF : F < 4294967296) (hGg : G < 4294967296) (nel : ne < 4294967296)
    (hE1 : Hid (rotl E 26 = e1)) (hE2 : Hid (rotl E 21 = e2)) (hE3 : Hid (rotl E 7 = e3)) (hE4 : Hid (xorW [e1, e2, e3] = eX)) (hF1 : Hid (E &&& F = f1)) (hF2 : Hid (ne &&& G = f2)) (hF3 : Hid (xorW [f1, f2] = fX)) (hP : Hid (sumW [H, eX, fX, kk, x] = P))
    (hEw : Hid (words [e1, e2, e3])) (hFw : Hid (words [f1, f2])) (hPw : Hid (words [H, eX, fX, kk, x]))
    (hne2 : (4294967295 : Int) - (E : Int) = (ne : Int)) (hne3 : IntKind.i64.wrap (ne : Int) = (ne : Int)) (gk : wr.cell? ⟨0, n, none⟩ = some (.int .i64 kk)) (tx : wr.cell? ⟨g6, n, none⟩ = some (.int .i64 x)) (n0 : (0 : Int) ≤ n) (n1 : (n : Int) < 64)
    (hQ : ∀ (wy : World) (s51 s52 s53 s54 s55 s56 s57 s58 s59 s60 s61 s62 s63 s64 s65 s66 s67 s68 s69 s70 s71 s72 s73 s74 s75 : Value), Below wr.heap.size wr wy → Q .normal ⟨#[v0, v1, v2, v3, v4, v5, .pointer (some ⟨g6, 0, none⟩), v7, .int .i64 n, v9, v10, v11, v12, .int .i64 E, .int .i64 F, .int .i64 G, .int .i64 H, .int .i64 P, v18, v19, v20, v21, v22, v23, v24, v25, v26, v27, v28, v29, v30, v31, v32, v33, v34, v35, v36, v37, v38, v39, v40, v41, v42, v43, v44, v45, v46, v47, v48, v49, v50, s51, s52, s53, s54, s55, s56, s57, s58, s59, s60, s61, s62, s63, s64, s65, s66, s67, s68, s69, s70, s71, s72, s73, s74, s75, .int .i64 P, v77, v78, v79, v80, v81, v82, v83, v84, v85, v86, v87, v88, v89, v90, v91, v92, v93, v94, v95, v96, v97, v98, v99, v100, v101, v102, v103, v104, v105, v106, v107, v108, v109, v110, v111, v112, v113, v114, v115, v116, v117, v118, v119, v120, v121, v122, v123, v124, v125, v126, v127, v128], []⟩ (wy.alloc (.cells #[.int .i64 H, .int .i64 eX, .int .i64 fX, .int .i64 kk, .int .i64 x] 3))) :
    Code.wp Tryz.prog regU Q ⟨#[v0, v1, v2, v3, v4, v5, .pointer (some ⟨g6, 0, none⟩), v7, .int .i64 n, v9, v10, v11, v12, .int .i64 E, .int .i64 F, .int .i64 G, .int .i64 H, v17, v18, v19, v20, v21, v22, v23, v24, v25, v26, v27, v28, v29, v30, v31, v32, v33, v34, v35, v36, v37, v38, v39, v40, v41, v42, v43, v44, v45, v46, v47, v48, v49, v50, v51, v52, v53, v54, v55, v56, v57, v58, v59, v60, v61, v62, v63, v64, v65, v66, v67, v68, v69, v70, v71, v72, v73, v74, v75, v76, v77, v78, v79, v80, v81, v82, v83, v84, v85, v86, v87, v88, v89, v90, v91, v92, v93, v94, v95, v96, v97, v98, v99, v100, v101, v102, v103, v104, v105, v106, v107, v108, v109, v110, v111, v112, v113, v114, v115, v116, v117, v118, v119, v120, v121, v122, v123, v124, v125, v126, v127, v128], []⟩ wr := by
  have HQ := Lib.hid hQ
  clear hQ
  conv => arg 2; whnf
  go_region_held3 (fun w' => w'.cell? ⟨0, n, none⟩ = some (.int .i64 kk) ∧ w'.cell? ⟨g6, n, none⟩ = some (.int .i64 x))
    ((refine keepG (w2 := wr) hGr.out HK.out hT.out hTx.out ?_; go_grown))
    (first
      | (go_at_call 76; with_reducible refine (back6 E e1 _ hE hE1.out).mono ?_; rintro r w3 ⟨rfl, rfl⟩)
      | (go_at_call 76; with_reducible refine (back11 E e2 _ hE hE2.out).mono ?_; rintro r w3 ⟨rfl, rfl⟩)
      | (go_at_call 76; with_reducible refine (back25 E e3 _ hE hE3.out).mono ?_; rintro r w3 ⟨rfl, rfl⟩)
      | (go_at_call 75; (with_reducible show Calls _ _ #[Value.slice _ 3 3] _ _); with_reducible refine Calls.mono (xor3 e1 e2 e3 eX _ _ ?_ ?_ hEw.out hE4.out) ?_; (focus (simp; done)); (focus ((repeat' (first | (with_reducible refine blk_drew ?_) | (with_reducible refine Blk.new_at ?_ _ _) | (simp; done))); done)); rintro r wx ⟨rfl, hbx⟩; have hBx : Below wr.heap.size wr wx := Below.trans (by go_grown) (hbx.mono (by simp; omega)); clear hbx; have hsx := hBx.size)
      | (go_at_call 77; with_reducible refine (and2 E F f1 _ hE hF hF1.out).mono ?_; rintro r w3 ⟨rfl, rfl⟩)
      | (go_at_call 77; with_reducible refine (and2 ne G f2 _ nel hGg hF2.out).mono ?_; rintro r w3 ⟨rfl, rfl⟩)
      | (go_at_call 75; (with_reducible show Calls _ _ #[Value.slice _ 2 2] _ _); with_reducible refine Calls.mono (xor2 f1 f2 fX _ _ ?_ ?_ hFw.out hF3.out) ?_; (focus (simp; done)); (focus ((repeat' (first | (with_reducible refine blk_drew ?_) | (with_reducible refine Blk.new_at ?_ _ _) | (simp; done))); done)); rintro r wy ⟨rfl, hby⟩; have hBy : Below wr.heap.size wr wy := Below.trans (Below.trans hBx (by go_grown)) (hby.mono (by simp; omega)); clear hby; have hsy := hBy.size)
      | (go_at_call 74; with_reducible refine Calls.mono (add5 H eX fX kk x P _ _ ?_ ?_ hPw.out hP.out) ?_; (focus (simp; done)); (focus ((repeat' (first | (with_reducible refine blk_drew ?_) | (with_reducible refine Blk.new_at ?_ _ _) | (simp; done))); done)); rintro r w3 ⟨rfl, rfl⟩))
  exact HQ.out wy _ _ _ _ _ _ _ _ _ _ _ _ _ _ _ _ _ _ _ _ _ _ _ _ _ hBy
noncomputable def regV : Code := ((Tryz.f38.body.bind (findRegion 11)).getD .skip)
set_option maxHeartbeats 2000000 in
set_option maxRecDepth 100000 in
theorem turnV {R : Exit → Act → World → Prop} {wr : World} (A B C a1 a2 a3 aX m1 m2 m3 mX Q : Nat)
    (v0 v1 v2 v3 v4 v5 v6 v7 v8 v12 v13 v14 v15 v16 v17 v18 v19 v20 v21 v22 v23 v24 v25 v26 v27 v28 v29 v30 v31 v32 v33 v34 v35 v36 v37 v38 v39 v40 v41 v42 v43 v44 v45 v46 v47 v48 v49 v50 v51 v52 v53 v54 v55 v56 v57 v58 v59 v60 v61 v62 v63 v64 v65 v66 v67 v68 v69 v70 v71 v72 v73 v74 v75 v76 v77 v78 v79 v80 v81 v82 v83 v84 v85 v86 v87 v88 v89 v90 v91 v92 v93 v94 v95 v96 v97 v98 v99 v100 v101 v102 v103 v104 v105 v106 v107 v108 v109 v110 v111 v112 v113 v114 v115 v116 v117 v118 v119 v120 v121 v122 v123 v124 v125 v126 v127 v128 : Value)
    (hA : A < 4294967296) (hB : B < 4294967296) (hC : C < 4294967296)
    (HA : Hid (rotl A 30 = a1 ∧ rotl A 19 = a2 ∧ rotl A 10 = a3 ∧ xorW [a1, a2, a3] = aX)) (HM : Hid (A &&& B = m1 ∧ A &&& C = m2 ∧ B &&& C = m3 ∧ xorW [m1, m2, m3] = mX)) (HQ : Hid (sumW [aX, mX] = Q))
    (HAw : Hid (words [a1, a2, a3])) (HMw : Hid (words [m1, m2, m3])) (HQw : Hid (words [aX, mX]))
    (hR : ∀ (wv : World) (s77 s78 s79 s80 s81 s82 s83 s84 s85 s86 s87 s88 s89 s90 s91 s92 s93 s94 s95 s96 : Value), Below wr.heap.size wr wv → R .normal ⟨#[v0, v1, v2, v3, v4, v5, v6, v7, v8, .int .i64 A, .int .i64 B, .int .i64 C, v12, v13, v14, v15, v16, v17, .int .i64 Q, v19, v20, v21, v22, v23, v24, v25, v26, v27, v28, v29, v30, v31, v32, v33, v34, v35, v36, v37, v38, v39, v40, v41, v42, v43, v44, v45, v46, v47, v48, v49, v50, v51, v52, v53, v54, v55, v56, v57, v58, v59, v60, v61, v62, v63, v64, v65, v66, v67, v68, v69, v70, v71, v72, v73, v74, v75, v76, s77, s78, s79, s80, s81, s82, s83, s84, s85, s86, s87, s88, s89, s90, s91, s92, s93, s94, s95, s96, .int .i64 Q, v98, v99, v100, v101, v102, v103, v104, v105, v106, v107, v108, v109, v110, v111, v112, v113, v114, v115, v116, v117, v118, v119, v120, v121, v122, v123, v124, v125, v126, v127, v128], []⟩ (wv.alloc (.cells #[.int .i64 aX, .int .i64 mX] 3))) :
    Code.wp Tryz.prog regV R ⟨#[v0, v1, v2, v3, v4, v5, v6, v7, v8, .int .i64 A, .int .i64 B, .int .i64 C, v12, v13, v14, v15, v16, v17, v18, v19, v20, v21, v22, v23, v24, v25, v26, v27, v28, v29, v30, v31, v32, v33, v34, v35, v36, v37, v38, v39, v40, v41, v42, v43, v44, v45, v46, v47, v48, v49, v50, v51, v52, v53, v54, v55, v56, v57, v58, v59, v60, v61, v62, v63, v64, v65, v66, v67, v68, v69, v70, v71, v72, v73, v74, v75, v76, v77, v78, v79, v80, v81, v82, v83, v84, v85, v86, v87, v88, v89, v90, v91, v92, v93, v94, v95, v96, v97, v98, v99, v100, v101, v102, v103, v104, v105, v106, v107, v108, v109, v110, v111, v112, v113, v114, v115, v116, v117, v118, v119, v120, v121, v122, v123, v124, v125, v126, v127, v128], []⟩ wr := by
  have HR := Lib.hid hR
  clear hR
  conv => arg 2; whnf
  go_wp2_with fail
  refine (back2 A a1 _ hA HA.out.1).mono ?_; rintro r w3 ⟨rfl, rfl⟩
  go_wp2_with fail
  refine (back13 A a2 _ hA HA.out.2.1).mono ?_; rintro r w3 ⟨rfl, rfl⟩
  go_wp2_with fail
  refine (back22 A a3 _ hA HA.out.2.2.1).mono ?_; rintro r w3 ⟨rfl, rfl⟩
  go_wp2_with fail
  refine Calls.mono (xor3 a1 a2 a3 aX _ _ ?_ ?_ HAw.out HA.out.2.2.2) ?_; (focus (simp; done)); (focus ((repeat' (first | (with_reducible refine blk_drew ?_) | (with_reducible refine Blk.new_at ?_ _ _) | (simp; done))); done)); rintro r wz ⟨rfl, hbz⟩
  have hBz : Below wr.heap.size wr wz := Below.trans (by go_grown) (hbz.mono (by simp; omega))
  have hsz' := hBz.size
  clear hbz
  go_wp2_with fail
  refine (and2 A B m1 _ hA hB HM.out.1).mono ?_; rintro r w3 ⟨rfl, rfl⟩
  go_wp2_with fail
  refine (and2 A C m2 _ hA hC HM.out.2.1).mono ?_; rintro r w3 ⟨rfl, rfl⟩
  go_wp2_with fail
  refine (and2 B C m3 _ hB hC HM.out.2.2.1).mono ?_; rintro r w3 ⟨rfl, rfl⟩
  go_wp2_with fail
  refine Calls.mono (xor3 m1 m2 m3 mX _ _ ?_ ?_ HMw.out HM.out.2.2.2) ?_; (focus (simp; done)); (focus ((repeat' (first | (with_reducible refine blk_drew ?_) | (with_reducible refine Blk.new_at ?_ _ _) | (simp; done))); done)); rintro r wv ⟨rfl, hbv⟩
  have hBv : Below wr.heap.size wr wv := Below.trans (Below.trans hBz (by go_grown)) (hbv.mono (by simp; omega))
  clear hbv
  go_wp2_with fail
  refine Calls.mono (add2 aX mX Q _ _ ?_ ?_ HQw.out HQ.out) ?_; (focus (simp; done)); (focus ((repeat' (first | (with_reducible refine blk_drew ?_) | (with_reducible refine Blk.new_at ?_ _ _) | (simp; done))); done)); rintro r w3 ⟨rfl, rfl⟩
  go_wp2_with fail
  exact HR.out wv _ _ _ _ _ _ _ _ _ _ _ _ _ _ _ _ _ _ _ _ hBv
noncomputable def regW : Code := ((Tryz.f38.body.bind (findRegion 12)).getD .skip)
set_option maxHeartbeats 2000000 in
set_option maxRecDepth 100000 in
theorem turnW {R : Exit → Act → World → Prop} {wr : World} (g7 A B C D E F G H P Q U V : Nat)
    (v0 v1 v2 v3 v4 v5 v6 v8 v16 v19 v20 v21 v22 v23 v24 v25 v26 v27 v28 v29 v30 v31 v32 v33 v34 v35 v36 v37 v38 v39 v40 v41 v42 v43 v44 v45 v46 v47 v48 v49 v50 v51 v52 v53 v54 v55 v56 v57 v58 v59 v60 v61 v62 v63 v64 v65 v66 v67 v68 v69 v70 v71 v72 v73 v74 v75 v76 v77 v78 v79 v80 v81 v82 v83 v84 v85 v86 v87 v88 v89 v90 v91 v92 v93 v94 v95 v96 v97 v98 v99 v100 v101 v102 v103 v104 v105 v106 v107 v108 v109 v110 v111 v112 v113 v114 v115 v116 v117 v118 v119 v120 v121 v122 v123 v124 v125 v126 v127 v128 : Value)
    (HQ : Hid (sumW [P, Q] = U ∧ sumW [D, P] = V)) (HQw : Hid (words [P, Q] ∧ words [D, P]))
    (HV : Hid (Blk wr g7 90 #[.int .i64 A, .int .i64 B, .int .i64 C, .int .i64 D, .int .i64 E, .int .i64 F, .int .i64 G, .int .i64 H]))
    (hR : ∀ (s98 s99 s100 s101 s102 s103 s104 s105 s106 s107 s108 s109 s110 s111 s112 : Value), R .normal ⟨#[v0, v1, v2, v3, v4, v5, v6, .pointer (some ⟨g7, 0, none⟩), v8, .int .i64 A, .int .i64 B, .int .i64 C, .int .i64 D, .int .i64 E, .int .i64 F, .int .i64 G, v16, .int .i64 P, .int .i64 Q, v19, v20, v21, v22, v23, v24, v25, v26, v27, v28, v29, v30, v31, v32, v33, v34, v35, v36, v37, v38, v39, v40, v41, v42, v43, v44, v45, v46, v47, v48, v49, v50, v51, v52, v53, v54, v55, v56, v57, v58, v59, v60, v61, v62, v63, v64, v65, v66, v67, v68, v69, v70, v71, v72, v73, v74, v75, v76, v77, v78, v79, v80, v81, v82, v83, v84, v85, v86, v87, v88, v89, v90, v91, v92, v93, v94, v95, v96, v97, s98, s99, s100, s101, s102, s103, s104, s105, s106, s107, s108, s109, s110, s111, s112, v113, v114, v115, v116, v117, v118, v119, v120, v121, v122, v123, v124, v125, v126, v127, v128], []⟩ (((wr.alloc (.cells #[.int .i64 P, .int .i64 Q] 3)).alloc (.cells #[.int .i64 D, .int .i64 P] 3)).setRow g7 #[.int .i64 U, .int .i64 A, .int .i64 B, .int .i64 C, .int .i64 V, .int .i64 E, .int .i64 F, .int .i64 G])) :
    Code.wp Tryz.prog regW R ⟨#[v0, v1, v2, v3, v4, v5, v6, .pointer (some ⟨g7, 0, none⟩), v8, .int .i64 A, .int .i64 B, .int .i64 C, .int .i64 D, .int .i64 E, .int .i64 F, .int .i64 G, v16, .int .i64 P, .int .i64 Q, v19, v20, v21, v22, v23, v24, v25, v26, v27, v28, v29, v30, v31, v32, v33, v34, v35, v36, v37, v38, v39, v40, v41, v42, v43, v44, v45, v46, v47, v48, v49, v50, v51, v52, v53, v54, v55, v56, v57, v58, v59, v60, v61, v62, v63, v64, v65, v66, v67, v68, v69, v70, v71, v72, v73, v74, v75, v76, v77, v78, v79, v80, v81, v82, v83, v84, v85, v86, v87, v88, v89, v90, v91, v92, v93, v94, v95, v96, v97, v98, v99, v100, v101, v102, v103, v104, v105, v106, v107, v108, v109, v110, v111, v112, v113, v114, v115, v116, v117, v118, v119, v120, v121, v122, v123, v124, v125, v126, v127, v128], []⟩ wr := by
  have HR := Lib.hid hR
  clear hR
  conv => arg 2; whnf
  go_wp2_with fail
  refine Calls.mono (add2 P Q U _ _ ?_ ?_ HQw.out.1 HQ.out.1) ?_; (focus (simp; done)); (focus ((repeat' (first | (with_reducible refine blk_drew ?_) | (with_reducible refine Blk.new_at ?_ _ _) | (simp; done))); done)); rintro r w3 ⟨rfl, rfl⟩
  go_wp2_with fail
  refine Calls.mono (add2 D P V _ _ ?_ ?_ HQw.out.2 HQ.out.2) ?_; (focus (simp; done)); (focus ((repeat' (first | (with_reducible refine blk_drew ?_) | (with_reducible refine Blk.new_at ?_ _ _) | (simp; done))); done)); rintro r w3 ⟨rfl, rfl⟩
  go_wp2_with (refine wpList_store_row rfl 90 (.tmp 7) (.tmp 112) rfl g7 #[.int .i64 U, .int .i64 A, .int .i64 B, .int .i64 C, .int .i64 V, .int .i64 E, .int .i64 F, .int .i64 G] rfl rfl 90 #[.int .i64 A, .int .i64 B, .int .i64 C, .int .i64 D, .int .i64 E, .int .i64 F, .int .i64 G, .int .i64 H] ((HV.out.alloc _).alloc _) (by kernel_rfl) (by rfl) (by simp [Value.oneCell']) ?_)
  exact HR.out _ _ _ _ _ _ _ _ _ _ _ _ _ _ _
end Go.Proofs.YtpkomloblhbkiaaGreatDoor
