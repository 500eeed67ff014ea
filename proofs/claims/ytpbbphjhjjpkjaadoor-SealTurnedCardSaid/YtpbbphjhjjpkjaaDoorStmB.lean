/- stream: first. -/
import Derived.Test.YtpbbphjhjjpkjaaDoorStmA
import Derived.Laws.CopyOwn
import Derived.Deep.WholeRow
import Derived.Deep.MidRow
import Derived.Great.BuildSlice
set_option linter.unusedVariables false
namespace Go.Proofs.YtpbbphjhjjpkjaaDoor
open Go.RowKit
theorem w16_info : (Tryd.prog.info? 35).map (fun i => (i.zero, i.size)) = some (some (.agg (List.replicate 16 (Value.int .i64 0)).toArray), 16) := by kernel_rfl
def vec (L : List Nat) : Array Value := ((ints L).map vI).toArray
theorem vec_size (L : List Nat) : (vec L).size = L.length := by simp [vec, ints]
theorem vec_one (L : List Nat) : (vec L).all (·.oneCell') = true := all_oneCell_toArray fun v hv => by
  obtain ⟨x, _, rfl⟩ := List.mem_map.1 hv
  rfl
theorem vec_src {w : World} {g : Nat} {t : TypeId} {l : List Nat} (h : Row vI w g t (ints l)) {j : Nat} {v : Value} (hv : ((ints l).map vI)[j]? = some v) : w.cell? ⟨g, j, none⟩ = some v := by
  rw [Blk.cell h]; simpa using hv
theorem vec_mem {l : List Nat} {v : Value} (hv : v ∈ (ints l).map vI) : v.oneCell' = true := by
  obtain ⟨x, _, rfl⟩ := List.mem_map.1 hv
  rfl
theorem cutL_len (s : ByteArray) : (cutW s false).length = s.size / 4 := cutTo_len s false s.size
def head4 : List Nat := [1634760805, 857760878, 2036477234, 1797285236]
theorem first_eq {key nonce : ByteArray} {n : Nat} {K N : List Nat} (hK : cutW key false = K) (hN : cutW nonce false = N) (hk : K.length = 8) (hn : N.length = 3) :
    (splice ((splice (vec (head4 ++ List.replicate 12 0)).toList 4 ((ints K).map vI)).set 12 (vI n)) 13 ((ints N).map vI)).toArray = vec (firstL key nonce n) := by
  unfold vec firstL
  rw [hK, hN]
  congr 1
  obtain ⟨k0, k1, k2, k3, k4, k5, k6, k7, rfl⟩ : ∃ a b c d e f g h, K = [a, b, c, d, e, f, g, h] := by
    match K, hk with
    | [a, b, c, d, e, f, g, h], _ => exact ⟨a, b, c, d, e, f, g, h, rfl⟩
  obtain ⟨n0, n1, n2, rfl⟩ : ∃ a b c, N = [a, b, c] := by
    match N, hn with
    | [a, b, c], _ => exact ⟨a, b, c, rfl⟩
  simp [head4, ints, splice, vI]
set_option maxRecDepth 100000 in
set_option maxHeartbeats 800000 in
theorem first_good (key nonce : ByteArray) (n : Nat) (w : World) (hk : key.size = 32) (hn : nonce.size = 12) (hw : n < 4294967296) :
    Calls Tryd.prog 15 #[.string key, .string nonce, .int .i64 n] w fun e w' => e = .returned (.tuple #[.agg (vec (firstL key nonce n)), .bool true]) ∧ Below w.heap.size w w' := by
  obtain ⟨V, hVe⟩ : ∃ V, vec (firstL key nonce n) = V := ⟨_, rfl⟩
  have hVs : V.size = 16 := by rw [← hVe, vec_size, firstL_len n hk hn]
  have hVo : V.all (·.oneCell') = true := by rw [← hVe]; exact vec_one _
  rw [hVe]
  have HV := Lib.hid (And.intro hVs (And.intro hVo hVe))
  clear hVs hVo hVe
  have HK := Lib.hid hk
  have HN := Lib.hid hn
  have HW := Lib.hid (words_is (L := [n]) (by intro x hx; simp at hx; omega))
  have t1 : ((key.size : Int) != 32) = false := by simp; omega
  have t2 : ((nonce.size : Int) != 12) = false := by simp; omega
  obtain ⟨hz, hisz⟩ := zero_of_info w16_info
  obtain ⟨Z, hZ⟩ : ∃ Z : Array Value, (List.replicate 16 (Value.int .i64 0)).toArray = Z := ⟨_, rfl⟩
  rw [hZ] at hz
  have HZ := Lib.hid hZ
  have HI := Lib.hid hisz
  obtain ⟨S0, hS0⟩ : ∃ S, vec (head4 ++ List.replicate 12 0) = S := ⟨_, rfl⟩
  have hS0s : S0.size = 16 := by rw [← hS0]; rfl
  have hS0o : S0.all (·.oneCell') = true := by rw [← hS0]; exact vec_one _
  have HS0 := Lib.hid (And.intro hS0 (And.intro hS0s hS0o))
  have hZs : Z.size = 16 := by rw [← hZ, List.size_toArray, List.length_replicate]
  have HZs := Lib.hid hZs
  have HB : Hid (Tryd.prog.built 35 [(0, .int .i64 1634760805), (1, .int .i64 857760878), (2, .int .i64 2036477234), (3, .int .i64 1797285236)] = some S0) := Lib.hid (by rw [← hS0]; kernel_rfl)
  clear hZ hisz hS0 hS0s hS0o hZs hk hn
  go_enter Tryd.func15, Tryd.ntmps15
  go_wp2_with fail
  refine (is_any (ints [n]) (some ⟨w.heap.size + 1, 0, none⟩) 1 1 _ (slr_new w [n] (Blk.new_at (by simp) _ _) (by simp)) (by omega)).mono ?_
  rintro e w1 ⟨rfl, hw1⟩
  rw [HW.out]
  have hX1 : Hid (Blk w1 w.heap.size 35 Z) := Lib.hid (by rw [← hw1]; exact (Blk.new w _ _).alloc _)
  have hB1 : Hid (Below w.heap.size w w1) := Lib.hid (by rw [← hw1]; go_grown)
  have hl1 := hX1.out.lt
  clear hw1
  go_wp2_with (first
    | (refine wpList_buildTo rfl 35 #[(0, .const (.int .i64 1634760805)), (1, .const (.int .i64 857760878)), (2, .const (.int .i64 2036477234)), (3, .const (.int .i64 1797285236))] rfl (some 28) rfl S0 (by simp only [List.map_toArray, List.map_cons, List.map_nil]; exact HB.out) ?_)
    | (refine wpList_store_rowTo rfl 35 (.tmp 8) (.tmp 28) rfl rfl w1.heap.size S0 rfl rfl 35 Z (Blk.new _ _ _) (by rw [HS0.out.2.1]; exact HI.out) (by rw [HS0.out.2.1, HZs.out]) HS0.out.2.2 ?_; rw [World.setRow_alloc_new]))
  refine (cut_low key _ (by rw [HK.out]) (by rw [HK.out]; omega)).mono ?_
  rintro e w2 ⟨g, rfl, hR2, hg2, hb2⟩
  obtain ⟨K, hKe⟩ : ∃ K, cutW key false = K := ⟨_, rfl⟩
  have hKl : K.length = 8 := by rw [← hKe, cutL_len, HK.out]
  rw [hKe] at hR2
  have e8 : key.size / 4 = 8 := by rw [HK.out]
  rw [e8]
  have hX2 := (hX1.out.alloc (.cells S0 35)).below hb2 (by simp; omega)
  have hT2 := (Blk.new w1 35 S0).below hb2 (by simp)
  have hB2 : Below w.heap.size w w2 := Below.trans (hB1.out.alloc hB1.out.size _) (hb2.mono (by simp; omega))
  have hgl := hR2.lt
  have hgw : w1.heap.size + 1 ≤ g := by simpa using hg2
  have HKe := Lib.hid (And.intro hKe hKl)
  have HR2 := Lib.hid hR2
  have HX2 := Lib.hid hX2
  have HT2 := Lib.hid hT2
  have HB2 := Lib.hid hB2
  have hz2 : w1.heap.size < w2.heap.size := hT2.lt
  clear hb2 hg2 hR2 hKe hKl e8 hX2 hT2 hB2 hX1 hB1
  have HS0l : Hid (S0.toList.length = 16) := Lib.hid (by rw [Array.length_toList]; exact HS0.out.2.1)
  go_wp2_with (refine wpList_copy_splice rfl (.tmp 34) (.tmp 35) 42 42 rfl 3 Tryd.underlying42 (by kernel_rfl) (some ⟨w1.heap.size, 4, none⟩) (some ⟨g, 0, none⟩) 8 12 8 8 rfl rfl w1.heap.size 4 S0.toList 35 (by rw [Array.toArray_toList]; exact HT2.out) ((ints K).map vI) (by simp [ints, HKe.out.2]) (fun _ => ⟨rfl, _, rfl, fun j v hv => by rw [Addr.add_lit, Nat.zero_add]; exact vec_src HR2.out hv⟩) (by rw [HS0l.out]; simp [ints, HKe.out.2]) (fun v hv => vec_mem hv) w1.heap.size w2 (by go_grown) (by omega) ?_; intro w3 hr3 hb3; refine Hid.out ?_)
  obtain ⟨L3, hL3⟩ : ∃ L, splice S0.toList 4 ((ints K).map vI) = L := ⟨_, rfl⟩
  rw [hL3] at hr3
  have hl3 : L3.length = 16 := by rw [← hL3, length_splice _ _ _ (by rw [HS0l.out]; simp [ints, HKe.out.2]), HS0l.out]
  have hT3 : Blk w3 w1.heap.size 35 L3.toArray := hr3.out
  obtain ⟨x12, hx12⟩ : ∃ x, L3[12]? = some x := ⟨_, List.getElem?_eq_getElem (by omega)⟩
  have c3 : w3.cell? ⟨w1.heap.size, 12, none⟩ = some x12 := by rw [hT3.cell]; simpa using hx12
  clear hx12
  have f3 := hT3.frozen 12
  have hT4 := hT3.set_ 12 (vI n)
  have hX3 := HX2.out.below hb3 hl1
  have hX4 := hX3.far (p := ⟨w1.heap.size, 12, none⟩) (by simp; omega) (vI n)
  have hB4 : Below w.heap.size w (w3.setCell ⟨w1.heap.size, 12, none⟩ (vI n)) := (HB2.out.trans (hb3.mono (by omega))).setCell (by simp; omega) _
  have hz4 : w1.heap.size < (w3.setCell ⟨w1.heap.size, 12, none⟩ (vI n)).heap.size := hT4.lt
  have hL4 : (L3.toArray.setIfInBounds 12 (vI n)) = (L3.set 12 (vI n)).toArray := by simp
  rw [hL4] at hT4
  have HT4 := Lib.hid hT4
  have HX4 := Lib.hid hX4
  have HB4 := Lib.hid hB4
  have HL3 := Lib.hid (And.intro hL3 hl3)
  clear hr3 hb3 hT3 hT4 hX3 hX4 hB4 hL3 hl3 hL4 HT2 HX2 HB2 HR2
  generalize hw4 : w3.setCell ⟨w1.heap.size, 12, none⟩ (vI n) = w4 at HT4 HX4 HB4 hz4
  refine Lib.hid ?_
  unfold vI at hw4
  go_wp2_with fail
  clear hw4 c3 f3
  refine (cut_low nonce _ (by rw [HN.out]) (by rw [HN.out]; omega)).mono ?_
  rintro e w5 ⟨g2, rfl, hR5, hg5, hb5⟩
  obtain ⟨N, hNe⟩ : ∃ N, cutW nonce false = N := ⟨_, rfl⟩
  have hNl : N.length = 3 := by rw [← hNe, cutL_len, HN.out]
  rw [hNe] at hR5
  have e3 : nonce.size / 4 = 3 := by rw [HN.out]
  rw [e3]
  have hT5 := HT4.out.below hb5 hz4
  have hX5 := HX4.out.below hb5 (by omega)
  have hB5 := HB4.out.trans (hb5.mono HB4.out.size)
  have hgl2 := hR5.lt
  have hz5 : w1.heap.size < w5.heap.size := hT5.lt
  have HNe := Lib.hid (And.intro hNe hNl)
  have HR5 := Lib.hid hR5
  have HX5 := Lib.hid hX5
  have HT5 := Lib.hid hT5
  have HB5 := Lib.hid hB5
  have HL4 : Hid ((L3.set 12 (vI n)).length = 16) := Lib.hid (by rw [List.length_set]; exact HL3.out.2)
  clear hb5 hg5 hR5 hNe hNl e3 hX5 hT5 hB5 HX4 HT4 HB4
  go_wp2_with (refine wpList_copy_splice rfl (.tmp 44) (.tmp 45) 42 42 rfl 3 Tryd.underlying42 (by kernel_rfl) (some ⟨w1.heap.size, 13, none⟩) (some ⟨g2, 0, none⟩) 3 3 3 3 rfl rfl w1.heap.size 13 (L3.set 12 (vI n)) 35 HT5.out ((ints N).map vI) (by simp [ints, HNe.out.2]) (fun _ => ⟨rfl, _, rfl, fun j v hv => by rw [Addr.add_lit, Nat.zero_add]; exact vec_src HR5.out hv⟩) (by rw [HL4.out]; simp [ints, HNe.out.2]) (fun v hv => vec_mem hv) w1.heap.size w5 (by go_grown) (by omega) ?_; intro w6 hr6 hb6; refine Hid.out ?_)
  have hV : (splice (L3.set 12 (vI n)) 13 ((ints N).map vI)).toArray = vec (firstL key nonce n) := by
    rw [← HL3.out.1, ← HS0.out.1]
    exact first_eq HKe.out.1 HNe.out.1 HKe.out.2 HNe.out.2
  rw [hV, HV.out.2.2] at hr6
  have hX6 := HX5.out.below hb6 hl1
  have hB6 : Below w.heap.size w w6 := HB5.out.trans (hb6.mono (by omega))
  have HT6 : Hid (Blk w6 w1.heap.size 35 V) := hr6
  have HX6 := Lib.hid hX6
  have HB6 := Lib.hid hB6
  clear hr6 hb6 hV hX6 hB6 HR5 HT5 HX5 HB5
  refine Lib.hid ?_
  go_wp2_with (first
    | (refine wpList_load_row rfl 35 (.tmp 8) rfl w1.heap.size rfl 35 V (0, 0) (.array 16 3) HT6.out (by kernel_rfl) rfl (by rw [HV.out.1]; exact HI.out) ?_)
    | (refine wpList_store_rowTo rfl 35 (.tmp 6) (.tmp 47) rfl rfl w.heap.size V rfl rfl 35 Z HX6.out (by rw [HV.out.1]; exact HI.out) (by rw [HV.out.1, HZs.out]) HV.out.2.1 ?_)
    | (with_reducible refine end_at ?_))
  have hE : Blk (w6.setRow w.heap.size V) w.heap.size 35 V := setRow_heap w6 w.heap.size _ _ _ _ HX6.out
  have hld := run_loadVar_row (P := Tryd.prog) (w6.setRow w.heap.size V) w.heap.size 35 35 V (0, 0) (.array 16 3) hE (by kernel_rfl) rfl (by rw [HV.out.1]; exact HI.out)
  refine end_ret (v := .tuple #[.agg V, .bool true]) (by simp [results, Tryd.results15, asAddr, hld]) rfl ⟨rfl, below_setRow HB6.out (Nat.le_refl _) _⟩
def zero16 : Array Value := (List.replicate 16 (Value.int .i64 0)).toArray
set_option maxRecDepth 100000 in
set_option maxHeartbeats 800000 in
theorem first_bad (key nonce : ByteArray) (n : Nat) (w : World) (h : key.size ≠ 32 ∨ nonce.size ≠ 12) (hw : n < 4294967296) :
    Calls Tryd.prog 15 #[.string key, .string nonce, .int .i64 n] w fun e w' => e = .returned (.tuple #[.agg zero16, .bool false]) ∧ Below w.heap.size w w' := by
  obtain ⟨hz, hisz⟩ := zero_of_info w16_info
  obtain ⟨Z, hZ⟩ : ∃ Z : Array Value, (List.replicate 16 (Value.int .i64 0)).toArray = Z := ⟨_, rfl⟩
  have hZ2 : zero16 = Z := hZ
  have hZo : Z.all (·.oneCell') = true := by
    rw [← hZ]
    exact all_oneCell_toArray fun v hv => by rw [List.eq_of_mem_replicate hv]; rfl
  have HB : Hid (Tryd.prog.built 35 [] = some Z) := Lib.hid (by rw [← hZ]; kernel_rfl)
  rw [hZ] at hz
  rw [hZ2]
  have hZs : Z.size = 16 := by rw [← hZ, List.size_toArray, List.length_replicate]
  have HZs := Lib.hid (And.intro hZs hZo)
  have HI := Lib.hid hisz
  clear hZ hZ2 hZo hZs hisz
  by_cases hk : key.size = 32
  · have hn := h.resolve_left (by simpa using hk)
    have t1 : ((key.size : Int) != 32) = false := by simp; omega
    have t2 : ((nonce.size : Int) != 12) = true := by simp; omega
    clear h hk hn
    go_enter Tryd.func15, Tryd.ntmps15
    go_wp2_with (first
      | (refine wpList_buildTo rfl 35 #[] rfl (some 27) rfl Z (by simp only [List.map_toArray, List.map_nil]; exact HB.out) ?_)
      | (refine wpList_store_rowTo rfl 35 (.tmp 6) (.tmp 27) rfl rfl w.heap.size Z rfl rfl 35 Z (Blk.new _ _ _) (by rw [HZs.out.1]; exact HI.out) rfl HZs.out.2 ?_; rw [World.setRow_alloc_new])
      | (with_reducible refine end_at ?_))
    have hld := run_loadVar_row (P := Tryd.prog) (w.alloc (.cells Z 35)) w.heap.size 35 35 Z (0, 0) (.array 16 3) (Blk.new _ _ _) (by kernel_rfl) rfl (by rw [HZs.out.1]; exact HI.out)
    refine end_ret (v := .tuple #[.agg Z, .bool false]) (by simp [results, Tryd.results15, asAddr, hld]) rfl ⟨rfl, by go_grown⟩
  · have t1 : ((key.size : Int) != 32) = true := by simp; omega
    clear h hk
    go_enter Tryd.func15, Tryd.ntmps15
    go_wp2_with (first
      | (refine wpList_buildTo rfl 35 #[] rfl (some 27) rfl Z (by simp only [List.map_toArray, List.map_nil]; exact HB.out) ?_)
      | (refine wpList_store_rowTo rfl 35 (.tmp 6) (.tmp 27) rfl rfl w.heap.size Z rfl rfl 35 Z (Blk.new _ _ _) (by rw [HZs.out.1]; exact HI.out) rfl HZs.out.2 ?_; rw [World.setRow_alloc_new])
      | (with_reducible refine end_at ?_))
    have hld := run_loadVar_row (P := Tryd.prog) (w.alloc (.cells Z 35)) w.heap.size 35 35 Z (0, 0) (.array 16 3) (Blk.new _ _ _) (by kernel_rfl) rfl (by rw [HZs.out.1]; exact HI.out)
    refine end_ret (v := .tuple #[.agg Z, .bool false]) (by simp [results, Tryd.results15, asAddr, hld]) rfl ⟨rfl, by go_grown⟩
end Go.Proofs.YtpbbphjhjjpkjaaDoor
