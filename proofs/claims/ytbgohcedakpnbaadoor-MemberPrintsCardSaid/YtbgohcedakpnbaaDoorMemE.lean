/- member: inSixteens. -/
import Derived.Test.YtbgohcedakpnbaaDoorMemD
import Derived.Test.YtbgohcedakpnbaaDoorBytes
import Derived.Test.YtbgohcedakpnbaaDoorORow
import Derived.Test.YtbgohcedakpnbaaDoorRow
import Derived.Deep.Cut
import Derived.Deep.RegionLaw
import Derived.Test.YtbgohcedakpnbaaDoorMemA
import Derived.Test.YtbgohcedakpnbaaDoorMemH
import Derived.Test.YtbgohcedakpnbaaDoorItoa
import Derived.Test.YtbgohcedakpnbaaDoorBld
import Derived.Stop.RegionWithIn
import Derived.LoopIn
set_option linter.unusedVariables false
set_option linter.unusedSimpArgs false
namespace Go.Proofs.YtbgohcedakpnbaaDoor
open Go.RowKit
theorem step_append_two {w : World} {base : Nat} {v : Value} {L : List UInt8} {ops : Array Oper} {o : Oper} {a : Act} {K : Act → World → Prop} {Q : Exit → Act → World → Prop} {E : Prop} (hgd : o.guard = none) (s x : Operand)
    (ho : o.op = .call { callee := .builtin .append, args := #[s, x], argTypes := #[54, 54] })
    (hs : a.eval s = v) (hown : BRow w base v L) (g : Nat) (b1 b2 : UInt8) (hx : a.eval x = .slice (some ⟨g, 0, none⟩) 2 2) (hB : Blk w g 5 #[vB b1, vB b2]) (n m : Nat) (hl : L.length = n) (hm : n + 2 = m) (L' : List UInt8) (hL : L ++ [b1, b2] = L') (hn : n + 2 ≤ 140737488355328) (hbase : base ≤ w.heap.size)
    (h : ∀ A c w', Hid (BRow w' base (.slice A m c) L') → w.grownBy w' v.ownBlock → Below base w w' → K (a.put o.dst (.slice A m c)) w') :
    if Region.wanted o (yielded ops a.tmps) = true then Oper.wp Tryd.prog o a w K Q else E := by
  subst hL hm
  obtain ⟨i0, hi0, hz0, hz1, hz2⟩ := info_parts byte_info
  refine step_append_any _ hgd s x _ ho base _ i0 _ 1 1 Tryd.underlying54 hi0 hz0 hz1 hz2 rfl (by omega) v L.length (L.map vB) hs hown (g + 1) (some ⟨g, 0, none⟩) 2 2 [vB b1, vB b2] hx ?_ (by simp [vB, Value.oneCell']) (by simp only [maxLen]; omega) (by omega) hbase ?_
  · refine ⟨rfl, fun _ => ⟨_, rfl, by simp, fun j u hu => ?_⟩⟩
    have hadd : (⟨g, 0, none⟩ : Addr).add j = ⟨g, j, none⟩ := by unfold Addr.add; split <;> simp_all
    rw [hadd, hB.cell]
    simpa using hu
  · intro v' w' h1 h2 _
    have h1' : BRow w' base v' (L ++ [b1, b2]) := brow_join h1 _ (by simp) (by simp)
    obtain ⟨A, c, rfl⟩ := brow_form h1'
    have hn1 : (L ++ [b1, b2]).length = n + 2 := by simp [hl]
    rw [hn1] at h1' ⊢
    exact h A c w' (Lib.hid h1') h2 ((Below.refl base w).grown h2 hbase (fun k e => (World.ownsRow.lt hown k e).1))
theorem make_bytes (n : Nat) (h : n ≤ 1000000000) (w : World) :
    (Instr.makeSlice 54 (.int .i64 0) (.int .i64 (n : Int))).run Tryd.prog w = .ok (.slice (some ⟨w.heap.size, 0, none⟩) 0 n) (w.alloc (.cells (madeCells #[.int .u8 0] n) 5)) := by
  have := run_mkcap (P := Tryd.prog) _ _ _ Tryd.underlying54 byte_info n (by omega) (by omega) w
  rw [Nat.mul_one] at this
  exact this
theorem brow_made (w : World) (n : Nat) (h : n ≤ 1000000000) : BRow (w.alloc (.cells (madeCells #[.int .u8 0] n) 5)) w.heap.size (.slice (some ⟨w.heap.size, 0, none⟩) 0 n) [] := by
  have := orow_made (e := 5) (enc := fun b : UInt8 => [vB b]) (sz := 1) w (base := w.heap.size) #[.int .u8 0] n (Nat.le_refl _) (by simp only [maxLen]; omega)
  rw [Nat.mul_one] at this
  exact this
theorem u8_and15 (c : Nat) (h : c < 256) : bits .and .u8 (c : Int) 15 = ((c % 16 : Nat) : Int) := by
  have hall : ∀ x : Fin 256, bits .and .u8 ((x.val : Nat) : Int) 15 = ((x.val % 16 : Nat) : Int) := by decide +kernel
  exact hall ⟨c, h⟩
theorem hex_idx (d : Nat) (h : d < 16) : (#[48, 49, 50, 51, 52, 53, 54, 55, 56, 57, 97, 98, 99, 100, 101, 102] : Array UInt8)[d]? = some (mhexD d) := by
  have hall : ∀ x : Fin 16, (#[48, 49, 50, 51, 52, 53, 54, 55, 56, 57, 97, 98, 99, 100, 101, 102] : Array UInt8)[x.val]? = some (mhexD x.val) := by decide +kernel
  exact hall ⟨d, h⟩
theorem hex_get (d : Nat) (h : d < 16) : (⟨#[48, 49, 50, 51, 52, 53, 54, 55, 56, 57, 97, 98, 99, 100, 101, 102]⟩ : ByteArray)[d]'(show d < 16 from h) = mhexD d := by
  have h1 := hex_idx d h
  rw [Array.getElem?_eq_getElem (show d < 16 from h)] at h1
  exact Option.some.inj h1
set_option maxRecDepth 100000 in
set_option maxHeartbeats 2000000 in
theorem insix_any (s : ByteArray) (w : World) (hs : s.size ≤ 100000) :
    Calls Tryd.prog 54 #[.string s] w fun e w' => e = .returned (.string (hexM s)) ∧ Below w.heap.size w w' := by
  obtain ⟨l, hl⟩ : ∃ l, s.data.toList = l := ⟨_, rfl⟩
  have hll : l.length = s.size := by rw [← hl]; simp
  have hmk := fun W => make_bytes (2 * s.size) (by omega) W
  have h2 : (2 : Int) * (s.size : Int) = ((2 * s.size : Nat) : Int) := by omega
  have HM := Lib.hid (brow_made w (2 * s.size) (by omega))
  have HL := Lib.hid (And.intro hl hll)
  generalize 2 * s.size = q at *
  clear hl hll
  go_enter Tryd.func54, Tryd.ntmps54
  go_wp2_with fail
  clear hmk
  go_loopw [3, 11] (fun v iv wr => ∃ (k : Nat) (A : Option Addr) (c : Nat), k ≤ s.size ∧ v = .slice A (2 * k) c ∧ iv = .int .i64 k ∧ Hid (BRow wr w.heap.size (.slice A (2 * k) c) ((l.take k).flatMap hexP)) ∧ Below w.heap.size w wr) (fun _ iv _ => s.size - (intOf iv).toNat)
  case atStart => exact ⟨0, _, _, by omega, rfl, rfl, HM, by go_grown⟩
  case round =>
    clear HM
    obtain ⟨k, A, c, hk, rfl, rfl, HR, hB⟩ := hrel
    by_cases hlt : k < s.size
    · have hbk := (s[k]'hlt).toNat_lt
      have k0 : (0 : Int) ≤ (k : Int) := by omega
      have k1 : (k : Int) < (s.size : Int) := by omega
      obtain ⟨d1, hd1⟩ : ∃ d, (s[k]'hlt).toNat / 16 = d := ⟨_, rfl⟩
      obtain ⟨d2, hd2⟩ : ∃ d, (s[k]'hlt).toNat % 16 = d := ⟨_, rfl⟩
      have e1 : ((s[k]'hlt).toNat : Int) / 16 = (d1 : Int) := by omega
      have e2 : bits .and .u8 ((s[k]'hlt).toNat : Int) 15 = (d2 : Int) := by rw [u8_and15 _ hbk, hd2]
      have hd16 : d1 < 16 := by omega
      have hd26 : d2 < 16 := by omega
      have i1 := hex_get d1 hd16
      have i2 := hex_get d2 hd26
      have hsz := hB.size
      have HX : Hid (Blk (wr.alloc (.cells #[.int .u8 (((mhexD d1).toNat : Nat) : Int), .int .u8 (((mhexD d2).toNat : Nat) : Int)] 5)) wr.heap.size 5 #[vB (mhexD d1), vB (mhexD d2)]) := Lib.hid (Blk.new_at rfl _ _)
      have HQ : Hid ((l.take k).flatMap hexP ++ [mhexD d1, mhexD d2] = (l.take (k + 1)).flatMap hexP) := Lib.hid (by
        have h := hexFlat_snoc (l := l) (k := k) (c := s[k]'hlt) (by rw [← HL.out.1, List.getElem?_eq_getElem (by simpa using hlt)]; rfl)
        unfold hexP at h
        rw [hd1, hd2] at h
        exact h)
      have HK : Hid (((l.take k).flatMap hexP).length = 2 * k) := Lib.hid (by rw [hexFlat_len, List.length_take]; have := HL.out.2; omega)
      have hk2 : 2 * k + 2 = 2 * (k + 1) := by omega
      have HK2 := Lib.hid hk2
      clear hd1 hd2 hk2
      have j1 : (0 : Int) ≤ (d1 : Int) := by omega
      have j2 : (0 : Int) ≤ (d2 : Int) := by omega
      have j3 : (d1 : Int) < 16 := by omega
      have j4 : (d2 : Int) < 16 := by omega
      go_upto_region 5 with (fail)
      go_region_law (refine step_append_two rfl (.tmp 14) (.tmp 25) rfl rfl (brow_below (w' := _) HR.out (by go_grown) (Nat.le_refl _)) wr.heap.size (mhexD d1) (mhexD d2) rfl (Blk.drew HX.out) (2 * k) (2 * (k + 1)) HK.out HK2.out _ HQ.out (by omega) (by simp; omega) ?_; intro A1 c1 w1 HR1 hg1 hb1)
      all_goals go_wp2_with fail
      all_goals go_roundw
      all_goals first
        | (case rel => exact ⟨k + 1, A1, c1, by omega, rfl, by go_num, HR1, Below.trans hB (Below.trans (by go_grown) (hb1.mono (by omega)))⟩)
        | (case measure => simp [intOf]; omega)
    · obtain rfl : k = s.size := by omega
      have hT : l.take s.size = l := List.take_of_length_le (by rw [HL.out.2]; exact Nat.le_refl _)
      have hR := HR.out
      rw [hT] at hR
      have hcv := run_brow (P := Tryd.prog) (L := l.flatMap hexP) (n := 2 * s.size) (c := c) 54 9 5 Tryd.underlying54 Tryd.underlying5 Tryd.underlying9 (by rw [hexFlat_len, HL.out.2]) hR
      have hv : hexM s = ⟨(l.flatMap hexP).toArray⟩ := by unfold hexM; rw [HL.out.1]
      have HV := Lib.hid hv
      clear hT hR HR hv
      go_wp2_with fail
      go_ret
      exact ⟨by rw [HV.out]; rfl, hB⟩
end Go.Proofs.YtbgohcedakpnbaaDoor
/- member: the lines of a record, told one by one. -/
namespace Go.Proofs.YtbgohcedakpnbaaDoor
open Go.RowKit Go.Shelf
attribute [local go_sem] Oper.semAt_some
theorem digB_le {n : Nat} (h : n ≤ 1000000) : (digB n).size ≤ 7 := by
  show (Lib.decDigits n).toArray.size ≤ 7
  rw [List.size_toArray]
  exact mdec_len 6 n (by omega)
/-- a record in memory, with the table of powers -/
def RecAt (W : World) (g b off c b' off' d n : Nat) (r : Rec) : Prop :=
  Blk W g 24 #[.int .i64 r.epoch, .int .i64 r.k, .slice (some ⟨b, off, none⟩) n c, .slice (some ⟨b', off', none⟩) n d] ∧ (∀ (i : Nat) x, r.names[i]? = some x → W.cell? ⟨b, off + i, none⟩ = some (.string x)) ∧
    (∀ (i : Nat) x, r.pledges[i]? = some x → W.cell? ⟨b', off' + i, none⟩ = some (.string x)) ∧ Pows W
theorem RecAt.on {W W' : World} {g b off c b' off' d n : Nat} {r : Rec} (h : RecAt W g b off c b' off' d n r) (hb : Below W.heap.size W W') : RecAt W' g b off c b' off' d n r :=
  ⟨h.1.below hb h.1.lt, fun i x hx => (hb.cell (World.block_lt_of_cell? W _ (h.2.1 i x hx))).trans (h.2.1 i x hx), fun i x hx => (hb.cell (World.block_lt_of_cell? W _ (h.2.2.1 i x hx))).trans (h.2.2.1 i x hx), h.2.2.2.below hb⟩
def linesTo (r : Rec) (i : Nat) : List ByteArray := line0 r :: (List.zipWith lineAt r.names r.pledges).take i
theorem linesTo_snoc {r : Rec} {i : Nat} {x y : ByteArray} (hx : r.names[i]? = some x) (hy : r.pledges[i]? = some y) : linesTo r i ++ [lineAt x y] = linesTo r (i + 1) := by
  have h : (List.zipWith lineAt r.names r.pledges)[i]? = some (lineAt x y) := by rw [List.getElem?_zipWith, hx, hy]
  unfold linesTo
  rw [List.take_add_one, h]
  rfl
theorem linesTo_all {r : Rec} {n : Nat} (h : r.names.length = n) (h2 : r.pledges.length = n) : linesTo r n = linesL r := by
  unfold linesTo linesL
  rw [List.take_of_length_le (by rw [List.length_zipWith]; omega)]
theorem linesTo_len {r : Rec} {n i : Nat} (h : r.names.length = n) (h2 : r.pledges.length = n) (hi : i ≤ n) : (linesTo r i).length = i + 1 := by
  unfold linesTo
  rw [List.length_cons, List.length_take, List.length_zipWith]
  omega
theorem linesTo_prefix {r : Rec} {n : Nat} (h : r.names.length = n) (h2 : r.pledges.length = n) (i : Nat) : linesTo r i <+: linesL r := by
  unfold linesTo linesL
  exact (List.prefix_cons_inj _).2 (List.take_prefix _ _)
theorem mprinted_in (F : Fence) (n : Nat) (hf : F.fn 30) (hro : F.round = none) (x y z u : Value) (w : World) :
    CallsIn F n Tryd.prog 30 #[.agg #[x, y, z, u]] w fun e w' => e = .returned (.func (.func 52) #[] #[.pointer (some ⟨w.heap.size, 0, none⟩)]) ∧ w.alloc (.cells #[x, y, z, u] 24) = w' := by
  refine callsIn_of_wp Tryd.func30 rfl hf ?_ hro
  simp only [Tryd.ntmps30, List.size_toArray, List.length_cons, List.length_nil, Nat.reduceAdd, Nat.reduceSub, Array.replicate_succ, Array.replicate_zero, List.push_toArray, List.append_toArray, List.nil_append, List.cons_append]
  gi_wp2
  go_ret
  exact ⟨rfl, rfl⟩
theorem wpIn_cut {F : Fence} {n : Nat} {P : Program} {s : Code} {K : Act → World → Prop} {Q' : Exit → Act → World → Prop} {a : Act} {w : World} (R : Act → World → Prop)
    (rest : ∀ a' w', R a' w' → K a' w')
    (first : ∀ (J K' : Act → World → Prop), (∀ a' w', R a' w' → J a' w') → (∀ a' w', Met J a' w' → K' a' w') → s.wpIn F n P (Exit.then K' Q') a w) : s.wpIn F n P (Exit.then K Q') a w := by
  refine wpIn_mono (first R R (fun _ _ q => q) (fun _ _ q => q)) ?_
  intro e a' w' hq
  cases e with
  | normal => exact rest _ _ hq
  | exit id => exact hq
  | goto l => exact hq
  | ret => exact hq
  | panic ch => exact hq
  | outgrown => exact hq
theorem yield_bool {e : Ending} {P Q : Prop} (h : (e = .returned (.bool true) ∧ P) ∨ (e = .returned (.bool false) ∧ Q)) : ∃ q, e = .returned (.bool q) ∧ ((q = true ∧ P) ∨ (q = false ∧ Q)) := by
  rcases h with ⟨rfl, h⟩ | ⟨rfl, h⟩
  · exact ⟨true, rfl, .inl ⟨rfl, h⟩⟩
  · exact ⟨false, rfl, .inr ⟨rfl, h⟩⟩
set_option maxHeartbeats 4000000 in
set_option maxRecDepth 100000 in
theorem mprinted1_in (nn : Nat) (hnn : 1 ≤ nn) (l g b off c b' off' d n e k : Nat) (names pledges : List ByteArray) (hck : checkB ⟨(e : Int), (k : Int), names, pledges⟩ = true) (hln : names.length = n) (J Jx : List ByteArray → World → Prop) (Kp : World → World → Prop)
    (hKr : ∀ A, Kp A A) (hKt : ∀ A B C, Kp A B → Kp B C → Kp A C) (hKc : ∀ A B, Kp A B → RecAt A g b off c b' off' d n ⟨e, k, names, pledges⟩ → RecAt B g b off c b' off' d n ⟨e, k, names, pledges⟩)
    (hKb : ∀ A B, RecAt A g b off c b' off' d n ⟨e, k, names, pledges⟩ → Below A.heap.size A B → Kp A B)
    (hJb : ∀ pre A B, J pre A → Below A.heap.size A B → J pre B)
    (hY : ∀ pre (x : ByteArray) W, J pre W → pre.length < n + 1 → x.size ≤ 100 → YieldAt Fence.wide (nn - 1) Tryd.prog l #[.string x] W fun e W' =>
      (e = .returned (.bool true) ∧ J (pre ++ [x]) W' ∧ Kp W W') ∨ (e = .returned (.bool false) ∧ Jx (pre ++ [x]) W'))
    (W : World) (hR : RecAt W g b off c b' off' d n ⟨e, k, names, pledges⟩) (h0 : J [] W) :
    CallsIn Fence.wide nn Tryd.prog 52 #[.func (.yield l) #[] #[], .pointer (some ⟨g, 0, none⟩)] W fun e' W' => (∃ v, e' = .returned v) ∧
      ((∃ ys, ys = linesL ⟨e, k, names, pledges⟩ ∧ J ys W') ∨ (∃ pre, pre <+: linesL ⟨e, k, names, pledges⟩ ∧ Jx pre W')) := by
  obtain ⟨⟨he1, he2, hn1, hn16, hlp, hk1, hk2⟩, hpl⟩ := (checkB_iff _).1 hck
  simp only at he1 he2 hn1 hn16 hlp hk1 hk2
  rw [hln] at hn1 hn16 hlp hk2
  have he3 : e ≤ 1000000 := by omega
  have hk3 : k ≤ 16 := by omega
  have hde := digB_le he3
  have hdk := digB_le (n := k) (by omega)
  have HL0 : Hid (epochT ++ digB e ++ blankT ++ digB k = line0 ⟨e, k, names, pledges⟩) := Lib.hid rfl
  have HI1 := Lib.hid (fun W hW => itoa_any e W (by omega) hW)
  have HI2 := Lib.hid (fun W hW => itoa_any k W (by omega) hW)
  have HY := Lib.hid hY
  have HK := Lib.hid hKt
  have HKc := Lib.hid hKc
  have HKb := Lib.hid hKb
  have HJb := Lib.hid hJb
  have HR := Lib.hid hR
  have HPL := Lib.hid hpl
  have HLn := Lib.hid (And.intro hln hlp)
  have hr0 := hR.1.cells 0 _ rfl
  have hr1 := hR.1.cells 1 _ rfl
  simp only [List.getElem_toArray, List.getElem_cons_zero, List.getElem_cons_succ] at hr0 hr1
  have HC : Hid (∀ A, Below W.heap.size W A → A.cell? ⟨g, 0, none⟩ = some (.int .i64 e) ∧ A.cell? ⟨g, 1, none⟩ = some (.int .i64 k) ∧ Pows A) := Lib.hid (fun A hA => ⟨(hR.on hA).1.cells 0 _ rfl, (hR.on hA).1.cells 1 _ rfl, (hR.on hA).2.2.2⟩)
  have HJ0 := Lib.hid h0
  have hl0 : (line0 ⟨e, k, names, pledges⟩).size ≤ 100 := by
    rw [← HL0.out, ByteArray.size_append, ByteArray.size_append, ByteArray.size_append]
    have h1 : epochT.size = 6 := rfl
    have h2 : blankT.size = 1 := rfl
    omega
  have HE1 := Lib.hid (fun W2 (hb : Below W.heap.size W W2) => HY.out [] (line0 ⟨e, k, names, pledges⟩) W2 (HJb.out _ _ _ HJ0.out hb) (by simp) hl0)
  obtain ⟨T0, hT0e⟩ : ∃ T, line0 ⟨e, k, names, pledges⟩ = T := ⟨_, rfl⟩
  rw [hT0e] at HE1 HL0 hl0
  have HT0 := Lib.hid hT0e
  have hT0 := HL0.out
  unfold digB epochT blankT at hT0
  unfold digB at hde hdk
  generalize (⟨(Lib.decDigits e).toArray⟩ : ByteArray) = De at *
  generalize (⟨(Lib.decDigits k).toArray⟩ : ByteArray) = Dk at *
  clear hT0e hY hKt hKc hKb hJb hR hpl hln hlp h0 hck he1 he2 hk1 hk2 hl0
  refine callsIn_of_wp Tryd.func52 rfl trivial ?_ rfl
  simp only [Tryd.ntmps52, List.size_toArray, List.length_cons, List.length_nil, Nat.reduceAdd, Nat.reduceSub, Array.replicate_succ, Array.replicate_zero, List.push_toArray, List.append_toArray, List.nil_append, List.cons_append]
  gi_wp2_with fail
  refine wpIn_cut (fun a' w' => ∃ u5 u6 u7 u8 u9 u10 u11 u12 u13 u14 u15 u16 : Value, ((∃ q : Bool, u16 = .bool (!q) ∧ Hid ((q = true ∧ J [T0] w' ∧ Kp W w') ∨ (q = false ∧ Jx [T0] w'))) ∧ a' = { tmps := #[.func (.yield l) #[] #[], .pointer (some ⟨g, 0, none⟩), undef, undef, undef, u5, u6, u7, u8, u9, u10, u11, u12, u13, u14, u15, u16, undef, undef, undef, undef, undef, undef, undef, undef, undef, undef, undef, undef, undef, undef, undef, undef, undef, undef, undef, undef, undef], defers := [] })) ?_ ?_
  rotate_left
  · intro _ _ _ _
    gi_region_with (first
      | (refine ⟨trivial, ?_⟩; gi_at_call 53; (with_reducible refine CallsIn.mono (callsIn_wide.2 (HI1.out _ (HC.out _ (by go_grown)).2.2)) ?_); rintro e w1 ⟨rfl, hb1⟩; have hB1 : Below W.heap.size W w1 := Below.trans (by go_grown) (hb1.mono (by simp)); obtain ⟨c0, c1, _⟩ := HC.out w1 hB1; clear hb1)
      | (refine ⟨trivial, ?_⟩; gi_at_call 53; (with_reducible refine CallsIn.mono (callsIn_wide.2 (HI2.out _ (HC.out _ (by go_grown)).2.2)) ?_); rintro e w2 ⟨rfl, hb2⟩; have hB2 : Below W.heap.size W w2 := Below.trans hB1 (Below.trans (by go_grown) (hb2.mono (by first | exact hB1.size | (have := hB1.size; simp; omega)))); clear hb2; obtain ⟨fn, tmps, assign, body, hy, hYY⟩ := HE1.out w2 hB2; have HRR := Lib.hid hYY; have HK2 := Lib.hid (HKb.out W w2 HR.out hB2); clear hYY)
      | (refine HRR.out.mono ?_; intro e W3 h3; obtain ⟨q, he, h3'⟩ := yield_bool h3; subst he; have H3 : Hid ((q = true ∧ J [T0] W3 ∧ Kp W W3) ∨ (q = false ∧ Jx [T0] W3)) := Lib.hid (h3'.imp (fun h => ⟨h.1, h.2.1, HK.out _ _ _ HK2.out h.2.2⟩) id); clear h3 h3'))
    all_goals gi_wp2_with fail
    all_goals go_meet
    all_goals exact ⟨q, rfl, H3⟩
  intro _ wc hinv
  obtain ⟨u5, u6, u7, u8, u9, u10, u11, u12, u13, u14, u15, u16, ⟨q, rfl, H3⟩, ha⟩ := hinv
  subst ha
  obtain ⟨w4, rfl⟩ : ∃ W : World, W = wc := ⟨wc, rfl⟩
  clear HE1 HI1 HI2 HL0 HC hde hdk hT0 hr0 hr1
  rcases H3.out with ⟨rfl, hJ4, hK4⟩ | ⟨rfl, hX4⟩
  · have HJ4 : Hid (J (linesTo ⟨e, k, names, pledges⟩ 0) w4) := Lib.hid (by
      unfold linesTo
      rw [HT0.out]
      exact hJ4)
    have HK4 := Lib.hid hK4
    clear hJ4 hK4 H3
    have hra := HKc.out _ _ HK4.out HR.out
    have q2 := hra.1.cells 2 _ rfl
    simp only [List.getElem_toArray, List.getElem_cons_zero, List.getElem_cons_succ] at q2
    clear hra
    gi_wp2_with fail
    gi_loopw [20] (fun iv wr => ∃ i : Nat, i ≤ n ∧ iv = .int .i64 i ∧ Hid (J (linesTo ⟨e, k, names, pledges⟩ i) wr) ∧ Hid (Kp W wr)) (fun iv _ => n - (intOf iv).toNat)
    case atStart => exact ⟨0, by omega, rfl, HJ4, HK4⟩
    case round =>
      clear HJ4 HK4 q2
      obtain ⟨i, hi, rfl, HJ, HB⟩ := hrel
      have hra := HKc.out _ _ HB.out HR.out
      by_cases hlt : i < n
      · obtain ⟨x, hx⟩ : ∃ x, names[i]? = some x := ⟨_, List.getElem?_eq_getElem (by rw [HLn.out.1]; exact hlt)⟩
        obtain ⟨y, hy⟩ : ∃ y, pledges[i]? = some y := ⟨_, List.getElem?_eq_getElem (by rw [HLn.out.2]; exact hlt)⟩
        have cx := hra.2.1 i x hx
        have cy := hra.2.2.1 i y hy
        have q3 := hra.1.cells 3 _ rfl
        simp only [List.getElem_toArray, List.getElem_cons_zero, List.getElem_cons_succ] at q3
        have i0 : (0 : Int) ≤ (i : Int) := by omega
        have i1 : (i : Int) < (n : Int) := by omega
        have hok := HPL.out i (by show i < names.length; rw [HLn.out.1]; exact hlt)
        unfold placeB at hok
        simp only [mgetD_at hx, mgetD_at hy] at hok
        have hsz : x.size ≤ 20 ∧ y.size = 32 := by
          simp only [nameB, Bool.and_eq_true, decide_eq_true_eq] at hok
          exact ⟨hok.1.2.1, hok.2.1⟩
        obtain ⟨hxs, hys⟩ := hsz
        have hHs := hexM_size y
        have HLI : Hid (x ++ blankT ++ hexM y = lineAt x y) := Lib.hid rfl
        have hls : (lineAt x y).size ≤ 100 := by
          rw [← HLI.out, ByteArray.size_append, ByteArray.size_append]
          have h2 : blankT.size = 1 := rfl
          omega
        have HI := Lib.hid (fun W => insix_any y W (by omega))
        have HE2 := Lib.hid (fun W2 (hb : Below wr.heap.size wr W2) => HY.out (linesTo ⟨e, k, names, pledges⟩ i) (lineAt x y) W2 (HJb.out _ _ _ HJ.out hb) (by rw [linesTo_len HLn.out.1 HLn.out.2 hi]; omega) hls)
        have HSn := Lib.hid (linesTo_snoc (r := ⟨e, k, names, pledges⟩) hx hy)
        have HRr := Lib.hid hra
        have hHy : (hexM y).size ≤ 64 := by omega
        have hli := HLI.out
        unfold blankT at hli
        generalize hexM y = Hy at *
        generalize lineAt x y = Li at *
        clear hx hy hok hls hra hHs
        gi_wp2_with fail
        refine ⟨trivial, ?_⟩
        gi_at_call 54
        refine (callsIn_wide.2 (HI.out _)).mono ?_
        rintro e' w5 ⟨rfl, hb5⟩
        have HKb5 := Lib.hid (HKb.out _ _ HRr.out hb5)
        obtain ⟨fn, tmps, assign, body, hy2, hYY⟩ := HE2.out w5 hb5
        have HRR := Lib.hid hYY
        clear hYY cx cy q3 hb5
        gi_wp2_with fail
        refine HRR.out.mono ?_
        rintro e' W3 (⟨rfl, hJ3, hk3⟩ | ⟨rfl, hJx3⟩)
        · rw [HSn.out] at hJ3
          have HJ3 := Lib.hid hJ3
          have HK3 := Lib.hid (HK.out _ _ _ HB.out (HK.out _ _ _ HKb5.out hk3))
          clear hJ3 hk3
          gi_wp2_with fail
          go_roundw
          case rel => exact ⟨i + 1, by omega, by go_num, HJ3, HK3⟩
          case measure => simp [intOf]; omega
        · rw [HSn.out] at hJx3
          have HJ3 := Lib.hid hJx3
          clear hJx3
          gi_wp2_with fail
          refine bodyPost_ret (results_none rfl _ _ _) rfl ?_
          exact ⟨⟨_, rfl⟩, .inr ⟨_, linesTo_prefix HLn.out.1 HLn.out.2 (i + 1), HJ3.out⟩⟩
      · obtain rfl : i = n := by omega
        have HJe : Hid (J (linesL ⟨e, k, names, pledges⟩) wr) := Lib.hid (by
          have h := HJ.out
          rw [linesTo_all (r := ⟨e, k, names, pledges⟩) HLn.out.1 HLn.out.2] at h
          exact h)
        clear hra HJ
        gi_wp2_with fail
        go_end0
        exact ⟨⟨_, rfl⟩, .inl ⟨_, rfl, HJe.out⟩⟩
  · have HX : Hid (Jx (linesTo ⟨e, k, names, pledges⟩ 0) w4) := Lib.hid (by
      unfold linesTo
      rw [HT0.out]
      exact hX4)
    clear hX4 H3
    gi_wp2_with fail
    refine bodyPost_ret (results_none rfl _ _ _) rfl ?_
    exact ⟨⟨_, rfl⟩, .inr ⟨_, linesTo_prefix HLn.out.1 HLn.out.2 0, HX.out⟩⟩
end Go.Proofs.YtbgohcedakpnbaaDoor
