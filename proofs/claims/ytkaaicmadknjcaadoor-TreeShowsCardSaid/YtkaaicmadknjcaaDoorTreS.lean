/- chapter 11's reference: Rows, Root, Path. -/
import Derived.Test.YtkaaicmadknjcaaDoorTreD
import Derived.Test.YtkaaicmadknjcaaDoorTreR
set_option linter.unusedVariables false
set_option linter.unusedSimpArgs false
namespace Go.Proofs.YtkaaicmadknjcaaDoor
open Go.RowKit
/-- v is a row of one's own of rows of one's own -/
def LR (w : World) (base : Nat) (v : Value) (LL : List (List ByteArray)) : Prop :=
  ∃ X, SlRow w base v X ∧ X.length = LL.length ∧ ∀ (i : Nat) s L, X[i]? = some s → LL[i]? = some L → SRow w base (.slice s.A s.n s.c) L ∧ s.n = L.length
section
variable {w w' : World} {base : Nat} {v : Value} {LL : List (List ByteArray)}
theorem LR.below {B : Nat} (h : LR w base v LL) (hb : Below B w w') (hB : w.heap.size ≤ B) : LR w' base v LL := by
  obtain ⟨X, h3, h4, h5⟩ := h
  exact ⟨X, orow_below h3 hb hB, h4, fun i s L hs hL => ⟨orow_below (h5 i s L hs hL).1 hb hB, (h5 i s L hs hL).2⟩⟩
theorem LR.reads (h : LR w base v LL) : ∃ A c, v = .slice A LL.length c ∧ RRows w w.heap.size A LL.length LL := by
  obtain ⟨X, h3, h4, h5⟩ := h
  obtain ⟨A, c, rfl, hc1, hc2⟩ := orow_form h3
  rw [h4] at h3
  refine ⟨A, c, by rw [h4], ⟨X, slrow_slr h3 h4, h4, fun i s L a b => ?_⟩⟩
  obtain ⟨q, qn⟩ := h5 i s L a b
  exact srow_slr q qn.symm
theorem lr_first {A : Option Addr} {n c : Nat} {L : List ByteArray} (h : SRow w base (.slice A n c) L) (hn : L.length = n) (hb : base ≤ w.heap.size) :
    LR (w.alloc (.cells #[.slice A n c] 54)) base (.slice (some ⟨w.heap.size, 0, none⟩) 1 1) [L] := by
  refine ⟨[⟨A, n, c⟩], ?_, rfl, ?_⟩
  · exact orow_new (L := [(⟨A, n, c⟩ : Sl)]) encSl_len (Blk.new w _ _) hb rfl (by simp [maxLen])
  · intro i s L' h1 h2
    have hi : i = 0 := by have := (List.getElem?_eq_some_iff.1 h1).1; simp at this; omega
    subst hi
    simp only [List.getElem?_cons_zero, Option.some.injEq] at h1 h2
    subst h1 h2
    exact ⟨orow_alloc h _, hn.symm⟩
theorem lr_push {v' : Value} {X : List Sl} {s : Sl} {L : List ByteArray} (hv : SlRow w' base v' (X ++ [s])) (hXl : X.length = LL.length)
    (hX : ∀ (i : Nat) s L, X[i]? = some s → LL[i]? = some L → SRow w' base (.slice s.A s.n s.c) L ∧ s.n = L.length) (hs : SRow w' base (.slice s.A s.n s.c) L) (hsn : s.n = L.length) : LR w' base v' (LL ++ [L]) := by
  refine ⟨X ++ [s], hv, by simp [hXl], ?_⟩
  intro i s1 L1 h1 h2
  rcases Nat.lt_or_ge i X.length with hi | hi
  · rw [List.getElem?_append_left hi] at h1
    rw [List.getElem?_append_left (by omega)] at h2
    exact hX i s1 L1 h1 h2
  · rw [List.getElem?_append_right hi] at h1
    rw [List.getElem?_append_right (by omega)] at h2
    have h3 : i - X.length = 0 := by have := (List.getElem?_eq_some_iff.1 h1).1; simp at this; omega
    have h4 : i - LL.length = 0 := by omega
    rw [h3] at h1
    rw [h4] at h2
    simp only [List.getElem?_cons_zero, Option.some.injEq] at h1 h2
    subst h1 h2
    exact ⟨hs, hsn⟩
end
def rowLen (v : Value) : Nat := match v with | .slice _ n _ => n | _ => 0
set_option maxRecDepth 100000 in
set_option maxHeartbeats 2000000 in
theorem rrows_any (l : List ByteArray) (A : Option Addr) (n c h : Nat) (w : World) (hL : SlR encS 1 w w.heap.size A n l) (hn : n = 2 ^ h) (hh : h ≤ 10) (hs : ∀ s ∈ l, s.size ≤ 900000) :
    Calls Tryd.prog 111 #[.slice A n c] w fun e w' => Below w.heap.size w w' ∧ ∃ A c, e = .returned (.slice A (h + 1) c) ∧ Hid (RRows w' w'.heap.size A (h + 1) (levs l h)) := by
  have h1 : 1 ≤ n := by rw [hn]; exact Nat.one_le_two_pow
  have h2 : n ≤ 1024 := by rw [hn]; exact Nat.le_trans (Nat.pow_le_pow_right (by omega) hh) (by decide)
  have HC : Hid (∀ W, Below w.heap.size w W → ∀ k x, l[k]? = some x → ∃ b off, A = some ⟨b, off, none⟩ ∧ W.cell? ⟨b, off + k, none⟩ = some (.string x)) := Lib.hid (fun W hb k x hx => by
    have hk := (List.getElem?_eq_some_iff.1 hx).1
    obtain ⟨b, off, e, hb', hC⟩ := (hL.below hb).2.resolve_left (by have := hL.1; omega)
    exact ⟨b, off, e, hC.str hx⟩)
  have Hs := Lib.hid hs
  have HLn := Lib.hid hL.1
  have HN := Lib.hid hn
  have HM : Hid ((l.map leafS).length = n) := Lib.hid (by simpa using hL.1)
  clear hL hs hn
  go_enter Tryd.func111, Tryd.ntmps111
  go_wp2
  go_loopw [3, 4] (fun v i wr => ∃ (k : Nat) (A2 : Option Addr) (c2 : Nat), k ≤ n ∧ i = .int .i64 k ∧ v = .slice A2 k c2 ∧ Hid (SRow wr w.heap.size (.slice A2 k c2) ((l.map leafS).take k)) ∧
      Below w.heap.size w wr) (fun _ i _ => n - (intOf i).toNat)
  case atStart => exact ⟨0, _, _, Nat.zero_le _, rfl, rfl, srow_nil _ _, Below.refl _ _⟩
  case round =>
    obtain ⟨k, A2, c2, hk, rfl, rfl, HR, hB⟩ := hrel
    have hzr := hB.size
    by_cases hlt : k < n
    · obtain ⟨s, hsk⟩ : ∃ s, l[k]? = some s := ⟨l[k]'(by rw [HLn.out]; exact hlt), List.getElem?_eq_getElem _⟩
      obtain ⟨b, off, rfl, c0⟩ := HC.out wr hB k s hsk
      have HEq := Lib.hid (leaf_step hsk)
      have HTk : Hid (((l.map leafS).take k).length = k) := Lib.hid (by rw [List.length_take, HM.out]; omega)
      have hsz := Hs.out s (List.mem_of_getElem? hsk)
      have HLf := Lib.hid (rleaf_any s wr hsz)
      have i0 : (0 : Int) ≤ (k : Int) := by omega
      have i1 : (k : Int) < (n : Int) := by omega
      clear hsk
      go_wp2_with fail
      refine HLf.out.mono ?_
      rintro e w1 ⟨rfl, hb2⟩
      have hz1 := hb2.size
      have hB1 := hB.trans (hb2.mono hzr)
      have HR1 := Lib.hid (orow_below HR.out hb2 (Nat.le_refl _))
      clear HLf c0 HR hb2
      go_wp2_with (at_builtin; refine wpList_append_str rfl (.tmp 14) (.tmp 20) rfl rfl (orow_alloc HR1.out _) w1.heap.size (leafS s) rfl (Blk.new _ _ _) k HTk.out _ HEq.out (by omega) (by simp; omega) ?_; intro A3 c3 w3 HR3 hg3 hb3)
      clear hg3
      go_roundw
      case rel => exact ⟨k + 1, A3, c3, by omega, by go_num, rfl, HR3, Below.trans hB1 (Below.trans (by go_grown) hb3)⟩
      case measure => simp [intOf]; omega
    · obtain rfl : k = n := by omega
      have hR := HR.out
      rw [List.take_of_length_le (by rw [HM.out]; exact Nat.le_refl _)] at hR
      have HR' : Hid (SRow wr w.heap.size (.slice A2 k c2) (l.map leafS)) := Lib.hid hR
      clear hR HR
      have HT0 : Hid (LR (wr.alloc (.cells #[.slice A2 k c2] 54)) w.heap.size (.slice (some ⟨wr.heap.size, 0, none⟩) 1 1) (levs l 0)) := Lib.hid (by rw [levs_zero]; exact lr_first HR'.out HM.out hzr)
      have HR0 : Hid (SRow (wr.alloc (.cells #[.slice A2 k c2] 54)) w.heap.size (.slice A2 k c2) (lev l 0)) := Lib.hid (orow_alloc HR'.out _)
      have hB0 : Below w.heap.size w (wr.alloc (.cells #[.slice A2 k c2] 54)) := Below.trans hB (by go_grown)
      have HK0 : Hid (k = 2 ^ (h - 0)) := Lib.hid (by rw [Nat.sub_zero]; exact HN.out)
      go_wp2_with fail
      clear HR' hB hzr
      go_loopw [3, 5] (fun rv ov wx => ∃ (j q : Nat) (A5 : Option Addr) (c5 : Nat), rv = .slice A5 q c5 ∧ q ≤ 1024 ∧ 1 ≤ q ∧ Hid (j ≤ h) ∧ Hid (q = 2 ^ (h - j)) ∧ Hid (SRow wx w.heap.size (.slice A5 q c5) (lev l j)) ∧ Hid (LR wx w.heap.size ov (levs l j)) ∧ Below w.heap.size w wx) (fun rv _ _ => rowLen rv)
      case atStart => exact ⟨0, k, A2, c2, rfl, h2, h1, Lib.hid (Nat.zero_le _), HK0, HR0, HT0, hB0⟩
      case round =>
        clear HR0 HT0 hB0 HK0
        obtain ⟨j, q, A5, c5, rfl, hq, hq1, HJ, HQ, HR, HT, hB⟩ := hrel
        obtain ⟨wo, rfl⟩ : ∃ wo : World, wo = wr := ⟨_, rfl⟩
        have hzr := hB.size
        have HLv : Hid ((lev l j).length = q) := Lib.hid (by rw [HQ.out]; exact lev_pow (by rw [HLn.out, HN.out]) HJ.out)
        by_cases hlt : 1 < q
        · have HJ2 : Hid (j < h) := Lib.hid (by
            rcases Nat.lt_or_ge j h with a | a
            · exact a
            · have e : h - j = 0 := by omega
              have := HQ.out
              rw [e, Nat.pow_zero] at this
              omega)
          have HQ2 : Hid (q / 2 = 2 ^ (h - (j + 1))) := Lib.hid (by
            have e : h - j = (h - (j + 1)) + 1 := by have := HJ2.out; omega
            have := HQ.out
            rw [e, Nat.pow_succ] at this
            omega)
          have HU : Hid ((upL (lev l j)).length = q / 2) := Lib.hid (by rw [upL_len, HLv.out])
          have HSm := Lib.hid (fun s hs => @lev_small l j s hs)
          obtain ⟨b, off, rfl, hb, hC⟩ := (srow_slr HR.out HLv.out).2.resolve_left (by omega)
          have HCl : Hid (∀ W, Below wo.heap.size wo W → SlC encS 1 W b off (lev l j)) := Lib.hid (fun W hB' => hC.below hB' hb)
          have HS0 : Hid (SRow wo wo.heap.size (.slice none 0 0) ((upL (lev l j)).take 0)) := Lib.hid (srow_nil _ _)
          have HE1 : Hid (lev l (j + 1) = upL (lev l j)) := Lib.hid rfl
          generalize lev l j = L at *
          have tq : decide ((1 : Int) < (q : Int)) = true := by simp; omega
          clear hC
          go_wp2_with fail
          go_loopw [6, 7] (fun tv ti wx => ∃ (y i : Nat) (A6 : Option Addr) (c6 : Nat), Hid (i = 2 * y) ∧ i ≤ q + 1 ∧ ti = .int .i64 i ∧ tv = .slice A6 y c6 ∧ Hid (SRow wx wo.heap.size (.slice A6 y c6) ((upL L).take y)) ∧ Below wo.heap.size wo wx) (fun _ ti _ => q + 1 - (intOf ti).toNat)
          case atStart => exact ⟨0, 0, _, _, Lib.hid rfl, by omega, rfl, rfl, HS0, Below.refl _ _⟩
          case round =>
            obtain ⟨y, i, A6, c6, HI, hi, rfl, rfl, HR6, hBx⟩ := hrel
            have hzx := hBx.size
            by_cases hlt2 : i < q
            · have hqe : Hid (q % 2 = 0) := Lib.hid (by
                have := HQ2.out
                have e : h - j = (h - (j + 1)) + 1 := by have := HJ2.out; omega
                have h3 := HQ.out
                rw [e, Nat.pow_succ] at h3
                omega)
              have hlt3 : i + 1 < q := by have := HI.out; have := hqe.out; omega
              obtain ⟨a, ha⟩ : ∃ a, atB L i = a := ⟨_, rfl⟩
              obtain ⟨b2, hb2⟩ : ∃ a, atB L (i + 1) = a := ⟨_, rfl⟩
              have ga : L[i]? = some a := by rw [← ha]; exact at_of_lt (by rw [HLv.out]; omega)
              have gb : L[i + 1]? = some b2 := by rw [← hb2]; exact at_of_lt (by rw [HLv.out]; omega)
              have sa := HSm.out a (List.mem_of_getElem? ga)
              have sb := HSm.out b2 (List.mem_of_getElem? gb)
              have HCell : Hid (∀ W, Below wo.heap.size wo W → W.cell? ⟨b, off + i, none⟩ = some (.string a) ∧ W.cell? ⟨b, off + (i + 1), none⟩ = some (.string b2)) := Lib.hid (fun W hb => ⟨(HCl.out W hb).str ga, (HCl.out W hb).str gb⟩)
              have HTk : Hid (((upL L).take y).length = y) := Lib.hid (by rw [List.length_take, HU.out]; have := HI.out; omega)
              have HNew : Hid ((upL L).take y ++ [nodeS a b2] = (upL L).take (y + 1)) := Lib.hid (by rw [← ha, ← hb2, HI.out]; exact upL_step HLv.out (by have := HI.out; omega))
              have hy : y + 1 ≤ 1000000 := by have := HI.out; omega
              have e1 : IntKind.i64.wrap ((i : Int) + 1) = (i : Int) + 1 := IntWalk.i64_in _ (by omega)
              have i0 : (0 : Int) ≤ (i : Int) := by omega
              have i1 : (i : Int) < q := by omega
              have i2 : (0 : Int) ≤ (i : Int) + 1 := by omega
              have i3 : (i : Int) + 1 < q := by omega
              clear ha hb2 ga gb
              go_wp2_with fail
              go_region_held3 (fun w' => w'.cell? ⟨b, off + i, none⟩ = some (.string a) ∧ w'.cell? ⟨b, off + (i + 1), none⟩ = some (.string b2))
                ((refine HCell.out _ ?_; go_grown))
                (first
                  | (go_at_call 67; refine (rnode_any a b2 _ (by omega) (by omega)).mono ?_; rintro e w2 ⟨rfl, hb2⟩; have hB2 : Below wo.heap.size wo w2 := Below.trans hBx (Below.trans (by go_grown) (hb2.mono hzx)); have HR2 : Hid (SRow w2 wo.heap.size (.slice A6 y c6) ((upL L).take y)) := Lib.hid (orow_below HR6.out (Below.trans (by go_grown) hb2) (Nat.le_refl _)); clear hb2; have hz2 := hB2.size)
                  | (refine step_append_str rfl (.tmp 33) (.tmp 44) rfl rfl (orow_alloc HR2.out _) w2.heap.size (nodeS a b2) rfl (Blk.new _ _ _) y HTk.out _ HNew.out (by omega) (by simp; omega) ?_; intro A3 c3 w3 HR3 hg3 hb3; have hB3 : Below wo.heap.size wo w3 := Below.trans hB2 (Below.trans (by go_grown) hb3); clear hg3))
              go_wp2_with fail
              go_roundw
              case rel => exact ⟨y + 1, i + 2, A3, c3, Lib.hid (by rw [HI.out]; omega), by omega, by go_num, rfl, HR3, hB3⟩
              case measure => simp [intOf]; omega
            · have hy : Hid (y = q / 2) := Lib.hid (by have := HI.out; have := HU.out; have hl := orow_form HR6.out; obtain ⟨_, _, hv, _⟩ := hl; injection hv with _ hv _; rw [List.length_take, HU.out] at hv; omega)
              have hR := HR6.out
              rw [List.take_of_length_le (by rw [HU.out, hy.out]; exact Nat.le_refl _)] at hR
              have HR' : Hid (SRow wr wo.heap.size (.slice A6 y c6) (upL L)) := Lib.hid hR
              clear hR HR6
              have hBw := hB.trans (hBx.mono hzr)
              obtain ⟨X, hX1, hX2, hX3⟩ := HT.out.below hBx (Nat.le_refl _)
              obtain ⟨Ao, co, rfl, _, _⟩ := orow_form hX1
              have hXl : X.length = j + 1 := by rw [hX2, levs_len]
              rw [hXl] at hX1 ⊢
              have HX1 := Lib.hid hX1
              have HX2 := Lib.hid hX2
              have HX3 := Lib.hid hX3
              have HXn : Hid ((X ++ [(⟨A6, y, c6⟩ : Sl)]).length = j + 1 + 1) := Lib.hid (by rw [List.length_append, hXl]; rfl)
              have HZ : Hid (w.heap.size ≤ (wr.alloc (.cells #[.slice A6 y c6] 54)).heap.size) := Lib.hid (by have := hBw.size; simp; omega)
              have HB1 := Lib.hid hBw
              have hjb : j ≤ 100 := by have := HJ.out; omega
              clear hX1 hX2 hX3 hXl hBw
              go_wp2_with (at_builtin; refine wpList_append_sls rfl (.tmp 46) (.tmp 48) rfl rfl (orow_alloc HX1.out _) (wr.heap.size + 1) (some ⟨wr.heap.size, 0, none⟩) 1 1 [(⟨A6, y, c6⟩ : Sl)] rfl (slr_one encSl_len ⟨A6, y, c6⟩ (Blk.new _ _ _) (by omega)) (j + 1 + 1) HXn.out (by omega) HZ.out ?_; intro A4 c4 w4 HV4 hg4 hb4 hc41 hc42)
              have HB4 : Hid (Below w.heap.size w w4) := Lib.hid (Below.trans HB1.out (Below.trans (by go_grown) hb4))
              have HNx : Hid (SRow w4 w.heap.size (.slice A6 y c6) (upL L)) := Lib.hid (orow_grown (orow_alloc (orow_base HR'.out hB.size) _) hg4 (orow_ne (orow_alloc HR'.out (.cells #[.slice A6 y c6] 54)) (orow_alloc HX1.out _) (by decide)))
              have HLR : Hid (LR w4 w.heap.size (.slice A4 (j + 1 + 1) c4) (levs l (j + 1))) := Lib.hid (by
                rw [← levs_succ, HE1.out]
                refine lr_push (s := ⟨A6, y, c6⟩) HV4.out HX2.out ?_ HNx.out (by rw [HU.out]; exact hy.out)
                intro i s L1 h1 h2
                obtain ⟨r1, r2⟩ := HX3.out i s L1 h1 h2
                exact ⟨orow_grown (orow_alloc r1 _) hg4 (orow_ne (orow_alloc r1 (.cells #[.slice A6 y c6] 54)) (orow_alloc HX1.out _) (by decide)), r2⟩)
              clear hg4 hb4 hc41 hc42 HV4
              go_roundw
              case rel => exact ⟨j + 1, y, A6, c6, rfl, by have := hy.out; omega, by have := hy.out; omega, Lib.hid HJ2.out, Lib.hid (by rw [hy.out]; exact HQ2.out), Lib.hid (by rw [HE1.out]; exact HNx.out), HLR, HB4.out⟩
              case measure => have := hy.out; simp [rowLen]; omega
        · have HJ2 : Hid (j = h) := Lib.hid (by
            rcases Nat.lt_or_ge j h with a | a
            · have : 2 ^ 1 ≤ 2 ^ (h - j) := pow_le_two (by omega)
              rw [← HQ.out] at this
              omega
            · have := HJ.out; omega)
          have hjj := HJ2.out
          subst hjj
          obtain ⟨A8, c8, rfl, hr8⟩ := HT.out.reads
          rw [levs_len] at hr8 ⊢
          have HR8 := Lib.hid hr8
          clear hr8
          go_wp2
          go_ret
          exact ⟨hB, A8, ⟨c8, rfl⟩, HR8⟩
end Go.Proofs.YtkaaicmadknjcaaDoor
/- chapter 11's reference: Root, Path. -/
namespace Go.Proofs.YtkaaicmadknjcaaDoor
open Go.RowKit
theorem rroot_any (l : List ByteArray) (A : Option Addr) (n c : Nat) (w : World) (hL : SlR encS 1 w w.heap.size A n l) (hn : n ≤ 2000) (hs : ∀ s ∈ l, s.size ≤ 900000) :
    Calls Tryd.prog 61 #[.slice A n c] w fun e w' => e = .returned (.tuple #[.string (rootV l), .int .i64 (rootE l)]) ∧ Below w.heap.size w w' := by
  have hl := hL.1
  have HM := Lib.hid (may_any n c A w hn)
  cases hm : mayB n
  · have hv : rootV l = ByteArray.empty := by simp [rootV, hl, hm]
    have he : rootE l = 1 := by simp [rootE, hl, hm]
    rw [hv, he]
    rw [hm] at HM
    clear hL hs hl hv he hm
    go_enter Tryd.func61, Tryd.ntmps61
    go_wp2_with fail
    refine HM.out.mono ?_
    rintro e w1 ⟨rfl, rfl⟩
    go_wp2_with fail
    go_ret2
    exact ⟨rfl, Below.refl _ _⟩
  · obtain ⟨hp, hh⟩ := hgt_may hm
    have hv : rootV l = atB (lev l (hgt n)) 0 := by simp [rootV, rootB, hl, hm]
    have he : rootE l = 0 := by simp [rootE, hl, hm]
    rw [hv, he]
    rw [hm] at HM
    have HP := Lib.hid hp
    have HL := Lib.hid hl
    have HR := Lib.hid (rrows_any l A n c (hgt n) w hL hp hh hs)
    generalize hgt n = h at *
    obtain ⟨x, hx⟩ : ∃ x, atB (lev l h) 0 = x := ⟨_, rfl⟩
    rw [hx]
    have HX := Lib.hid hx
    clear hL hs hl hv he hm hp hx
    go_enter Tryd.func61, Tryd.ntmps61
    go_wp2_with fail
    refine HM.out.mono ?_
    rintro e w1 ⟨rfl, rfl⟩
    go_wp2_with fail
    refine HR.out.mono ?_
    rintro e w2 ⟨hb2, A2, c2, rfl, HR2⟩
    obtain ⟨b, off, s, rfl, hb, hc, hq⟩ := HR2.out.at_ (levs_at l (Nat.le_refl h))
    obtain ⟨sA, sn, sc⟩ := s
    simp only at hc hq
    have hsn : sn = 1 := by rw [← hq.1, lev_pow (by rw [HL.out, HP.out]) (Nat.le_refl h)]; simp
    subst hsn
    obtain ⟨b2, off2, rfl, hb2', hC⟩ := hq.2.resolve_left (by omega)
    have c0 := hC.str (at_of_lt (L := lev l h) (k := 0) (by rw [hq.1]; omega))
    rw [Nat.add_zero, HX.out] at c0
    have e1 : ((h + 1 : Nat) : Int) - 1 = (h : Int) := by omega
    have e2 : IntKind.i64.wrap (h : Int) = (h : Int) := wrap_i64_nat h (by omega)
    have i0 : (0 : Int) ≤ (h : Int) := by omega
    have i1 : (h : Int) < ((h + 1 : Nat) : Int) := by omega
    clear HM HR HR2 hq hC
    go_wp2
    go_ret2
    exact ⟨rfl, hb2⟩
theorem rpath_no (l : List ByteArray) (A : Option Addr) (n c : Nat) (i : Int) (w : World) (hl : l.length = n) (hn : n ≤ 2000) (h : pathOk l i = false) :
    Calls Tryd.prog 63 #[.slice A n c, .int .i64 i] w (PathPost l i w) := by
  have HM := Lib.hid (may_any n c A w hn)
  have HN := Lib.hid (path_no (w := w) h)
  unfold pathOk at h
  rw [hl] at h
  cases hm : mayB n
  · rw [hm] at HM
    clear h hm
    go_enter Tryd.func63, Tryd.ntmps63
    go_wp2_with fail
    refine HM.out.mono ?_
    rintro e w1 ⟨rfl, rfl⟩
    go_wp2_with fail
    go_ret2
    exact HN.out
  · rw [hm] at HM h
    simp only [Bool.true_and, hasI, Bool.and_eq_false_iff, decide_eq_false_iff_not] at h
    by_cases h0 : i < 0
    · clear h hm
      go_enter Tryd.func63, Tryd.ntmps63
      go_wp2_with fail
      refine HM.out.mono ?_
      rintro e w1 ⟨rfl, rfl⟩
      go_wp2_with fail
      go_ret2
      exact HN.out
    · have h1 : (n : Int) ≤ i := by omega
      clear h hm
      go_enter Tryd.func63, Tryd.ntmps63
      go_wp2_with fail
      refine HM.out.mono ?_
      rintro e w1 ⟨rfl, rfl⟩
      go_wp2_with fail
      go_ret2
      exact HN.out
set_option maxRecDepth 100000 in
set_option maxHeartbeats 1000000 in
theorem rpath_yes (l : List ByteArray) (A : Option Addr) (n c h : Nat) (i : Nat) (w : World) (hL : SlR encS 1 w w.heap.size A n l) (hn : n = 2 ^ h) (hh : h ≤ 10) (hm : mayB n = true) (hi : i < n) (hs : ∀ s ∈ l, s.size ≤ 900000) :
    Calls Tryd.prog 63 #[.slice A n c, .int .i64 i] w fun e w' => Below w.heap.size w w' ∧ ∃ A c, e = .returned (.tuple #[.slice A h c, .int .i64 0]) ∧ Hid (SRow w' w.heap.size (.slice A h c) (pathB l i h)) := by
  have h2 : n ≤ 1024 := by rw [hn]; exact Nat.le_trans (pow_le_two hh) (by decide)
  have hM := may_any n c A w (by omega)
  rw [hm] at hM
  have HM := Lib.hid hM
  have HL : Hid (l.length = 2 ^ h) := Lib.hid (by rw [hL.1, hn])
  have HN := Lib.hid hn
  have HR := Lib.hid (rrows_any l A n c h w hL hn hh hs)
  clear hM hL hs hm hn
  go_enter Tryd.func63, Tryd.ntmps63
  go_wp2_with fail
  refine HM.out.mono ?_
  rintro e w1 ⟨rfl, rfl⟩
  go_wp2_with fail
  refine HR.out.mono ?_
  rintro e w2 ⟨hb2, A2, c2, rfl, HR2⟩
  have hz2 := hb2.size
  have e1 : ((h + 1 : Nat) : Int) - 1 = (h : Int) := by omega
  have e2 : IntKind.i64.wrap (h : Int) = (h : Int) := wrap_i64_nat h (by omega)
  have HRR : Hid (∀ W, Below w2.heap.size w2 W → RRows W w2.heap.size A2 (h + 1) (levs l h)) := Lib.hid (fun W hb => HR2.out.below hb)
  clear HM HR HR2
  go_wp2
  go_loopw [1, 7, 8] (fun iv v kv wr => ∃ (k j : Nat) (A3 : Option Addr) (c3 : Nat), k ≤ h ∧ kv = .int .i64 k ∧ iv = .int .i64 j ∧ Hid (i / 2 ^ k = j) ∧ v = .slice A3 k c3 ∧ Hid (SRow wr w2.heap.size (.slice A3 k c3) (pathB l i k)) ∧
      Below w2.heap.size w2 wr) (fun _ _ kv _ => h - (intOf kv).toNat)
  case atStart => exact ⟨0, i, _, _, Nat.zero_le _, rfl, rfl, Lib.hid (by simp), rfl, srow_nil _ _, Below.refl _ _⟩
  case round =>
    obtain ⟨k, j, A3, c3, hk, rfl, rfl, HJ, rfl, HP, hB⟩ := hrel
    have hzr := hB.size
    by_cases hlt : k < h
    · obtain ⟨b, off, s, rfl, hb, hc, hq⟩ := (HRR.out wr hB).at_ (levs_at l (by omega : k ≤ h))
      obtain ⟨sA, sn, sc⟩ := s
      simp only at hc hq
      have hq1 : (lev l k).length = sn := hq.1
      have hsn : sn = 2 ^ (h - k) := by rw [← hq1, lev_pow HL.out (by omega)]
      obtain ⟨a1, a2, a3⟩ := half_lt (i := i) (h := h) (k := k) (by rw [← HN.out]; exact hi) hlt
      rw [HJ.out, ← hsn] at a1
      rw [HJ.out] at a2
      rw [← hsn] at a3
      have hx : (j ^^^ 1) < sn := by rw [xor_one]; split <;> omega
      have hjs : sn ≤ 1024 := by rw [hsn]; exact Nat.le_trans (pow_le_two (by omega : h - k ≤ 10)) (by decide)
      obtain ⟨b2, off2, rfl, hb2', hC⟩ := hq.2.resolve_left (by omega)
      have g0 := at_of_lt (L := lev l k) (k := j ^^^ 1) (by omega)
      have c0 := hC.str g0
      have HEq := Lib.hid (side_step l i k HJ.out (Eq.refl (atB (lev l k) (j ^^^ 1))))
      have HPa := Lib.hid (fun W => rpartner_any j W (by omega))
      generalize atB (lev l k) (j ^^^ 1) = x at c0 HEq
      generalize (j ^^^ 1) = y at *
      have HCell : Hid (∀ W, Below w2.heap.size w2 W → W.cell? ⟨b, off + k, none⟩ = some (.slice (some ⟨b2, off2, none⟩) sn sc) ∧ W.cell? ⟨b2, off2 + y, none⟩ = some (.string x)) := Lib.hid (fun W hB' => ⟨(hB'.cell (p := ⟨b, off + k, none⟩) hb).trans ((hB.cell (p := ⟨b, off + k, none⟩) hb).symm.trans hc), (hB'.cell (p := ⟨b2, off2 + y, none⟩) hb2').trans ((hB.cell (p := ⟨b2, off2 + y, none⟩) hb2').symm.trans c0)⟩)
      have t1 : (j : Int).tdiv 2 = ((j / 2 : Nat) : Int) := rfl
      have i0 : (0 : Int) ≤ (y : Int) := by omega
      have i1 : (y : Int) < (sn : Int) := by omega
      have i2 : (0 : Int) ≤ (k : Int) := by omega
      have i3 : (k : Int) < ((h + 1 : Nat) : Int) := by omega
      have i4 : (k : Int) < (h : Int) + 1 := by omega
      have i5 : k < h + 1 := by omega
      have HPl : Hid ((pathB l i k).length = k) := Lib.hid (pathB_len l i k)
      have HJ2 : Hid (i / 2 ^ (k + 1) = j / 2) := Lib.hid a2
      have hj1 : j < sn := a1
      clear g0 hC hq hq1 hsn a1 a2 a3 c0 hc
      go_wp2_with fail
      go_region_held3 (fun w' => w'.cell? ⟨b, off + k, none⟩ = some (.slice (some ⟨b2, off2, none⟩) sn sc) ∧ w'.cell? ⟨b2, off2 + y, none⟩ = some (.string x))
        ((refine HCell.out _ ?_; go_grown))
        (first
          | (go_at_call 112; refine (HPa.out _).mono ?_; rintro e w3 ⟨rfl, hw3⟩; have hB2 : Below wr.heap.size wr w3 := (by rw [← hw3]; go_grown); have HP3 : Hid (SRow w3 w2.heap.size (.slice A3 k c3) (pathB l i k)) := Lib.hid (orow_below HP.out hB2 (Nat.le_refl _)); clear hw3; have hB3 : Below w2.heap.size w2 w3 := hB.trans (hB2.mono hzr); clear hB2; have hz3 := hB3.size)
          | (refine step_append_str rfl (.tmp 31) (.tmp 40) rfl rfl (orow_alloc HP3.out _) w3.heap.size x rfl (Blk.new _ _ _) k HPl.out _ HEq.out (by omega) (by simp; omega) ?_; intro A4 c4 w4 HR4 hg4 hb4; have hB4 : Below w2.heap.size w2 w4 := Below.trans hB3 (Below.trans (by go_grown) hb4); clear hg4))
      go_wp2_with fail
      go_roundw
      case rel => exact ⟨k + 1, j / 2, A4, c4, by omega, by go_num, by go_num, HJ2, rfl, HR4, hB4⟩
      case measure => simp [intOf]; omega
    · obtain rfl : k = h := by omega
      go_wp2
      go_ret2
      exact ⟨Below.trans hb2 (hB.mono hz2), A3, c3, rfl, Lib.hid (orow_base HP.out (by omega))⟩
theorem rpath_any (l : List ByteArray) (A : Option Addr) (n c : Nat) (i : Int) (w : World) (hL : SlR encS 1 w w.heap.size A n l) (hn : n ≤ 2000) (hs : ∀ s ∈ l, s.size ≤ 900000) :
    Calls Tryd.prog 63 #[.slice A n c, .int .i64 i] w (PathPost l i w) := by
  cases h : pathOk l i
  · exact rpath_no l A n c i w hL.1 hn h
  · obtain ⟨hm, k, rfl, hk⟩ := path_yes h
    have hl := hL.1
    rw [hl] at hm hk
    obtain ⟨hp, hh⟩ := hgt_may hm
    refine (rpath_yes l A n c (hgt n) k w hL hp hh hm hk hs).mono ?_
    rintro e w' ⟨hb, A', c', rfl, hR⟩
    have hv : pathV l (k : Int) = pathB l k (hgt n) := by simp [pathV, h, hl]
    have he : pathE l (k : Int) = 0 := by simp [pathE, h]
    refine ⟨hb, A', c', ?_, ?_⟩
    · rw [hv, he, pathB_len]
    · rw [hv, pathB_len]; exact hR
end Go.Proofs.YtkaaicmadknjcaaDoor
