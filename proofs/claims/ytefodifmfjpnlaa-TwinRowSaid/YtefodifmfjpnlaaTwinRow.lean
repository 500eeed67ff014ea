/- chapter 14, TwinRow: the walk. -/
import Derived.Test.YtefodifmfjpnlaaTwinR
import Derived.Test.YtefodifmfjpnlaaTwinLaw
import Derived.Deep.RegionWith
import Derived.Deep.CutRange
set_option linter.unusedVariables false
namespace Go.Proofs.Ytefodifmfjpnlaa
open Go.RowKit
/-- what is known of the platter ahead of a round -/
def RowGood (q : Plat) (now : ByteArray) : Prop := q.cache = [] ∧ q.sectors.length = 3 ∧ ∃ ok, getF q 0 = (now, ok, 0)
theorem row_start : RowGood tp0 ⟨#[]⟩ := ⟨rfl, rfl, false, tw2⟩
theorem row_step {q : Plat} {now : ByteArray} (h : RowGood q now) {s : ByteArray} (hs : s.size ≤ 128) (most : Int) (F : List Int) :
    ∃ (a b : Plat) (dn : Bool) (x : ByteArray) (ok : Bool), putF q 0 s most = (a, dn, 0) ∧ crashF a F = (b, 0) ∧ getF b 0 = (x, ok, 0) ∧ RowGood b x ∧ (x = s ∨ (dn = false ∧ x = now)) := by
  obtain ⟨h1, h2, ok0, h3⟩ := h
  have hg : (getF q 0).2.2 = 0 := by rw [h3]
  have hf := put_fits (s := s) h1 hg (by rw [h2]; decide) hs most
  obtain ⟨b, x, ok, k1, k2, k3, k4, k5⟩ := tcrash_plain h1 hg hf F
  refine ⟨(putF q 0 s most).1, b, (putF q 0 s most).2.1, x, ok, Prod.ext rfl (Prod.ext rfl hf), k1, k2, ⟨k4, by rw [k5, h2], ok, k2⟩, ?_⟩
  rcases k3 with ⟨rfl, _⟩ | ⟨a, b, _⟩
  · exact .inl rfl
  · exact .inr ⟨a, by rw [b, h3]⟩
/-- behind the Put: the platter's box, its rows, the world -/
def PutDone (wr : World) (a : Plat) (gb : Nat) (A5 : Option Addr) (c5 : Nat) (A5' : Option Addr) (c5' : Nat) (wx : World) : Prop :=
  PlatPre wx A5 a.sectors.length A5' a.cache.length a ∧ Blk wx gb 25 #[.slice A5 a.sectors.length c5, .slice A5' a.cache.length c5'] ∧ Below wr.heap.size wr wx
theorem rows_pre {w : World} {B : Nat} {p : Plat} {A A' : Option Addr} {c c' : Nat} (h1 : w.ownsRow B 9 1 (.slice A p.sectors.length c) p.sectors.length (flat encS p.sectors)) (h2 : w.ownsRow B 42 2 (.slice A' p.cache.length c') p.cache.length (flat encP p.cache)) : PlatPre w A p.sectors.length A' p.cache.length p :=
  PlatAt.pre ⟨SlR.of_own encS_len h1 rfl, SlR.of_own encP_len h2 rfl⟩
theorem done_after {wr w5 : World} {a : Plat} {A5 A5' : Option Addr} {c5 c5' : Nat} (h1 : w5.ownsRow wr.heap.size 9 1 (.slice A5 a.sectors.length c5) a.sectors.length (flat encS a.sectors)) (h2 : w5.ownsRow wr.heap.size 42 2 (.slice A5' a.cache.length c5') a.cache.length (flat encP a.cache)) (hb : Below wr.heap.size wr w5) :
    PutDone wr a w5.heap.size A5 c5 A5' c5' (w5.alloc (.cells #[.slice A5 a.sectors.length c5, .slice A5' a.cache.length c5'] 25)) :=
  ⟨(rows_pre h1 h2).on (by go_grown), Blk.new _ _ _, by have := hb.size; go_grown⟩
theorem below_alloc_drew {wr w5 : World} {o : Obj} (h : Below (wr.alloc o).drew.heap.size (wr.alloc o).drew w5) : Below (wr.heap.size + 1) (wr.alloc o) w5 := by
  have e : (wr.alloc o).drew.heap.size = wr.heap.size + 1 := World.size_alloc wr o
  rw [e] at h
  exact ⟨h.os, h.tape, h.output, h.size, h.block⟩
theorem own_one {w : World} {B g : Nat} {s : ByteArray} (hB : B ≤ g) (h : Blk w g 9 #[.string s]) : w.ownsRow B 9 1 (.slice (some ⟨g, 0, none⟩) 1 1) 1 [.string s] :=
  ⟨rfl, .inr ⟨g, 1, #[.string s], rfl, hB, h, Nat.le_refl _, by decide, by simp, rfl⟩⟩
theorem done_before {wr w5 : World} {a : Plat} {A5 A5' : Option Addr} {c5 c5' : Nat} (h1 : w5.ownsRow (wr.heap.size + 1) 9 1 (.slice A5 a.sectors.length c5) a.sectors.length (flat encS a.sectors)) (h2 : w5.ownsRow (wr.heap.size + 1) 42 2 (.slice A5' a.cache.length c5') a.cache.length (flat encP a.cache))
    (hb : Below (wr.heap.size + 1) (wr.alloc (.cells #[.slice none 0 0, .slice none 0 0] 25)) w5) :
    PutDone wr a wr.heap.size A5 c5 A5' c5' ((w5.setCell ⟨wr.heap.size, 0, none⟩ (.slice A5 a.sectors.length c5)).setCell ⟨wr.heap.size, 1, none⟩ (.slice A5' a.cache.length c5')) := by
  refine ⟨rows_pre (B := wr.heap.size + 1) (c := c5) (c' := c5') ?_ ?_, ?_, ?_⟩
  · exact ownsRow_setCell_below (ownsRow_setCell_below h1 (by simp) _) (by simp) _
  · exact ownsRow_setCell_below (ownsRow_setCell_below h2 (by simp) _) (by simp) _
  · have := ((((Blk.new wr 25 #[.slice none 0 0, .slice none 0 0]).below hb (by simp)).set_ 0 (.slice A5 a.sectors.length c5)).set_ 1 (.slice A5' a.cache.length c5'))
    simpa using this
  · have hb2 : Below wr.heap.size wr w5 := Below.trans (by go_grown) (hb.mono (by omega))
    exact (hb2.setCell (by simp) _).setCell (by simp) _
set_option maxHeartbeats 4000000 in
set_option maxRecDepth 100000 in
theorem row_walk (L : List ByteArray) (D : List Int) (R : List IRow) (A B C : Option Addr) (n m r c d e : Nat) (w : World)
    (HL : Hid (∀ W, Below w.heap.size w W → SlR encS 1 W W.heap.size A n L)) (HD : Hid (∀ W, Below w.heap.size w W → SlR encI 1 W W.heap.size B m D)) (HR : Hid (∀ W, Below w.heap.size w W → SlR encR 1 W W.heap.size C r R ∧ ∀ x ∈ R, RowOk W x)) :
    Calls Try.prog 10 #[.slice A n c, .slice B m d, .slice C r e] w fun e w' => e = .returned (.bool true) ∧ Below w.heap.size w w' := by
  by_cases hfar : n ≤ 20 ∧ m ≤ 30 ∧ r ≤ 30
  · obtain ⟨hn, hm, hr⟩ := hfar
    obtain ⟨i0, hi0, hz0, hz1, hz2⟩ := info_parts str_info
    go_enter Try.func10, Try.ntmps10
    go_wp2_with fail
    refine (new_any 3 _).mono ?_
    rintro e w1 ⟨v, rfl, hO1, hb1⟩
    rw [tw1] at hO1 ⊢
    obtain ⟨A1, c1, A1', c1', rfl, ho1, ho2⟩ := hO1
    have hB1 : Below w.heap.size w w1 := hb1
    have hz1' := hb1.size
    clear hb1
    simp only [tp0, List.length_cons, List.length_nil] at ho1 ho2 ⊢
    have HO1 := Lib.hid (And.intro ho1 ho2)
    clear ho1 ho2
    go_wp2_with fail
    have hX0 : Blk ((w1.alloc (.cells #[.slice A1 3 c1, .slice A1' 0 c1'] 25)).alloc (.cells #[.string ⟨#[]⟩] 9)) w1.heap.size 25 #[.slice A1 3 c1, .slice A1' 0 c1'] := (Blk.new w1 _ _).alloc _
    have hM0 : ((w1.alloc (.cells #[.slice A1 3 c1, .slice A1' 0 c1'] 25)).alloc (.cells #[.string ⟨#[]⟩] 9)).ownsRow w.heap.size 9 1 (.slice (some ⟨w1.heap.size + 1, 0, none⟩) 1 1) 1 [.string ⟨#[]⟩] :=
      ⟨rfl, .inr ⟨_, 1, #[.string ⟨#[]⟩], rfl, by omega, by have := Blk.new (w1.alloc (.cells #[.slice A1 3 c1, .slice A1' 0 c1'] 25)) 9 #[.string ⟨#[]⟩]; simpa [Blk] using this, Nat.le_refl _, by decide, by simp, rfl⟩⟩
    go_loopw [9, 10] (fun mv i wr => ∃ (k : Nat) (q : Plat) (A1 : Option Addr) (c1 : Nat) (A1' : Option Addr) (c1' : Nat) (gm : Nat) (now : ByteArray), k ≤ n ∧ i = .int .i64 k ∧ mv = .slice (some ⟨gm, 0, none⟩) 1 1 ∧ Hid (RowGood q now) ∧ Below w.heap.size w wr ∧ Blk wr w1.heap.size 25 #[.slice A1 3 c1, .slice A1' 0 c1'] ∧
      Hid (wr.ownsRow w.heap.size 9 1 (.slice A1 3 c1) 3 (flat encS q.sectors) ∧ wr.ownsRow w.heap.size 42 2 (.slice A1' 0 c1') 0 (flat encP q.cache)) ∧ Hid (wr.ownsRow w.heap.size 9 1 (.slice (some ⟨gm, 0, none⟩) 1 1) 1 [.string now])) (fun _ i _ => n - (intOf i).toNat)
    case atStart => exact ⟨0, tp0, A1, c1, A1', c1', w1.heap.size + 1, ⟨#[]⟩, Nat.zero_le _, rfl, rfl, row_start, by go_grown, hX0, ⟨(HO1.out.1.alloc _).alloc _, (HO1.out.2.alloc _).alloc _⟩, hM0⟩
    case round =>
      clear hX0 hM0 HO1
      obtain ⟨k, q, A1, c1, A1', c1', gm, now, hk, rfl, rfl, HG, hBr, hX, HO, HM⟩ := hrel
      rename_i wr _ _
      have hzr := hBr.size
      by_cases hlt : k < n
      · obtain ⟨s, hs⟩ : ∃ x, L[k]? = some x := ⟨L[k]'(by have := (HL.out _ hBr).1; omega), List.getElem?_eq_getElem _⟩
        have HLr := HL.out _ hBr
        rcases HLr.2 with h0 | ⟨bL, oL, rfl, hbL, hCL⟩
        · omega
        have s0 := hCL.str hs
        have x0 := hX.cells 0 _ rfl
        have x1 := hX.cells 1 _ rfl
        have hxl := hX.lt
        simp only [List.getElem_toArray, List.getElem_cons_zero, List.getElem_cons_succ] at x0 x1
        by_cases h128 : 128 < s.size
        · clear hCL HLr hs
          go_wp2_with fail
          refine (twins_any _).mono ?_
          rintro e w2 ⟨rfl, hb2⟩
          go_wp2_with fail
          go_ret
          exact ⟨rfl, hBr.trans (hb2.mono hBr.size)⟩
        have h128' : s.size ≤ 128 := by omega
        have HSTEP : Hid (∀ most, ∃ (a : Plat) (dn : Bool), putF q 0 s most = (a, dn, 0) ∧ ∀ F, ∃ (b : Plat) (x : ByteArray) (ok : Bool), crashF a F = (b, 0) ∧ getF b 0 = (x, ok, 0) ∧ RowGood b x ∧ (x = s ∨ (dn = false ∧ x = now))) := by
          intro most
          refine ⟨(putF q 0 s most).1, (putF q 0 s most).2.1, ?_, fun F => ?_⟩
          · obtain ⟨a, b, dn, x, ok, h1, _⟩ := row_step HG.out h128' most []
            rw [h1]
          · obtain ⟨a, b, dn, x, ok, h1, h2, h3, h4, h5⟩ := row_step HG.out h128' most F
            rw [h1]
            exact ⟨b, x, ok, h2, h3, h4, h5⟩
        have HPA : Hid (PlatAt wr wr.heap.size A1 3 A1' 0 q) := by
          refine ⟨?_, ?_⟩
          · exact SlR.of_own encS_len HO.out.1 (by rw [HG.out.2.1])
          · exact SlR.of_own encP_len HO.out.2 (by rw [HG.out.1]; rfl)
        have HPB : Hid (PlatAt (wr.alloc (.cells #[.slice none 0 0, .slice none 0 0] 25)) (wr.alloc (.cells #[.slice none 0 0, .slice none 0 0] 25)).heap.size A1 3 A1' 0 q) := PlatAt.grow HPA.out (by go_grown)
        have HS := Lib.hid hs
        have HX := Lib.hid hX
        have HBr := Lib.hid hBr
        clear hCL HLr hs h128 hX hBr
        go_upto_if 61 with (fail)
        go_cut [11] from 41 to 134 (fun s11 wx => ∃ most : Int, s11 = .int .i64 most ∧ wr = wx)
        case first =>
          by_cases hkd : k < m
          · have HDr := HD.out _ HBr.out
            rcases HDr.2 with h0 | ⟨bD, oD, rfl, hbD, hCD⟩
            · omega
            obtain ⟨dk, hdk⟩ : ∃ x, D[k]? = some x := ⟨D[k]'(by have := HDr.1; omega), List.getElem?_eq_getElem _⟩
            have d0 := hCD.int hdk
            clear hCD HDr hdk
            go_wp2_with fail
            go_meet
            exact ⟨dk, rfl, rfl⟩
          · go_wp2_with fail
            go_meet
            exact ⟨4, rfl, rfl⟩
        case rest =>
          obtain ⟨most, rfl, rfl⟩ := hcut
          obtain ⟨a, dn, hput, hnext⟩ := HSTEP.out most
          have HPUT := Lib.hid hput
          have HNEXT := Lib.hid hnext
          clear hput hnext HSTEP
          go_upto_region 13 with (fail)
          go_cut [12, 13, 14] from 41 to 134 (fun s12 s13 s14 wx => ∃ (gb : Nat) (A5 : Option Addr) (c5 : Nat) (A5' : Option Addr) (c5' : Nat), s12 = .pointer (some ⟨gb, 0, none⟩) ∧ s13 = .bool dn ∧ s14 = .int .i64 0 ∧ PutDone wr a gb A5 c5 A5' c5' wx)
          case first =>
            go_region_with (first
              | (go_at_call 26; refine (put_any q 0 s most A1 A1' 3 0 c1 c1' wr.drew HPA.out).mono ?_; rintro e w5 ⟨v, rfl, hO5, hb5⟩; rw [HPUT.out] at hO5 ⊢; dsimp only at hO5 ⊢; obtain ⟨A5, c5, A5', c5', rfl, ho1, ho2⟩ := hO5; have tokA : True := trivial)
              | (go_at_call 26; refine (put_any q 0 s most A1 A1' 3 0 c1 c1' (wr.alloc (.cells #[.slice none 0 0, .slice none 0 0] 25)).drew HPB.out).mono ?_; rintro e w5 ⟨v, rfl, hO5, hb5⟩; rw [HPUT.out] at hO5 ⊢; dsimp only at hO5 ⊢; obtain ⟨A5, c5, A5', c5', rfl, ho1, ho2⟩ := hO5; have hb6 := below_alloc_drew hb5; have hk5 := (Blk.new wr 25 #[.slice none 0 0, .slice none 0 0]).below hb6 (by omega); have k50 := hk5.cells 0 _ rfl; have k51 := hk5.cells 1 _ rfl; have k5f := hk5.frozen; have k5l := hk5.lt; simp only [List.getElem_toArray, List.getElem_cons_zero, List.getElem_cons_succ] at k50 k51))
            all_goals go_wp2_with fail
            all_goals go_meet
            all_goals first
              | exact ⟨_, _, _, _, _, rfl, rfl, rfl, done_after ho1 ho2 ⟨hb5.os, hb5.tape, hb5.output, hb5.size, hb5.block⟩⟩
              | exact ⟨_, _, _, _, _, rfl, rfl, rfl, done_before (own_base ho1 (Nat.le_of_eq (World.size_alloc wr _).symm)) (own_base ho2 (Nat.le_of_eq (World.size_alloc wr _).symm)) hb6⟩
          case rest =>
            obtain ⟨gb, A5, c5, A5', c5', rfl, rfl, rfl, HP5, hY5, hs5⟩ := hcut
            obtain ⟨w5, rfl⟩ : ∃ W : World, W = wc := ⟨wc, rfl⟩
            have hX5 := HX.out.below hs5 HX.out.lt
            have hB5 : Below w.heap.size w w5 := HBr.out.trans (hs5.mono HBr.out.size)
            have hz5 := hs5.size
            have HM5 := Lib.hid (own_below HM.out hs5 (Nat.le_refl _))
            generalize a.sectors.length = la at *
            generalize a.cache.length = ka at *
            clear HPA HPB HPUT x0 x1 s0 hxl HX HO hs5 HM
            go_upto_if 82 with (fail)
            go_cut [15] from 41 to 134 (fun s15 wx => ∃ (F : List Int) (AF : Option Addr) (nF cF : Nat), s15 = .slice AF nF cF ∧ w5 = wx ∧ Hid ((∀ W, Below w.heap.size w W → SlR encI 1 W W.heap.size AF nF F) ∧ nF ≤ 140737488351232 ∧ ∀ x ∈ F, x ≤ 9223372036854775807))
            case first =>
              by_cases hkr : k < r
              · have HRr := HR.out _ hB5
                rcases HRr.1.2 with h0 | ⟨bR, oR, rfl, hbR, hCR⟩
                · omega
                obtain ⟨fr, hfr⟩ : ∃ x, R[k]? = some x := ⟨R[k]'(by have := HRr.1.1; omega), List.getElem?_eq_getElem _⟩
                have f0 := hCR.irow hfr
                have HFM := Lib.hid (List.mem_of_getElem? hfr)
                clear hCR HRr hfr
                go_wp2_with fail
                go_meet
                exact ⟨fr.xs, fr.a, fr.n, fr.c, rfl, rfl, fun W hb => ((HR.out W hb).2 fr HFM.out).1, ((HR.out _ hB5).2 fr HFM.out).2.1, fun x hx => (((HR.out _ hB5).2 fr HFM.out).2.2 x hx).2⟩
              · go_wp2_with fail
                go_meet
                exact ⟨[], none, 0, 0, rfl, rfl, fun W hb => SlR.nil_, by omega, by intro x hx; cases hx⟩
            case rest =>
              obtain ⟨F, AF, nF, cF, rfl, rfl, HF⟩ := hcut
              obtain ⟨b, x, ok, hcr, hget, hgood, hxx⟩ := HNEXT.out F
              have HCR := Lib.hid hcr
              have HGET := Lib.hid hget
              have HGOOD := Lib.hid hgood
              clear hcr hget hgood HNEXT
              have y0 := hY5.cells 0 _ rfl
              have y1 := hY5.cells 1 _ rfl
              simp only [List.getElem_toArray, List.getElem_cons_zero, List.getElem_cons_succ] at y0 y1
              clear hY5
              go_wp2_with fail
              refine (crash_any a F AF nF cF A5 A5' la ka c5 c5' _ (HP5.step (by go_grown)) (HF.out.1 _ hB5) (by have := HF.out.2.1; omega) HF.out.2.2).mono ?_
              rintro e w6 ⟨v, rfl, hO6, hb6⟩
              rw [HCR.out] at hO6 ⊢
              dsimp only at hO6 ⊢
              obtain ⟨A6, c6, A6', c6', rfl, hr1, hr2⟩ := hO6
              have HP6 := Lib.hid (rows_pre hr1 hr2)
              rw [HGOOD.out.2.1, HGOOD.out.1, List.length_nil] at HP6
              rw [HGOOD.out.2.1] at hr1
              rw [HGOOD.out.1, List.length_nil] at hr2
              simp only [HGOOD.out.2.1, HGOOD.out.1, List.length_nil]
              have hX6 := hX5.below hb6 hX5.lt
              have hB6 := hB5.trans (hb6.mono hB5.size)
              have hz6 := hb6.size
              have HM6 := Lib.hid (own_below HM5.out hb6 (Nat.le_refl _))
              have HR6 := Lib.hid (And.intro hr1 hr2)
              have HGM : Hid (gm < w5.heap.size) := (HM5.out.lt gm rfl).2
              have HZ5 := Lib.hid hB5.size
              clear hr1 hr2 hb6 hX5 hB5 HM5 HP5 y0 y1
              go_wp2_with fail
              refine (get_any b 0 A6 A6' 3 0 c6 c6' _ (HP6.out.step (by go_grown))).mono ?_
              rintro e w7 ⟨rfl, hb7⟩
              rw [HGET.out]
              dsimp only
              have hs7 : Below w6.heap.size w6 w7 := Below.trans (by go_grown) (hb7.mono (by simp))
              have hX7 := hX6.below hs7 hX6.lt
              have hY7 := (Blk.new w6 _ _).below hb7 (by simp)
              have hB7 := hB6.trans (hs7.mono hB6.size)
              have hz7 := hs7.size
              have HM7 := Lib.hid (own_below HM6.out hs7 (Nat.le_refl _))
              have HR7 := Lib.hid (And.intro (own_below HR6.out.1 hs7 (Nat.le_refl _)) (own_below HR6.out.2 hs7 (Nat.le_refl _)))
              clear hb7 hs7 hX6 hB6 HM6 HR6 HP6
              have s0 : w7.cell? ⟨bL, oL + k, none⟩ = some (.string s) := by
                rcases (HL.out _ hB7).2 with h0 | ⟨bL2, oL2, hbe, hbL2, hCL2⟩
                · omega
                obtain ⟨rfl, rfl⟩ : bL = bL2 ∧ oL = oL2 := by injection hbe with hbe; injection hbe with h1 h2; exact ⟨h1, h2⟩
                exact hCL2.str HS.out
              have hXne := own_blk_ne HM7.out hX7 (by decide)
              have hYne := own_blk_ne HM7.out hY7 (by decide)
              cases dn
              · 
                go_wp2_with (at_builtin; refine wpList_append_any _ rfl (.tmp 100) (.tmp 105) _ rfl w.heap.size _ i0 _ 1 16 Try.underlying22 hi0 hz0 hz1 hz2 rfl (by omega) (.slice (some ⟨gm, 0, none⟩) 1 1) 1 [.string now] rfl (HM7.out.alloc _) (w7.heap.size + 1) (some ⟨w7.heap.size, 0, none⟩) 1 1 [.string s] rfl (Reads.new_at rfl 9 #[.string s] rfl) (one_flatS [s]) (by decide) (by decide) (by have := hB7.size; simp; omega) ?_; intro v1 w8 hown1 hg1 hat1; obtain ⟨A1x, c1x, hv1, _, _, hA⟩ := own_form hown1; obtain ⟨gg, rfl, hgb, hgl⟩ := hA.resolve_left (by decide); subst hv1; have m0 := hown1.cellAt 0 (by decide); have m1 := hown1.cellAt 1 (by decide); simp only [List.nil_append, List.cons_append, List.getElem?_cons_zero, List.getElem?_cons_succ] at m0 m1)
                have hB8 : Below w.heap.size w w8 := Below.grown (Below.alloc hB7 hB7.size _) hg1 (by have := hB7.size; simp; omega) (by intro k h; exact (HM7.out.lt k h).1)
                have hX8 := (hX7.alloc (.cells #[.string s] 9)).grown hg1 (fun h => hXne h.symm)
                have hY8 := (hY7.alloc (.cells #[.string s] 9)).grown hg1 (fun h => hYne h.symm)
                have HR8 := Lib.hid (And.intro ((HR7.out.1.alloc _).kept hg1 (.inr (fun h => by have := (HR7.out.1.lt gm h).1; have := HGM.out; omega))) ((HR7.out.2.alloc _).kept hg1 (.inr (fun h => by have := (HR7.out.2.lt gm h).1; have := HGM.out; omega))))
                have y0 := hY8.cells 0 _ rfl
                have y1 := hY8.cells 1 _ rfl
                have hyl := hY8.lt
                have x0 := hX8.cells 0 _ rfl
                have x1 := hX8.cells 1 _ rfl
                have xf := hX8.frozen
                have hxl := hX8.lt
                simp only [List.getElem_toArray, List.getElem_cons_zero, List.getElem_cons_succ] at x0 x1 y0 y1
                have nr1 := own_blk_ne HR8.out.1 hX8 (by decide)
                have nr2 := own_blk_ne HR8.out.2 hX8 (by decide)
                have HX8 := Lib.hid (And.intro hX8 (And.intro nr1 nr2))
                have HBB := Lib.hid hB8
                clear hX8 hY8 hX7 hY7 hXne hYne nr1 nr2 hown1 hg1 hat1 hB7 hB8 s0
                have hcase : (x = now) ∨ (x = s ∧ (now.toList == s.toList) = true) ∨ (x = s ∧ (now.toList == s.toList) = false) := by
                  rcases hxx with h | ⟨_, h⟩
                  · rcases Bool.eq_false_or_eq_true (now.toList == s.toList) with hq | hq
                    · exact .inr (.inl ⟨h, hq⟩)
                    · exact .inr (.inr ⟨h, hq⟩)
                  · exact .inl h
                clear hxx
                rcases hcase with rfl | ⟨rfl, hq⟩ | ⟨rfl, hq⟩
                all_goals go_rounds 3
                all_goals
                  go_roundw
                  case rel =>
                    (repeat apply Exists.intro)
                    refine ⟨⟨k + 1, b, A6, c6, A6', c6', w8.heap.size, x, by omega, by go_num, rfl, HGOOD.out, ?_, ?_, ?_, ?_⟩, rfl⟩
                    · have := HBB.out
                      go_grown
                    · have := ((HX8.out.1.set_ 0 (.slice A6 3 c6)).set_ 1 (.slice A6' 0 c6')).alloc (.cells #[.string x] 9)
                      simpa using this
                    · exact ⟨(own_far (own_far (own_base HR8.out.1 HZ5.out) HX8.out.2.1 _ _) HX8.out.2.1 _ _).alloc _, by rw [HGOOD.out.1]; exact (own_far (own_far (own_base HR8.out.2 HZ5.out) HX8.out.2.2 _ _) HX8.out.2.2 _ _).alloc _⟩
                    · exact own_one HBB.out.size (Blk.new_at (by simp) _ _)
                  case measure => simp [intOf] <;> omega
              · obtain rfl : x = s := by rcases hxx with h | ⟨h, _⟩; exact h; cases h
                go_wp2_with (at_builtin; refine wpList_append_any _ rfl (.tmp 100) (.tmp 105) _ rfl w.heap.size _ i0 _ 1 16 Try.underlying22 hi0 hz0 hz1 hz2 rfl (by omega) (.slice none 0 0) 0 [] rfl (World.ownsRow_nil _ _ _ _) (w7.heap.size + 1) (some ⟨w7.heap.size, 0, none⟩) 1 1 [.string x] rfl (Reads.new_at rfl 9 #[.string x] rfl) (one_flatS [x]) (by decide) (by decide) (by have := hB7.size; simp; omega) ?_; intro v1 w8 hown1 hg1 hat1; obtain ⟨A1x, c1x, hv1, _, _, hA⟩ := own_form hown1; obtain ⟨gg, rfl, hgb, hgl⟩ := hA.resolve_left (by decide); subst hv1; have m0 := hown1.cellAt 0 (by decide); simp only [List.nil_append, List.getElem?_cons_zero] at m0)
                have hB8 : Below w.heap.size w w8 := Below.grown (Below.alloc hB7 hB7.size _) hg1 (by have := hB7.size; simp; omega) (by simp [Value.ownBlock])
                have hX8 := (hX7.alloc (.cells #[.string x] 9)).grown hg1 (by simp [Value.ownBlock])
                have hY8 := (hY7.alloc (.cells #[.string x] 9)).grown hg1 (by simp [Value.ownBlock])
                have HR8 := Lib.hid (And.intro (own_below (HR7.out.1.alloc _) (below_of_grown hg1) (Nat.le_refl _)) (own_below (HR7.out.2.alloc _) (below_of_grown hg1) (Nat.le_refl _)))
                have y0 := hY8.cells 0 _ rfl
                have y1 := hY8.cells 1 _ rfl
                have hyl := hY8.lt
                have x0 := hX8.cells 0 _ rfl
                have x1 := hX8.cells 1 _ rfl
                have xf := hX8.frozen
                have hxl := hX8.lt
                simp only [List.getElem_toArray, List.getElem_cons_zero, List.getElem_cons_succ] at x0 x1 y0 y1
                have nr1 := own_blk_ne HR8.out.1 hX8 (by decide)
                have nr2 := own_blk_ne HR8.out.2 hX8 (by decide)
                have HX8 := Lib.hid (And.intro hX8 (And.intro nr1 nr2))
                have HBB := Lib.hid hB8
                clear hX8 hY8 hX7 hY7 hXne hYne nr1 nr2 hown1 hg1 hat1 hB7 hB8 s0
                go_rounds 3
                all_goals
                  go_roundw
                  case rel =>
                    (repeat apply Exists.intro)
                    refine ⟨⟨k + 1, b, A6, c6, A6', c6', w8.heap.size, x, by omega, by go_num, rfl, HGOOD.out, ?_, ?_, ?_, ?_⟩, rfl⟩
                    · have := HBB.out
                      go_grown
                    · have := ((HX8.out.1.set_ 0 (.slice A6 3 c6)).set_ 1 (.slice A6' 0 c6')).alloc (.cells #[.string x] 9)
                      simpa using this
                    · exact ⟨(own_far (own_far (own_base HR8.out.1 HZ5.out) HX8.out.2.1 _ _) HX8.out.2.1 _ _).alloc _, by rw [HGOOD.out.1]; exact (own_far (own_far (own_base HR8.out.2 HZ5.out) HX8.out.2.2 _ _) HX8.out.2.2 _ _).alloc _⟩
                    · exact own_one HBB.out.size (Blk.new_at (by simp) _ _)
                  case measure => simp [intOf] <;> omega
      · obtain rfl : k = n := by omega
        go_wp2_with fail
        refine (twins_any _).mono ?_
        rintro e w2 ⟨rfl, hb2⟩
        go_wp2_with fail
        go_ret
        exact ⟨rfl, hBr.trans (hb2.mono hBr.size)⟩
  · by_cases hn : 20 < n
    · go_enter Try.func10, Try.ntmps10
      go_wp2_with fail
      go_ret
      exact ⟨rfl, Below.refl _ _⟩
    · by_cases hm : 30 < m
      · go_enter Try.func10, Try.ntmps10
        go_wp2_with fail
        go_ret
        exact ⟨rfl, Below.refl _ _⟩
      · have hr : 30 < r := by omega
        clear hfar
        go_enter Try.func10, Try.ntmps10
        go_wp2_with fail
        go_ret
        exact ⟨rfl, Below.refl _ _⟩
theorem row_law (L : List ByteArray) (D : List Int) (R : List IRow) (A B C : Option Addr) (n m r c d e : Nat) (w : World) (hL : SlR encS 1 w w.heap.size A n L) (hD : SlR encI 1 w w.heap.size B m D) (hR : SlR encR 1 w w.heap.size C r R) (hRo : ∀ x ∈ R, RowOk w x) :
    Calls Try.prog 10 #[.slice A n c, .slice B m d, .slice C r e] w fun e w' => e = .returned (.bool true) ∧ Below w.heap.size w w' :=
  row_walk L D R A B C n m r c d e w (fun W hb => (hL.below hb).more hb.size) (fun W hb => (hD.below hb).more hb.size) (fun W hb => ⟨(hR.below hb).more hb.size, fun x hx => ⟨((hRo x hx).1.below hb).more hb.size, (hRo x hx).2⟩⟩)
end Go.Proofs.Ytefodifmfjpnlaa
