/- member: what may not be is thrown; a text's lines, whatever the text is. -/
import Derived.WalkLawsBesides
import Derived.Test.YtbgohcedakpnbaaDoorMemJ
import Derived.Test.YtbgohcedakpnbaaDoorTurnN
import Derived.Shelf.Strconv.AtoiAll
import Derived.Test.YtbgohcedakpnbaaDoorRoundReg
import Derived.Test.YtbgohcedakpnbaaDoorMemG
set_option linter.unusedVariables false
set_option linter.unusedSimpArgs false
namespace Go.Proofs.YtbgohcedakpnbaaDoor
open Go.RowKit Go.Shelf
/-- what must throws -/
def CHm : List PanicEntry := [{ v := .iface 27 (.int .i64 180), recovered := false }]
theorem must_false (w : World) : Calls Tryd.prog 38 #[.bool false] w fun e w' => e = .panicked CHm ∧ w = w' := by
  go_enter Tryd.func38, Tryd.ntmps38
  go_wp2_with fail
  exact ⟨rfl, rfl, rfl⟩
theorem cutF_ok {s : ByteArray} {c : UInt8} (h : (cutF s c).2.2 = true) : (cutF s c).1.size ≤ s.size ∧ (cutF s c).2.1.size < s.size := by
  unfold cutF at h ⊢
  split
  · rename_i h1
    rw [if_pos h1] at h
    cases h
  · rename_i h1
    have hge := Lib.indexByte_ge s.data.toList c
    obtain ⟨o, ho⟩ : ∃ o : Nat, Lib.indexByte s.data.toList c = o := ⟨(Lib.indexByte s.data.toList c).toNat, by omega⟩
    have hlt : o < s.size := by
      have h := (Lib.indexByte_some ho).1
      have := (List.getElem?_eq_some_iff.1 h).1
      simpa using this
    rw [ho]
    simp only [Int.toNat_natCast, ByteArray.size_extract]
    omega
/-- a text that is not too long -/
def TxtOk (v : Value) : Prop := ∃ s : ByteArray, v = .string s ∧ s.size ≤ 100000
set_option maxHeartbeats 2000000 in
set_option maxRecDepth 100000 in
theorem mlines2_in (nn : Nat) (hnn : 1 ≤ nn) (l g : Nat) (s0 : ByteArray) (hs0 : s0.size ≤ 100000) (J Jx : World → Prop)
    (hJt : ∀ A B, J A → TnL g A B → J B) (hJx : ∀ A, J A → Jx A)
    (hY : ∀ (x : Value) W1, J W1 → TxtOk x → YieldAt Fence.wide (nn - 1) Tryd.prog l #[x] W1 fun e W' => (e = .returned (.bool true) ∧ J W' ∧ Kept g W1 W') ∨ (e = .panicked CHm ∧ Jx W'))
    (W : World) (hC : Blk W g 9 #[.string s0]) (h0 : J W) :
    CallsIn Fence.wide nn Tryd.prog 73 #[.func (.yield l) #[] #[], .pointer (some ⟨g, 0, none⟩)] W fun e' W' => ((∃ v, e' = .returned v) ∧ J W') ∨ (e' = .panicked CHm ∧ Jx W') := by
  have HY := Lib.hid hY
  have HJ := Lib.hid hJt
  have HX := Lib.hid hJx
  have HC := Lib.hid hC
  have H0 := Lib.hid h0
  clear hY hJt hC h0 hJx
  refine callsIn_of_wp Tryd.func73 rfl trivial ?_ rfl
  simp only [Tryd.ntmps73, List.size_toArray, List.length_cons, List.length_nil, Nat.reduceAdd, Nat.reduceSub, Array.replicate_succ, Array.replicate_zero, List.push_toArray, List.append_toArray, List.nil_append, List.cons_append]
  gi_wp2_with fail
  gi_loopw [] (fun wr => ∃ s : ByteArray, s.size ≤ 100000 ∧ Hid (Blk wr g 9 #[.string s]) ∧ Hid (J wr)) (fun w => strOf w g)
  case atStart => exact ⟨s0, hs0, HC, H0⟩
  case round =>
    clear HC H0
    obtain ⟨s, hss, HB, HJk⟩ := hrel
    have c0 := HB.out.cells 0 _ rfl
    have f0 := HB.out.frozen
    have hlg := HB.out.lt
    simp only [List.getElem_toArray, List.getElem_cons_zero] at c0
    have HM : Hid (strOf wr g = s.size) := Lib.hid (by unfold strOf; rw [c0])
    by_cases hz : s.size = 0
    · obtain rfl : s = ⟨#[]⟩ := by
        have h1 : s.data.size = 0 := hz
        apply ByteArray.ext
        exact Array.eq_empty_of_size_eq_zero h1
      clear f0 hss hz HM
      gi_wp2_with fail
      go_end0
      exact .inl ⟨⟨_, rfl⟩, HJk.out⟩
    · have hne : s.toList ≠ [] := by
        rw [ByteArray.toList_eq]
        intro h
        have h2 : s.data.toList.length = 0 := by rw [h]; rfl
        exact hz (by simpa using h2)
      have hne2 : (s.toList == []) = false := by simpa using hne
      have HCU := Lib.hid (fun W => cut_any s 10 W (by omega))
      have HOK := Lib.hid (fun (h : (cutF s 10).2.2 = true) => cutF_ok h)
      obtain ⟨⟨x, r, q⟩, hV⟩ : ∃ V, cutF s 10 = V := ⟨_, rfl⟩
      rw [hV] at HCU HOK
      dsimp only at HCU HOK
      clear hV hz
      cases q
      · gi_wp2_with fail
        refine ⟨trivial, ?_⟩
        gi_at_call 58
        refine (callsIn_wide.2 (HCU.out _)).mono ?_
        rintro e w1 ⟨rfl, hb1⟩
        have HJ1 := Lib.hid (HJ.out _ _ HJk.out (TnL.still hb1))
        clear hb1 c0 f0
        gi_wp2_with fail
        refine ⟨trivial, ?_⟩
        gi_at_call 38
        refine (callsIn_wide.2 (must_false _)).mono ?_
        rintro e w2 ⟨rfl, rfl⟩
        gi_wp2_with fail
        exact ⟨rfl, .inr ⟨rfl, HX.out _ HJ1.out⟩⟩
      · obtain ⟨hx, hr⟩ := HOK.out rfl
        gi_wp2_with fail
        refine ⟨trivial, ?_⟩
        gi_at_call 58
        refine (callsIn_wide.2 (HCU.out _)).mono ?_
        rintro e w1 ⟨rfl, hb1⟩
        have HB1 := Lib.hid (HB.out.below (hb1.below (B0 := wr.heap.size)) hlg)
        have HJ1 := Lib.hid (HJ.out _ _ HJk.out (TnL.still hb1))
        clear hb1 c0 f0
        gi_wp2_with fail
        refine ⟨trivial, ?_⟩
        gi_at_call 38
        refine (callsIn_wide.2 (must_true _)).mono ?_
        rintro e w2 ⟨rfl, rfl⟩
        obtain ⟨fn, tmps, assign, body, hy, hYY⟩ := HY.out (.string x) w1 HJ1.out ⟨x, rfl, by omega⟩
        have HRR := Lib.hid hYY
        clear hYY
        gi_wp2_with fail
        refine HRR.out.mono ?_
        rintro e W3 (⟨rfl, hJ3, hk3⟩ | ⟨rfl, hJ3⟩)
        · have hb3 : Blk W3 g 9 #[.string s] := (show W3.heap[g]? = w1.heap[g]? from hk3).trans HB1.out
          have c3 := hb3.cells 0 _ rfl
          have f3 := hb3.frozen
          have hl3 := hb3.lt
          simp only [List.getElem_toArray, List.getElem_cons_zero] at c3
          have HB4 : Hid (Blk (W3.setCell ⟨g, 0, none⟩ (.string r)) g 9 #[.string r]) := Lib.hid (hb3.set_ 0 (.string r))
          have HJ4 : Hid (J (W3.setCell ⟨g, 0, none⟩ (.string r))) := Lib.hid (HJ.out _ _ hJ3 (TnL.set g W3 _))
          have HM4 : Hid (strOf (W3.setCell ⟨g, 0, none⟩ (.string r)) g = r.size) := Lib.hid (by
            have h := HB4.out.cells 0 _ rfl
            simp only [List.getElem_toArray, List.getElem_cons_zero] at h
            unfold strOf
            rw [h])
          clear hJ3 hk3 hb3
          gi_wp2_with fail
          go_roundw
          case rel => exact ⟨r, by omega, HB4, HJ4⟩
          case measure =>
            have h1 := HM.out
            have h2 := HM4.out
            omega
        · gi_wp2_with fail
          exact ⟨rfl, .inr ⟨rfl, hJ3⟩⟩
end Go.Proofs.YtbgohcedakpnbaaDoor
/- member: a number's text, whatever it is; a text's front, and what two digits each tell. -/
namespace Go.Proofs.YtbgohcedakpnbaaDoor
open Go.RowKit Go.Shelf
set_option maxRecDepth 100000 in
def atallRen : Go.Shelf.Ren := ⟨fun | 129 => 130 | 171 => 53 | 172 => 76 | 205 => 137 | 243 => 71 | 244 => 93 | 245 => 94 | 246 => 90 | 247 => 117 | 279 => 118 | 280 => 119 | 281 => 120 | 282 => 121 | 283 => 110 | 284 => 111 | 285 => 112 | 286 => 113 | 287 => 135 | 316 => 136 | 317 => 129 | 318 => 131 | 319 => 132 | 320 => 133 | 321 => 150 | 322 => 151 | 337 => 148 | 338 => 149 | n => n, fun | 0 => 0 | 2 => 2 | 3 => 3 | 4 => 4 | 5 => 5 | 9 => 9 | 20 => 20 | 21 => 21 | 37 => 54 | 46 => 87 | 51 => 152 | 53 => 86 | 75 => 61 | 76 => 62 | 80 => 65 | 85 => 137 | 127 => 88 | 143 => 170 | 145 => 172 | 167 => 136 | 168 => 139 | 171 => 130 | 173 => 133 | 175 => 158 | 210 => 161 | 212 => 151 | 213 => 153 | 232 => 174 | 233 => 175 | n => n, fun | 15 => 3 | 16 => 4 | 17 => 2 | 18 => 6 | 19 => 7 | n => n⟩
theorem atallLays : Go.Proofs.LaysC.n172 Tryd.prog atallRen := {
  mixed := by kernel_rfl
  f129 := Tryd.func130.trans (congrArg some (by kernel_rfl))
  f171 := Tryd.func53.trans (congrArg some (by kernel_rfl))
  f172 := Tryd.func76.trans (congrArg some (by kernel_rfl))
  f205 := Tryd.func137.trans (congrArg some (by kernel_rfl))
  f243 := Tryd.func71.trans (congrArg some (by kernel_rfl))
  f244 := Tryd.func93.trans (congrArg some (by kernel_rfl))
  f245 := Tryd.func94.trans (congrArg some (by kernel_rfl))
  f246 := Tryd.func90.trans (congrArg some (by kernel_rfl))
  f247 := Tryd.func117.trans (congrArg some (by kernel_rfl))
  f279 := Tryd.func118.trans (congrArg some (by kernel_rfl))
  f280 := Tryd.func119.trans (congrArg some (by kernel_rfl))
  f281 := Tryd.func120.trans (congrArg some (by kernel_rfl))
  f282 := Tryd.func121.trans (congrArg some (by kernel_rfl))
  f283 := Tryd.func110.trans (congrArg some (by kernel_rfl))
  f284 := Tryd.func111.trans (congrArg some (by kernel_rfl))
  f285 := Tryd.func112.trans (congrArg some (by kernel_rfl))
  f286 := Tryd.func113.trans (congrArg some (by kernel_rfl))
  f287 := Tryd.func135.trans (congrArg some (by kernel_rfl))
  f316 := Tryd.func136.trans (congrArg some (by kernel_rfl))
  f317 := Tryd.func129.trans (congrArg some (by kernel_rfl))
  f318 := Tryd.func131.trans (congrArg some (by kernel_rfl))
  f319 := Tryd.func132.trans (congrArg some (by kernel_rfl))
  f320 := Tryd.func133.trans (congrArg some (by kernel_rfl))
  f321 := Tryd.func150.trans (congrArg some (by kernel_rfl))
  f322 := Tryd.func151.trans (congrArg some (by kernel_rfl))
  f337 := Tryd.func148.trans (congrArg some (by kernel_rfl))
  f338 := Tryd.func149.trans (congrArg some (by kernel_rfl))
  t0 := Tryd.underlying0
  a0 := Tryd.isAgg0
  z0 := Tryd.sizeOf0
  v0 := Tryd.zeroValue0
  t2 := Tryd.underlying2
  a2 := Tryd.isAgg2
  z2 := Tryd.sizeOf2
  v2 := Tryd.zeroValue2
  t3 := Tryd.underlying3
  a3 := Tryd.isAgg3
  z3 := Tryd.sizeOf3
  v3 := Tryd.zeroValue3
  t4 := Tryd.underlying4
  a4 := Tryd.isAgg4
  z4 := Tryd.sizeOf4
  v4 := Tryd.zeroValue4
  t5 := Tryd.underlying5
  a5 := Tryd.isAgg5
  z5 := Tryd.sizeOf5
  v5 := Tryd.zeroValue5
  t9 := Tryd.underlying9
  a9 := Tryd.isAgg9
  z9 := Tryd.sizeOf9
  v9 := Tryd.zeroValue9
  t20 := Tryd.underlying20
  a20 := Tryd.isAgg20
  z20 := Tryd.sizeOf20
  v20 := Tryd.zeroValue20
  t21 := Tryd.underlying21
  a21 := Tryd.isAgg21
  z21 := Tryd.sizeOf21
  v21 := Tryd.zeroValue21
  t37 := Tryd.underlying54
  a37 := Tryd.isAgg54
  z37 := Tryd.sizeOf54
  v37 := Tryd.zeroValue54
  t46 := Tryd.underlying87
  a46 := Tryd.isAgg87
  z46 := Tryd.sizeOf87
  v46 := Tryd.zeroValue87
  t51 := Tryd.underlying152
  a51 := Tryd.isAgg152
  z51 := Tryd.sizeOf152
  v51 := Tryd.zeroValue152
  t53 := Tryd.underlying86
  a53 := Tryd.isAgg86
  z53 := Tryd.sizeOf86
  v53 := Tryd.zeroValue86
  t75 := Tryd.underlying61
  a75 := Tryd.isAgg61
  z75 := Tryd.sizeOf61
  v75 := Tryd.zeroValue61
  t76 := Tryd.underlying62
  a76 := Tryd.isAgg62
  z76 := Tryd.sizeOf62
  v76 := Tryd.zeroValue62
  t85 := Tryd.underlying137
  a85 := Tryd.isAgg137
  z85 := Tryd.sizeOf137
  v85 := Tryd.zeroValue137
  t127 := Tryd.underlying88
  a127 := Tryd.isAgg88
  z127 := Tryd.sizeOf88
  v127 := Tryd.zeroValue88
  t143 := Tryd.underlying170
  a143 := Tryd.isAgg170
  z143 := Tryd.sizeOf170
  v143 := Tryd.zeroValue170
  t145 := Tryd.underlying172
  a145 := Tryd.isAgg172
  z145 := Tryd.sizeOf172
  v145 := Tryd.zeroValue172
  t167 := Tryd.underlying136
  a167 := Tryd.isAgg136
  z167 := Tryd.sizeOf136
  v167 := Tryd.zeroValue136
  t168 := Tryd.underlying139
  a168 := Tryd.isAgg139
  z168 := Tryd.sizeOf139
  v168 := Tryd.zeroValue139
  t171 := Tryd.underlying130
  a171 := Tryd.isAgg130
  z171 := Tryd.sizeOf130
  v171 := Tryd.zeroValue130
  t173 := Tryd.underlying133
  a173 := Tryd.isAgg133
  z173 := Tryd.sizeOf133
  v173 := Tryd.zeroValue133
  t175 := Tryd.underlying158
  a175 := Tryd.isAgg158
  z175 := Tryd.sizeOf158
  v175 := Tryd.zeroValue158
  t210 := Tryd.underlying161
  a210 := Tryd.isAgg161
  z210 := Tryd.sizeOf161
  v210 := Tryd.zeroValue161
  t212 := Tryd.underlying151
  a212 := Tryd.isAgg151
  z212 := Tryd.sizeOf151
  v212 := Tryd.zeroValue151
  t213 := Tryd.underlying153
  a213 := Tryd.isAgg153
  z213 := Tryd.sizeOf153
  t232 := Tryd.underlying174
  a232 := Tryd.isAgg174
  z232 := Tryd.sizeOf174
  v232 := Tryd.zeroValue174
  t233 := Tryd.underlying175
  a233 := Tryd.isAgg175
  z233 := Tryd.sizeOf175
  v233 := Tryd.zeroValue175
  g15 := by kernel_rfl
  g16 := by kernel_rfl
  g17 := by kernel_rfl
  g18 := by kernel_rfl
  g19 := by kernel_rfl
  t80 := Tryd.underlying65
  a80 := Tryd.isAgg65
  z80 := Tryd.sizeOf65
  v80 := Tryd.zeroValue65
  i0 := by kernel_rfl
  i2 := by kernel_rfl
  i3 := by kernel_rfl
  i4 := by kernel_rfl
  i5 := by kernel_rfl
  i9 := by kernel_rfl
  i20 := by kernel_rfl
  i21 := by kernel_rfl
  i37 := by kernel_rfl
  i46 := by kernel_rfl
  i51 := by kernel_rfl
  i53 := by kernel_rfl
  i75 := by kernel_rfl
  i76 := by kernel_rfl
  i80 := by kernel_rfl
  i85 := by kernel_rfl
  i127 := by kernel_rfl
  i143 := by kernel_rfl
  i145 := by kernel_rfl
  i167 := by kernel_rfl
  i168 := by kernel_rfl
  i171 := by kernel_rfl
  i173 := by kernel_rfl
  i175 := by kernel_rfl
  i210 := by kernel_rfl
  i212 := by kernel_rfl
  i232 := by kernel_rfl
  i233 := by kernel_rfl
  m15 := by kernel_rfl
  m16 := by kernel_rfl
  m17 := by kernel_rfl
  m18 := by kernel_rfl
  m19 := by kernel_rfl
  c0 := by kernel_rfl
  c2 := by kernel_rfl
  c3 := by kernel_rfl
  c4 := by kernel_rfl
  c5 := by kernel_rfl
  c9 := by kernel_rfl
  c20 := by kernel_rfl
  c21 := by kernel_rfl
  c37 := by kernel_rfl
  c46 := by kernel_rfl
  c51 := by kernel_rfl
  c53 := by kernel_rfl
  c75 := by kernel_rfl
  c76 := by kernel_rfl
  c80 := by kernel_rfl
  c85 := by kernel_rfl
  c127 := by kernel_rfl
  c143 := by kernel_rfl
  c145 := by kernel_rfl
  c167 := by kernel_rfl
  c168 := by kernel_rfl
  c171 := by kernel_rfl
  c173 := by kernel_rfl
  c175 := by kernel_rfl
  c210 := by kernel_rfl
  c212 := by kernel_rfl
  c213 := by kernel_rfl
  c232 := by kernel_rfl
  c233 := by kernel_rfl }

/-- the two errors lie there -/
def Errs (w : World) : Prop := (∃ te pe, w.cell? ⟨3, 0, none⟩ = some (.iface te pe)) ∧ ∃ te pe, w.cell? ⟨4, 0, none⟩ = some (.iface te pe)
theorem Errs.below {w W : World} (h : Errs w) (hb : Below w.heap.size w W) : Errs W := by
  obtain ⟨⟨a, b, h1⟩, c, d, h2⟩ := h
  exact ⟨⟨a, b, (hb.cell (World.block_lt_of_cell? _ _ h1)).trans h1⟩, c, d, (hb.cell (World.block_lt_of_cell? _ _ h2)).trans h2⟩
theorem atoi_loose (s : ByteArray) (w : World) (hs : s.size ≤ 100000) (hE : Errs w) :
    Calls Tryd.prog 76 #[.string s] w fun e w' => ∃ (n : Int) (ev : Value), e = .returned (.tuple #[.int .i64 n, ev]) ∧ (ev = .nilIface ∨ ∃ t v, ev = .iface t v) ∧ Below w.heap.size w w' := by
  obtain ⟨⟨te, pe, h1⟩, te2, pe2, h2⟩ := hE
  cases h : Lib.atoiAll s.data.toList with
  | ok v =>
    have hA : Calls Tryd.prog 76 #[.string s] w fun e w' => e = .returned (.tuple #[.int .i64 v, .nilIface]) ∧ (w' = w ∨ ∃ t, w' = Lib.bytesWorld w (atallRen.t 5) t) := Any.strconv_Atoi_ok atallLays s (by omega) v h w
    refine hA.mono ?_
    rintro e w' ⟨rfl, rfl | ⟨t, rfl⟩⟩
    · exact ⟨v, _, rfl, .inl rfl, Below.refl _ _⟩
    · exact ⟨v, _, rfl, .inl rfl, below_bytesWorld _ _ _⟩
  | «syntax» =>
    have hA := Any.strconv_Atoi_syntax atallLays s (by omega) h _ w h1 (.inr ⟨_, _, rfl⟩)
    refine Calls.mono hA ?_
    rintro e w' ⟨N, rfl, _, _, hb⟩
    exact ⟨_, _, rfl, .inr ⟨_, _, rfl⟩, hb⟩
  | range =>
    have hA := Any.strconv_Atoi_range atallLays s (by omega) h _ w h2 (.inr ⟨_, _, rfl⟩)
    refine Calls.mono hA ?_
    rintro e w' ⟨N, rfl, _, _, hb⟩
    exact ⟨_, _, rfl, .inr ⟨_, _, rfl⟩, hb⟩
set_option maxRecDepth 100000 in
theorem number_any (s : ByteArray) (w : World) (hs : s.size ≤ 100000) (hE : Errs w) :
    Calls Tryd.prog 59 #[.string s] w fun e w' => ((∃ n : Int, e = .returned (.int .i64 n)) ∨ e = .panicked CHm) ∧ Below w.heap.size w w' := by
  have HA := Lib.hid (atoi_loose s w hs hE)
  clear hE
  go_enter Tryd.func59, Tryd.ntmps59
  go_wp2_with fail
  refine HA.out.mono ?_
  rintro e w1 ⟨n, ev, rfl, hev | ⟨t, v, hev⟩, hb1⟩
  · subst hev
    go_wp2_with fail
    refine (must_true _).mono ?_
    rintro e w2 ⟨rfl, rfl⟩
    go_wp2_with fail
    go_ret
    exact ⟨.inl ⟨n, rfl⟩, hb1⟩
  · subst hev
    go_wp2_with fail
    refine (must_false _).mono ?_
    rintro e w2 ⟨rfl, rfl⟩
    go_wp2_with fail
    exact ⟨rfl, .inr rfl, hb1⟩
set_option maxRecDepth 100000 in
theorem prefix_any (s : ByteArray) (w : World) (hs : s.size ≤ 140737488351232) :
    Calls Tryd.prog 57 #[.string s, .string ⟨#[101, 112, 111, 99, 104, 32]⟩] w fun e w' => ∃ (r : ByteArray) (q : Bool), r.size ≤ s.size ∧ e = .returned (.tuple #[.string r, .bool q]) ∧ Still w w' := by
  by_cases h6 : 6 ≤ s.size
  · by_cases h1 : s.extract 0 6 = epochT
    · refine (prefix_good s _ w hs h6 h1 rfl).mono ?_
      rintro e w' ⟨rfl, hw⟩
      exact ⟨_, true, by rw [ByteArray.size_extract]; omega, rfl, hw⟩
    · have hne : ((s.extract 0 6).toList == (⟨#[101, 112, 111, 99, 104, 32]⟩ : ByteArray).toList) = false := by
        cases e : ((s.extract 0 6).toList == (⟨#[101, 112, 111, 99, 104, 32]⟩ : ByteArray).toList) with
        | false => rfl
        | true => exact absurd (bytes_ext (eq_of_beq e)) h1
      rw [show (⟨#[101, 112, 111, 99, 104, 32]⟩ : ByteArray).toList = [101, 112, 111, 99, 104, 32] by decide +kernel] at hne
      have HNE := Lib.hid hne
      have hP : ∀ W, Calls Tryd.prog 91 #[.string s, .string ⟨#[101, 112, 111, 99, 104, 32]⟩] W fun e w' => e = .returned (.bool false) ∧ W = w' := fun W => by
        have t1 : decide ((6 : Int) ≤ (s.size : Int)) = true := by simp; omega
        have t2 : (6 : Int) ≤ (s.size : Int) := by omega
        clear h1 hne
        have hne := HNE.out
        go_enter Tryd.func91, Tryd.ntmps91
        go_wp2_with fail
        go_ret
        exact ⟨rfl, rfl⟩
      have HP := Lib.hid hP
      clear hP h1 hne
      have hC : ∀ W, Calls Tryd.prog 74 #[.string s, .string ⟨#[101, 112, 111, 99, 104, 32]⟩] W fun e w' => e = .returned (.tuple #[.string s, .bool false]) ∧ W = w' := fun W => by
        go_enter Tryd.func74, Tryd.ntmps74
        go_wp2_with fail
        refine (HP.out _).mono ?_
        rintro e w1 ⟨rfl, rfl⟩
        go_wp2_with fail
        go_ret2
        exact ⟨rfl, rfl⟩
      have HC := Lib.hid hC
      clear hC
      go_enter Tryd.func57, Tryd.ntmps57
      go_wp2_with fail
      refine (HC.out _).mono ?_
      rintro e w1 ⟨rfl, rfl⟩
      go_wp2_with fail
      go_ret2
      exact ⟨s, false, Nat.le_refl _, rfl, Still.refl _⟩
  · have hP : ∀ W, Calls Tryd.prog 91 #[.string s, .string ⟨#[101, 112, 111, 99, 104, 32]⟩] W fun e w' => e = .returned (.bool false) ∧ W = w' := fun W => by
      have t1 : decide ((6 : Int) ≤ (s.size : Int)) = false := by simp; omega
      have t2 : decide (6 ≤ s.size) = false := by simp; omega
      go_enter Tryd.func91, Tryd.ntmps91
      go_wp2_with fail
      go_ret
      exact ⟨rfl, rfl⟩
    have HP := Lib.hid hP
    clear hP
    have hC : ∀ W, Calls Tryd.prog 74 #[.string s, .string ⟨#[101, 112, 111, 99, 104, 32]⟩] W fun e w' => e = .returned (.tuple #[.string s, .bool false]) ∧ W = w' := fun W => by
      go_enter Tryd.func74, Tryd.ntmps74
      go_wp2_with fail
      refine (HP.out _).mono ?_
      rintro e w1 ⟨rfl, rfl⟩
      go_wp2_with fail
      go_ret2
      exact ⟨rfl, rfl⟩
    have HC := Lib.hid hC
    clear hC
    go_enter Tryd.func57, Tryd.ntmps57
    go_wp2_with fail
    refine (HC.out _).mono ?_
    rintro e w1 ⟨rfl, rfl⟩
    go_wp2_with fail
    go_ret2
    exact ⟨s, false, Nat.le_refl _, rfl, Still.refl _⟩
theorem find_any (c : Nat) (hc : c < 256) (w : World) :
    Calls Tryd.prog 77 #[.string ⟨#[48, 49, 50, 51, 52, 53, 54, 55, 56, 57, 97, 98, 99, 100, 101, 102]⟩, .int .u8 c] w fun e w' => ∃ d : Int, (d = -1 ∨ ∃ k : Nat, d = k ∧ k < 16) ∧ e = .returned (.int .i64 d) ∧ w' = w := by
  have hA : Calls Tryd.prog 77 #[.string ⟨#[48, 49, 50, 51, 52, 53, 54, 55, 56, 57, 97, 98, 99, 100, 101, 102]⟩, .int .u8 c] w fun e w' => e = .returned (.int .i64 (Lib.indexByte [48, 49, 50, 51, 52, 53, 54, 55, 56, 57, 97, 98, 99, 100, 101, 102] ((c : Int)).toNat.toUInt8)) ∧ w' = w :=
    Any.strings_IndexByte sxbLays ⟨#[48, 49, 50, 51, 52, 53, 54, 55, 56, 57, 97, 98, 99, 100, 101, 102]⟩ (c : Int) w
  refine hA.mono ?_
  rintro e w' ⟨rfl, rfl⟩
  generalize ((c : Int)).toNat.toUInt8 = q
  have hge := Lib.indexByte_ge [48, 49, 50, 51, 52, 53, 54, 55, 56, 57, 97, 98, 99, 100, 101, 102] q
  refine ⟨_, ?_, rfl, rfl⟩
  by_cases hn : Lib.indexByte [48, 49, 50, 51, 52, 53, 54, 55, 56, 57, 97, 98, 99, 100, 101, 102] q = -1
  · exact .inl hn
  · obtain ⟨o, ho⟩ : ∃ o : Nat, Lib.indexByte [48, 49, 50, 51, 52, 53, 54, 55, 56, 57, 97, 98, 99, 100, 101, 102] q = o := ⟨(Lib.indexByte [48, 49, 50, 51, 52, 53, 54, 55, 56, 57, 97, 98, 99, 100, 101, 102] q).toNat, by omega⟩
    exact .inr ⟨o, ho, by have h1 := (List.getElem?_eq_some_iff.1 (Lib.indexByte_some ho).1).1; simpa using h1⟩
theorem u8_put (a : Int) (d : Nat) (ha : 0 ≤ a) (ha2 : a < 256) (hd : d < 16) : ∃ v : UInt8, bits .or .u8 (a * 16 % 256) (d : Int) = (v.toNat : Int) := by
  obtain ⟨x, rfl⟩ : ∃ x : Nat, a = x := ⟨a.toNat, by omega⟩
  have hall : ∀ (x : Fin 256) (y : Fin 16), bits .or .u8 ((x.val : Int) * 16 % 256) ((y.val : Nat) : Int) = (((UInt8.ofNat (bits .or .u8 ((x.val : Int) * 16 % 256) ((y.val : Nat) : Int)).toNat).toNat : Nat) : Int) := by decide +kernel
  exact ⟨_, hall ⟨x, by omega⟩ ⟨d, hd⟩⟩
set_option maxRecDepth 100000 in
set_option maxHeartbeats 2000000 in
theorem unhex_any (s : ByteArray) (w : World) (hs : s.size ≤ 100000) :
    Calls Tryd.prog 60 #[.string s] w fun e w' => ((∃ p : ByteArray, p.size = 32 ∧ e = .returned (.string p)) ∨ e = .panicked CHm) ∧ Below w.heap.size w w' := by
  by_cases hsz : s.size = 64
  · have t1 : ((s.size : Int) == 64) = true := by simp; omega
    have hmk := mmake32 w
    have hR0 : Hid (Row vB (w.alloc (.cells (List.replicate 32 (Value.int .u8 0)).toArray 5)) w.heap.size 5 (List.replicate 32 0)) := Lib.hid (Row.new (f := vB) w 5 32 0)
    obtain ⟨Z, hZ⟩ : ∃ Z : Array Value, (List.replicate 32 (Value.int .u8 0)).toArray = Z := ⟨_, rfl⟩
    rw [hZ] at hmk hR0
    clear hZ hs
    go_enter Tryd.func60, Tryd.ntmps60
    go_wp2_with fail
    refine (must_true _).mono ?_
    rintro e w1 ⟨rfl, rfl⟩
    go_wp2_with fail
    clear hmk
    go_loopw [13] (fun iv wr => ∃ (i : Nat) (l : List UInt8), i ≤ 64 ∧ iv = .int .i64 i ∧ l.length = 32 ∧ Hid (Row vB wr w.heap.size 5 l) ∧ Hid (Below w.heap.size w wr)) (fun iv _ => 64 - (intOf iv).toNat)
    case atStart => exact ⟨0, _, by omega, rfl, by simp, hR0, Lib.hid (by go_grown)⟩
    case round =>
      clear hR0
      obtain ⟨i, l, hi, rfl, hll, HR, HB⟩ := hrel
      by_cases hlt : i < s.size
      · have hbi := (s[i]'hlt).toNat_lt
        have HF := Lib.hid (fun W => find_any (s[i]'hlt).toNat hbi W)
        have k0 : (0 : Int) ≤ (i : Int) := by omega
        have k1 : (i : Int) < (s.size : Int) := by omega
        obtain ⟨j, hj⟩ : ∃ j, i / 2 = j := ⟨_, rfl⟩
        have hji : (i : Int) / 2 = (j : Int) := by omega
        have hj32 : j < 32 := by omega
        have j0 : (0 : Int) ≤ (j : Int) := by omega
        have j1 : (j : Int) < 32 := by omega
        obtain ⟨P, hP⟩ : ∃ P, l[j]? = some P := ⟨_, List.getElem?_eq_getElem (by omega)⟩
        have hPb := P.toNat_lt
        have c0 := HR.out.get hP
        unfold vB at c0
        have hlt2 := HR.out.lt
        have f0 := HR.out.free j
        clear hP hj
        go_wp2_with fail
        refine (HF.out _).mono ?_
        rintro e w1 ⟨d, hd, rfl, rfl⟩
        rcases hd with rfl | ⟨k, rfl, hk⟩
        · go_wp2_with fail
          refine (must_false _).mono ?_
          rintro e w1 ⟨rfl, rfl⟩
          go_wp2_with fail
          exact ⟨rfl, .inr rfl, HB.out⟩
        · have d0 : decide ((0 : Int) ≤ (k : Int)) = true := by simp
          obtain ⟨v, hv⟩ := u8_put (P.toNat : Nat) k (by omega) (by omega) hk
          go_wp2_with fail
          refine (must_true _).mono ?_
          rintro e w1 ⟨rfl, rfl⟩
          go_wp2_with fail
          have HE : Hid (Row vB (w1.setCell ⟨w.heap.size, j, none⟩ (.int .u8 (v.toNat : Nat))) w.heap.size 5 (l.set j v)) := Lib.hid (HR.out.set_ j v)
          go_roundw
          case rel => exact ⟨i + 1, l.set j v, by omega, by go_num, by simp [hll], HE, Lib.hid (HB.out.setCell (Nat.le_refl _) _)⟩
          case measure => simp [intOf]; omega
      · obtain rfl : i = 64 := by omega
        have hcv := mrun_blk (P := Tryd.prog) (L := l) (n := 32) (c := 32) 54 9 5 Tryd.underlying54 Tryd.underlying5 Tryd.underlying9 hll HR.out
        clear HR
        go_wp2_with fail
        go_ret
        exact ⟨.inl ⟨_, by show l.toArray.size = 32; simpa using hll, rfl⟩, HB.out⟩
  · have t1 : ((s.size : Int) == 64) = false := by simp; omega
    go_enter Tryd.func60, Tryd.ntmps60
    go_wp2_with fail
    refine (must_false _).mono ?_
    rintro e w1 ⟨rfl, rfl⟩
    go_wp2_with fail
    exact ⟨rfl, .inr rfl, Below.refl _ _⟩
end Go.Proofs.YtbgohcedakpnbaaDoor
/- member: read, whatever the text is: it gives a record, or what it throws. -/
namespace Go.Proofs.YtbgohcedakpnbaaDoor
open Go.RowKit Go.Shelf
attribute [local go_sem] Oper.semAt_some
/-- the rounds of read -/
def RL (w W : World) : Prop :=
  Below w.heap.size w W ∧ w.heap.size + 1 + 1 + 1 + 1 ≤ W.heap.size ∧ Blk W w.heap.size 24 #[.int .i64 0, .int .i64 0, .slice none 0 0, .slice none 0 0] ∧
  ∃ (q : Bool) (e k : Int) (j c d : Nat) (A A' : Option Addr) (L L' : List ByteArray), L.length = j ∧ L'.length = j ∧ j ≤ 16 ∧ (∀ s ∈ L, s.size ≤ 100000) ∧ (∀ s ∈ L', s.size ≤ 100000) ∧
    Blk W (w.heap.size + 1) 24 #[.int .i64 e, .int .i64 k, .slice A j c, .slice A' j d] ∧ Blk W (w.heap.size + 1 + 1) 4 #[.bool q] ∧
      SRow W (w.heap.size + 1 + 1 + 1 + 1) (.slice A j c) L ∧ SRow W (w.heap.size + 1 + 1 + 1 + 1) (.slice A' j d) L' ∧ (∀ g, (Value.slice A j c).ownBlock = some g → (Value.slice A' j d).ownBlock ≠ some g)
/-- behind a throw -/
def RX (w W : World) : Prop := Below w.heap.size w W ∧ w.heap.size + 1 + 1 + 1 + 1 ≤ W.heap.size
theorem RL.turn {w W W' : World} {row : Option Nat} (h : RL w W) (hg : W.grownBy W' row) (h0 : ∀ k, row = some k → w.heap.size + 1 + 1 + 1 ≤ k) (hne : ∀ k, row = some k → k = w.heap.size + 1 + 1 + 1 ∨ ∃ o : Obj, W.heap[k]? = some o ∧ o.isCells = false) : RL w W' := by
  obtain ⟨h1, h2, h3, q, e, k, j, c, d, A, A', L, L', e1, e2, e3, e4, e5, k1, k2, k3, k4, k5⟩ := h
  have hk : ∀ {g : Nat} {t : TypeId} {cs : Array Value}, g < w.heap.size + 1 + 1 + 1 → Blk W g t cs → Blk W' g t cs := fun hlt hb => hb.grown hg (fun e => by have := h0 _ e.symm; omega)
  have hs : ∀ {v : Value} {L : List ByteArray}, SRow W (w.heap.size + 1 + 1 + 1 + 1) v L → SRow W' (w.heap.size + 1 + 1 + 1 + 1) v L := fun {v L} hb => srow_kept hb hg (by
    cases ho : v.ownBlock with
    | none => exact .inl rfl
    | some g =>
      refine .inr (fun e => ?_)
      obtain ⟨k1, k2⟩ := orow_lt hb ho
      rcases hne g e.symm with k3 | ⟨o, k3, k4⟩
      · omega
      · obtain ⟨o', k5, k6⟩ := srow_cells hb ho
        rw [k3] at k5
        injection k5 with k5
        subst k5
        rw [k4] at k6
        cases k6)
  exact ⟨h1.grown hg h1.size (fun k e => by have := h0 k e; omega), Nat.le_trans h2 hg.size, hk (by omega) h3, q, e, k, j, c, d, A, A', L, L', e1, e2, e3, e4, e5, hk (by omega) k1, hk (by omega) k2, hs k3, hs k4, k5⟩
set_option maxHeartbeats 4000000 in
set_option maxRecDepth 100000 in
theorem mread_any (s : ByteArray) (w : World) (hs : s.size ≤ 100000) (hE : Errs w) :
    Calls Tryd.prog 37 #[.string s] w fun e' w' => (∃ (r : Rec) (A A' : Option Addr) (n c d : Nat), e' = .returned (recV r A n c A' n d) ∧ r.names.length = n ∧ r.pledges.length = n ∧ n ≤ 16 ∧ (∀ s ∈ r.names, s.size ≤ 100000) ∧ (∀ s ∈ r.pledges, s.size ≤ 100000) ∧ Hid (SRow w' w.heap.size (.slice A n c) r.names) ∧ Hid (SRow w' w.heap.size (.slice A' n d) r.pledges) ∧ Below w.heap.size w w') ∨ (e' = .panicked CHm ∧ Below w.heap.size w w') := by
  have HNU := Lib.hid (fun t W (ht : t.size ≤ 100000) (hW : Below w.heap.size w W) => number_any t W ht (hE.below hW))
  clear hE
  refine (callsIn_wide (n := 10)).1 ?_
  refine callsIn_of_wpB_marks Tryd.func37 rfl trivial (fun bb hbf hbr0 => ?_) rfl
  simp only [Tryd.ntmps37, List.size_toArray, List.length_cons, List.length_nil, Nat.reduceAdd, Nat.reduceSub, Array.replicate_succ, Array.replicate_zero, List.push_toArray, List.append_toArray, List.nil_append, List.cons_append]
  refine wpB_seq trivial ?_
  refine wpB_of_wpIn hbr0 trivial ?_
  gi_wp2_with fail
  refine wpB_seq trivial ?_
  refine wpB_of_wpIn hbr0 trivial ?_
  gi_wp2_with fail
  refine wpB_seq trivial ?_
  refine wpB_of_wpIn hbr0 trivial ?_
  gi_wp2_with fail
  refine wpB_seq trivial ?_
  refine wpB_seq trivial ?_
  refine wpB_of_wpIn hbr0 trivial ?_
  gi_wp2_with fail
  refine ⟨trivial, ?_⟩
  gi_at_call 56
  refine (mlines_in Fence.wide _ trivial rfl s _).mono ?_
  rintro e' w3 ⟨rfl, rfl⟩
  gi_wp2_with fail
  have hS0 : RL w ((((w.alloc (.cells #[.int .i64 0, .int .i64 0, .slice none 0 0, .slice none 0 0] 24)).alloc (.cells #[.int .i64 0, .int .i64 0, .slice none 0 0, .slice none 0 0] 24)).alloc (.cells #[.bool true] 4)).alloc (.cells #[.string s] 9)) := by
    refine ⟨by go_grown, by simp, (((Blk.new w _ _).alloc _).alloc _).alloc _, true, 0, 0, 0, 0, 0, none, none, [], [], rfl, rfl, by omega, by simp, by simp, ?_, ?_, srow_nil _ _, srow_nil _ _, fun g hg => by cases hg⟩
    · exact ((Blk.new_at (g := w.heap.size + 1) (by simp) _ _).alloc _).alloc _
    · exact (Blk.new_at (g := w.heap.size + 1 + 1) (by simp) _ _).alloc _
  have hL0 : Blk ((((w.alloc (.cells #[.int .i64 0, .int .i64 0, .slice none 0 0, .slice none 0 0] 24)).alloc (.cells #[.int .i64 0, .int .i64 0, .slice none 0 0, .slice none 0 0] 24)).alloc (.cells #[.bool true] 4)).alloc (.cells #[.string s] 9)) (w.heap.size + 1 + 1 + 1) 9 #[.string s] := Blk.new_at (g := w.heap.size + 1 + 1 + 1) (by simp) _ _
  have hsz0 : ((((w.alloc (.cells #[.int .i64 0, .int .i64 0, .slice none 0 0, .slice none 0 0] 24)).alloc (.cells #[.int .i64 0, .int .i64 0, .slice none 0 0, .slice none 0 0] 24)).alloc (.cells #[.bool true] 4)).alloc (.cells #[.string s] 9)).heap.size = w.heap.size + 1 + 1 + 1 + 1 := by simp
  generalize ((((w.alloc (.cells #[.int .i64 0, .int .i64 0, .slice none 0 0, .slice none 0 0] 24)).alloc (.cells #[.int .i64 0, .int .i64 0, .slice none 0 0, .slice none 0 0] 24)).alloc (.cells #[.bool true] 4)).alloc (.cells #[.string s] 9)) = W0 at hS0 hL0 hsz0 ⊢
  have HS0 := Lib.hid hS0
  have HL0 := Lib.hid hL0
  clear hS0 hL0
  refine wpB_block trivial ?_
  refine wpB_rangeFunc_falls hbr0 trivial (by rw [hbf]; exact Tryd.func37) rfl (by omega) (gf := 73) (lb := #[.pointer (some ⟨w.heap.size + 1 + 1 + 1, 0, none⟩)]) rfl trivial (enters_of Tryd.func73 (by kernel_rfl) rfl)
    (ok := TxtOk) (Ch := CHm) (Tn := TnL (w.heap.size + 1 + 1 + 1)) (Kp := Kept (w.heap.size + 1 + 1 + 1))
    ?seq rfl Kept.trans (fun W l o' hl => World.putObj_heap_other (by omega)) (fun A B h i hi => h.2.2.2.2 i (by omega)) (RL w) (RX w)
    (fun st W W' row hs hg hr => RL.turn hs hg (fun k hk => by have := (hr k hk).1; omega) (fun k hk => .inr (hr k hk).2))
    (fun W h => ⟨h.1, h.2.1⟩)
    (fun A B hs ht => RL.turn (row := some (w.heap.size + 1 + 1 + 1)) hs ⟨ht.1, ht.2.1, ht.2.2.1, ht.2.2.2.1, fun i _ hne => ht.2.2.2.2 i (fun e => hne (by rw [e]))⟩ (fun k hk => by injection hk with hk; omega) (fun k hk => .inl (by injection hk with hk; exact hk.symm)))
    HS0.out (fun x => { tmps := #[.string s, undef, .pointer (some ⟨w.heap.size, 0, none⟩), .pointer (some ⟨w.heap.size + 1, 0, none⟩), .pointer (some ⟨w.heap.size + 1 + 1, 0, none⟩), x, undef, undef, undef, undef, undef, undef, undef, .string s, .func (.func 73) #[] #[.pointer (some ⟨w.heap.size + 1 + 1 + 1, 0, none⟩)], x, undef, undef, undef, undef, undef, undef, undef, undef, undef, undef, undef, undef, undef, undef, undef, undef, undef, undef, undef, undef, undef, undef, undef, undef, undef, undef, undef, undef, undef, undef, undef, undef, undef, undef, undef, undef, undef, undef, undef, undef, undef, undef, undef, undef, undef, undef, undef, undef, undef], defers := [] }) ?assign ?body ?done ?fall
  case seq =>
    intro l J Jx W hb hJt hJx hY h0
    exact mlines2_in _ (by omega) l (w.heap.size + 1 + 1 + 1) s hs J Jx hJt hJx hY W (HL0.out.below hb (by omega)) h0
  case assign =>
    rintro l x W K ⟨x, rfl, _⟩ hK
    gi_wp2
    exact hK
  case body =>
    rintro l x W hl _ ⟨hB, hsz, hres, q, e, k, j, c, d, A, A', L, L', hln, hlp, hj16, hsn, hsp, hbr, hbf, hrn, hrp, hdis⟩ ⟨x, rfl, hxs⟩
    have HB0 := Lib.hid hB
    have HBR := Lib.hid hbr
    have HBF := Lib.hid hbf
    have HRE := Lib.hid hres
    have HSN := Lib.hid hrn
    have HSP := Lib.hid hrp
    have HDI := Lib.hid hdis
    have HLS := Lib.hid (And.intro hsn hsp)
    have c0 := hbf.cells 0 _ rfl
    simp only [List.getElem_toArray, List.getElem_cons_zero] at c0
    have hST : ∀ W1 : World, Below W.heap.size W W1 → KeepsFrom (w.heap.size + 1 + 1 + 1 + 1) W W1 ∧ RX w W1 := fun W1 hb => ⟨(KeepsFrom.of_grownBy (row := none) ⟨hb.os, hb.tape, hb.output, hb.size, fun k hk _ => hb.block k hk⟩ (fun _ e => by cases e)), HB0.out.trans (hb.mono (by omega)), by have := hb.size; omega⟩
    have HST := Lib.hid hST
    clear hST hbr hbf hres hrn hrp hdis hsn hsp
    have l1 := HBR.out.lt
    have l2 := HBF.out.lt
    cases q
    · have hj : j ≤ 16 := hj16
      by_cases hj2 : j < 16
      · have hmust : decide ((j : Int) < 16) = true := by simp; omega
        have hmust2 : decide (j < 16) = true := by simp; omega
        have c1 := HBR.out.cells 2 _ rfl
        have c2 := HBR.out.cells 3 _ rfl
        simp only [List.getElem_toArray, List.getElem_cons_zero, List.getElem_cons_succ] at c1 c2
        have HCL := Lib.hid (fun W => cut_any x 32 W (by omega))
        have HCO := Lib.hid (fun (h : (cutF x 32).2.2 = true) => cutF_ok h)
        obtain ⟨⟨nm, hm, q2⟩, hcn⟩ : ∃ V, cutF x 32 = V := ⟨_, rfl⟩
        rw [hcn] at HCL HCO
        dsimp only at HCL HCO
        clear hcn
        gi_wp2_with fail
        refine ⟨trivial, ?_⟩
        gi_at_call 38
        refine (CallsIn.inRound l (callsIn_wide.2 (must_true _))).mono ?_
        rintro e' W1 ⟨rfl, rfl⟩
        gi_wp2_with fail
        refine ⟨trivial, ?_⟩
        gi_at_call 58
        refine (CallsIn.inRound l (callsIn_wide.2 (HCL.out _))).mono ?_
        rintro e' W1 ⟨rfl, hw1⟩
        cases q2
        · have HB1 := Lib.hid (hw1.below (B0 := W.heap.size))
          clear hw1
          gi_wp2_with fail
          refine ⟨trivial, ?_⟩
          gi_at_call 38
          refine (CallsIn.inRound l (callsIn_wide.2 (must_false _))).mono ?_
          rintro e' W2 ⟨rfl, rfl⟩
          gi_wp2_with fail
          exact HST.out _ HB1.out
        · obtain ⟨hnm, hhm⟩ := HCO.out rfl
          have hnm2 : nm.size ≤ 100000 := by omega
          have HUN := Lib.hid (fun W => unhex_any hm W (by omega))
          gi_wp2_with fail
          refine ⟨trivial, ?_⟩
          gi_at_call 38
          refine (CallsIn.inRound l (callsIn_wide.2 (must_true _))).mono ?_
          rintro e' W2 ⟨rfl, rfl⟩
          have hB1 := hw1.below (B0 := W.heap.size)
          have hz1 : W1.heap.size = W.heap.size := by rw [hw1.2.2.2]
          have hg1 : W.grownBy W1 none := ⟨hB1.os, hB1.tape, hB1.output, hB1.size, fun k hk _ => hB1.block k hk⟩
          have HSP1 := Lib.hid (orow_alloc (srow_kept HSP.out hg1 (Classical.em _)) (.cells #[.string nm] 9))
          have HRE1 := Lib.hid ((HRE.out.below hB1 (by omega)).alloc (.cells #[.string nm] 9))
          have HBF1 := Lib.hid ((HBF.out.below hB1 l2).alloc (.cells #[.string nm] 9))
          have HSN1 := Lib.hid (orow_alloc (srow_kept HSN.out hg1 (Classical.em _)) (.cells #[.string nm] 9))
          have hb1 := HBR.out.below hB1 l1
          have HKE : Hid (KeepsFrom (w.heap.size + 1 + 1 + 1 + 1) W W1) := Lib.hid (KeepsFrom.of_grownBy hg1 (fun _ e => by cases e))
          have c1 := hb1.cells 2 _ rfl
          have f1 := hb1.frozen
          simp only [List.getElem_toArray, List.getElem_cons_zero, List.getElem_cons_succ] at c1
          have hl1 : w.heap.size + 1 < W1.heap.size := by omega
          have HTL : Hid (L.length = j) := Lib.hid hln
          have hcn : (W1.alloc (.cells #[.string nm] 9)).cell? ⟨W1.heap.size, 0, none⟩ = some (.string nm) := by
            have := (Blk.new W1 9 #[.string nm]).cells 0 _ rfl
            simp at this
            simp [this]
          have HCN := Lib.hid hcn
          have HZ1 := Lib.hid hz1
          have hz2 : w.heap.size + 1 + 1 + 1 + 1 ≤ W1.heap.size := by omega
          clear hcn hz1
          gi_wp2_with (gi_at_builtin; refine wpListIn_append_sv rfl (.tmp 52) (.tmp 54) rfl rfl HSN1.out HTL.out W1.heap.size nm rfl HCN.out (by omega) (by simp; omega) ?_; intro A4 c4 w4 HR4 hg4 hne4; have hk4 := (hb1.alloc (.cells #[.string nm] 9)).grown hg4 (fun e => by have := (orow_lt HSN1.out e.symm).1; omega); have r0 := hk4.cells 2 _ rfl; have f0 := hk4.frozen; simp only [List.getElem_toArray, List.getElem_cons_zero, List.getElem_cons_succ] at r0)
          have hb4 : ∀ k, Value.ownBlock (.slice A j c) = some k → w.heap.size + 1 + 1 + 1 + 1 ≤ k ∧ k < W.heap.size := fun k e => orow_lt HSN.out e
          have hw4 : ∀ {g : Nat} {t : TypeId} {cs : Array Value}, g < w.heap.size + 1 + 1 + 1 + 1 → Blk (W1.alloc (.cells #[.string nm] 9)) g t cs → Blk w4 g t cs := fun hlt hb => hb.grown hg4 (fun e => by have := (hb4 _ e.symm).1; omega)
          have hp4 : SRow w4 (w.heap.size + 1 + 1 + 1 + 1) (.slice A' j d) L' := srow_kept HSP1.out hg4 (by
            cases hv : Value.ownBlock (.slice A' j d) with
            | none => exact .inl rfl
            | some g => exact .inr (fun e => HDI.out g e.symm hv))
          have hd4 : ∀ g, Value.ownBlock (.slice A4 (j + 1) c4) = some g → Value.ownBlock (.slice A' j d) ≠ some g := by
            intro g hg hg'
            rcases hne4 with e | e
            · exact HDI.out g (e.symm.trans hg) hg'
            · rw [hg] at e
              injection e with e
              have h1 := (orow_lt HSP.out hg').2
              have h2 := HZ1.out
              simp at e
              omega
          have hz5 : W1.heap.size + 1 ≤ w4.heap.size := by have := hg4.size; simpa using this
          have hk5 := hk4.set_ 2 (.slice A4 (j + 1) c4)
          have hr5 : SRow (w4.setCell ⟨w.heap.size + 1, 2, none⟩ (.slice A4 (j + 1) c4)) (w.heap.size + 1 + 1 + 1 + 1) (.slice A4 (j + 1) c4) (L ++ [nm]) := orow_far HR4.out hk4 (by decide) 2 _
          have hp5 : SRow (w4.setCell ⟨w.heap.size + 1, 2, none⟩ (.slice A4 (j + 1) c4)) (w.heap.size + 1 + 1 + 1 + 1) (.slice A' j d) L' := orow_far hp4 hk4 (by decide) 2 _
          have hR5 : Blk (w4.setCell ⟨w.heap.size + 1, 2, none⟩ (.slice A4 (j + 1) c4)) w.heap.size 24 #[.int .i64 0, .int .i64 0, .slice none 0 0, .slice none 0 0] := (hw4 (by omega) HRE1.out).far (by show _ ≠ _; simp <;> omega) _
          have hF5 : Blk (w4.setCell ⟨w.heap.size + 1, 2, none⟩ (.slice A4 (j + 1) c4)) (w.heap.size + 1 + 1) 4 #[.bool false] := (hw4 (by omega) HBF1.out).far (by show _ ≠ _; simp <;> omega) _
          have hB5 : Below w.heap.size w (w4.setCell ⟨w.heap.size + 1, 2, none⟩ (.slice A4 (j + 1) c4)) := (((HB0.out.trans (hB1.mono (by omega))).alloc (by omega) _).grown hg4 (by simp; omega) (fun k e => by have := (hb4 k e).1; omega)).setCell (by simp <;> omega) _
          have hE5 : KeepsFrom (w.heap.size + 1 + 1 + 1 + 1) W (w4.setCell ⟨w.heap.size + 1, 2, none⟩ (.slice A4 (j + 1) c4)) := HKE.out.trans ((((KeepsOthers.alloc _ _).trans (KeepsOthers.of_grownBy hg4 (srow_kc HSN1.out))).trans (KeepsOthers.setCell _ _ _)).from _)
          have hP5 : Kept (w.heap.size + 1 + 1 + 1) W (w4.setCell ⟨w.heap.size + 1, 2, none⟩ (.slice A4 (j + 1) c4)) :=
            ((Kept.below hB1 (by omega)).trans ((show Kept (w.heap.size + 1 + 1 + 1) W1 (W1.alloc (.cells #[.string nm] 9)) from Below.heap_alloc W1 _ _ (by omega)))).trans ((show Kept (w.heap.size + 1 + 1 + 1) (W1.alloc (.cells #[.string nm] 9)) w4 from hg4.block _ (by simp; omega) (fun e => by have := (hb4 _ e.symm).1; omega)).trans (Kept.setCell (by omega) _ _))
          have HF5 := Lib.hid (And.intro hr5 (And.intro hp5 (And.intro hR5 (And.intro hF5 (And.intro hB5 (And.intro hE5 (And.intro hP5 hd4)))))))
          have hs5 : W.heap.size + 1 ≤ (w4.setCell ⟨w.heap.size + 1, 2, none⟩ (.slice A4 (j + 1) c4)).heap.size := by have := HZ1.out; simp; omega
          clear hb4 hw4 hp4 hd4 hr5 hp5 hR5 hF5 hB5 hE5 hP5 HR4 hg4 hne4 hk4 r0 f0
          generalize hW5 : w4.setCell ⟨w.heap.size + 1, 2, none⟩ (.slice A4 (j + 1) c4) = W5 at *
          have HW5 := Lib.hid hW5
          have q3 := hk5.cells 3 _ rfl
          simp only [List.getElem_toArray, List.getElem_cons_zero, List.getElem_cons_succ, List.setIfInBounds_toArray, List.set_cons_zero, List.set_cons_succ] at q3
          have HK5 := Lib.hid hk5
          have hl5 := hk5.lt
          clear hW5 hk5 c1 f1 hb1 c0 c2
          refine wpIn_round_ZP 7 (fun W => W.cell? ⟨w.heap.size + 1, 3, none⟩ = some (.slice A' j d)) (by kernel_rfl) (by kernel_rfl) ?_
          have hHeld : W5.drew.cell? ⟨w.heap.size + 1, 3, none⟩ = some (.slice A' j d) := q3
          refine wpAnyZ_take (i := 0) (v := ?zv1) _ rfl (by kernel_rfl) (by kernel_rfl) (fun _ _ _ h => h) _ _ _ (by kernel_rfl) (by kernel_rfl) (Or.inl ⟨by rfl, ?zh1⟩) (by assumption) ?zr1
          case zh1 => (intro w hSw; (try dsimp only at hSw); go_simp; try with_reducible rfl)
          simp only [Act.put, List.setIfInBounds_toArray, List.set_cons_zero, List.set_cons_succ]
          refine wpAnyZ_take (i := 1) (v := ?zv2) _ rfl (by kernel_rfl) (by kernel_rfl) (fun _ _ _ h => h) _ _ _ (by kernel_rfl) (by kernel_rfl) (Or.inl ⟨by rfl, ?zh2⟩) (by assumption) ?zr2
          case zh2 => (intro w hSw; (try dsimp only at hSw); go_simp; try with_reducible rfl)
          simp only [Act.put, List.setIfInBounds_toArray, List.set_cons_zero, List.set_cons_succ]
          refine wpAnyZ_take (i := 2) (v := ?zv3) _ rfl (by kernel_rfl) (by kernel_rfl) (fun _ _ _ h => h) _ _ _ (by kernel_rfl) (by kernel_rfl) (Or.inl ⟨by rfl, ?zh3⟩) (by assumption) ?zr3
          case zh3 => (intro w hSw; (try dsimp only at hSw); go_simp; try with_reducible rfl)
          simp only [Act.put, List.setIfInBounds_toArray, List.set_cons_zero, List.set_cons_succ]
          refine wpAnyZ_ready (rs := [3]) (by kernel_rfl) (by simp) ?_
          refine AllReadyZ.cons rfl (by decide) (fun K hK => ?_) AllReadyZ.nil
          rw [if_pos (by rfl)]
          go_simp
          refine (HUN.out _).mono ?_
          rintro e' W6 ⟨h6, hb6⟩
          rcases h6 with ⟨pl, hpl, rfl⟩ | rfl
          · go_simp
            have hk6 := (show Blk W5.drew _ _ _ from HK5.out).below hb6 hl5
            refine hK.out _ _ (by have := hk6.cells 3 _ rfl; simpa using this) (fun hHeld => ?_)
            clear hK K
            try simp only [Act.put, List.setIfInBounds_toArray, List.set_cons_zero, List.set_cons_succ]
            refine wpAnyZ_ready (rs := [4]) (by kernel_rfl) (by simp) ?_
            refine AllReadyZ.cons rfl (by decide) (fun K hK => ?_) AllReadyZ.nil
            rw [if_pos (by rfl)]
            simp only [List.getElem_toArray, List.getElem_cons_zero, List.getElem_cons_succ]
            go_simp
            have hka := hk6.alloc (.cells #[.string pl] 9)
            refine hK.out _ _ (by have := hka.cells 3 _ rfl; simpa using this) (fun hHeld => ?_)
            clear hK K
            try simp only [Act.put, List.setIfInBounds_toArray, List.set_cons_zero, List.set_cons_succ]
            have hp6 : SRow (W6.alloc (.cells #[.string pl] 9)) (w.heap.size + 1 + 1 + 1 + 1) (.slice A' j d) L' := orow_alloc (orow_below (show SRow W5.drew _ _ _ from HF5.out.2.1) hb6 (Nat.le_refl _)) _
            have hpt : L'.length = j := hlp
            have hcp : (W6.alloc (.cells #[.string pl] 9)).cell? ⟨W6.heap.size, 0, none⟩ = some (.string pl) := by
              have := (Blk.new W6 9 #[.string pl]).cells 0 _ rfl
              simp at this
              simp [this]
            refine wpAnyZ_ready (rs := [5]) (by kernel_rfl) (by simp) ?_
            refine AllReadyZ.cons rfl (by decide) (fun K hK => ?_) AllReadyZ.nil
            rw [if_pos (by rfl)]
            simp only [List.getElem_toArray, List.getElem_cons_zero, List.getElem_cons_succ]
            refine wp_append_sv (.tmp 58) (.tmp 61) rfl rfl hp6 hpt W6.heap.size pl rfl hcp (by omega) (by have h6 := hb6.size; simp at h6; simp; omega) ?_
            intro A7 c7 w7 HR7 hg7 hne7
            have hb7 : ∀ k, Value.ownBlock (.slice A' j d) = some k → w.heap.size + 1 + 1 + 1 + 1 ≤ k ∧ k < W.heap.size := fun k e => orow_lt HSP.out e
            have hk7 := hka.grown hg7 (fun e => by have := (hb7 _ e.symm).1; omega)
            refine hK.out _ _ (by have := hk7.cells 3 _ rfl; simpa using this) (fun hHeld => ?_)
            clear hK K
            try simp only [Act.put, List.setIfInBounds_toArray, List.set_cons_zero, List.set_cons_succ]
            refine wpAnyZ_take (i := 6) (v := ?zv31) _ rfl (by kernel_rfl) (by kernel_rfl) (fun _ _ _ h => h) _ _ _ (by kernel_rfl) (by kernel_rfl) (Or.inl ⟨by rfl, ?zh31⟩) (by assumption) ?zr31
            case zh31 => (intro w hSw; (try dsimp only at hSw); go_simp; try with_reducible rfl)
            try simp only [Act.put, List.setIfInBounds_toArray, List.set_cons_zero, List.set_cons_succ]
            have r7 := hk7.cells 3 _ rfl
            have f7 := hk7.frozen
            simp only [List.getElem_toArray, List.getElem_cons_zero, List.getElem_cons_succ, List.setIfInBounds_toArray, List.set_cons_zero, List.set_cons_succ] at r7
            refine wpAnyZ_last (by kernel_rfl) rfl (by kernel_rfl) ?_
            rw [if_pos (by rfl)]
            simp only [List.getElem_toArray, List.getElem_cons_zero, List.getElem_cons_succ]
            go_simp
            obtain ⟨hr5, hp5, hR5, hF5, hB5, hE5, hP5, hd4⟩ := HF5.out
            have hb6k : ∀ {g : Nat} {t : TypeId} {cs : Array Value}, g < W5.heap.size → Blk W5 g t cs → Blk W6 g t cs := fun hlt hb => (show Blk W5.drew _ _ _ from hb).below hb6 hlt
            have h6 : W5.heap.size ≤ W6.heap.size := by have := hb6.size; simpa using this
            have hn6 : SRow (W6.alloc (.cells #[.string pl] 9)) (w.heap.size + 1 + 1 + 1 + 1) (.slice A4 (j + 1) c4) (L ++ [nm]) := orow_alloc (orow_below (show SRow W5.drew _ _ _ from hr5) hb6 (Nat.le_refl _)) _
            have hn7 : SRow w7 (w.heap.size + 1 + 1 + 1 + 1) (.slice A4 (j + 1) c4) (L ++ [nm]) := srow_kept hn6 hg7 (by
              cases hv : Value.ownBlock (.slice A4 (j + 1) c4) with
              | none => exact .inl rfl
              | some g => exact .inr (fun e => hd4 g hv e.symm))
            have hw7 : ∀ {g : Nat} {t : TypeId} {cs : Array Value}, g < w.heap.size + 1 + 1 + 1 + 1 → Blk W5 g t cs → Blk w7 g t cs := fun hlt hb => ((hb6k (by omega) hb).alloc _).grown hg7 (fun e => by have := (hb7 _ e.symm).1; omega)
            have hdone : KeepsFrom (w.heap.size + 1 + 1 + 1 + 1) W (w7.setCell ⟨w.heap.size + 1, 3, none⟩ (.slice A7 (j + 1) c7)) ∧ Kept (w.heap.size + 1 + 1 + 1) W (w7.setCell ⟨w.heap.size + 1, 3, none⟩ (.slice A7 (j + 1) c7)) ∧ RL w (w7.setCell ⟨w.heap.size + 1, 3, none⟩ (.slice A7 (j + 1) c7)) := by
              refine ⟨?_, ?_, ?_, ?_, ?_, false, e, k, j + 1, c4, c7, A4, A7, L ++ [nm], L' ++ [pl], by simp [hln], by simp [hlp], by omega, ?_, ?_, ?_, ?_, ?_, ?_, ?_⟩
              · refine hE5.trans (((KeepsOthers.drew W5).from _).trans ((KeepsFrom.of_grownBy (row := none) ⟨hb6.os, hb6.tape, hb6.output, hb6.size, fun k hk _ => hb6.block k hk⟩ (fun _ e => by cases e)).trans ((((KeepsOthers.alloc _ _).trans (KeepsOthers.of_grownBy hg7 (srow_kc hp6))).trans (KeepsOthers.setCell _ _ _)).from _)))
              · refine hP5.trans (((show Kept (w.heap.size + 1 + 1 + 1) W5 W6 from hb6.block _ (by simp; omega)).trans (show Kept (w.heap.size + 1 + 1 + 1) W6 (W6.alloc (.cells #[.string pl] 9)) from Below.heap_alloc W6 _ _ (by omega))).trans ((show Kept (w.heap.size + 1 + 1 + 1) (W6.alloc (.cells #[.string pl] 9)) w7 from hg7.block _ (by simp; omega) (fun e => by have := (hb7 _ e.symm).1; omega)).trans (Kept.setCell (by omega) _ _)))
              · exact ((((hB5.trans (show Below w.heap.size W5 W6 from ⟨hb6.os, hb6.tape, hb6.output, hb6.size, fun k hk => hb6.block k (by simp; omega)⟩)).alloc (by omega) _).grown hg7 (by simp; omega) (fun k e => by have := (hb7 k e).1; omega)).setCell (by simp <;> omega) _)
              · have := hg7.size
                simp at this ⊢
                omega
              · exact (hw7 (by omega) hR5).far (by show _ ≠ _; simp <;> omega) _
              · intro s hs
                rcases List.mem_append.1 hs with h | h
                · exact HLS.out.1 s h
                · rw [List.mem_singleton.1 h]; exact hnm2
              · intro s hs
                rcases List.mem_append.1 hs with h | h
                · exact HLS.out.2 s h
                · rw [List.mem_singleton.1 h]; omega
              · have := hk7.set_ 3 (.slice A7 (j + 1) c7)
                simpa using this
              · exact (hw7 (by omega) hF5).far (by show _ ≠ _; simp <;> omega) _
              · exact orow_far hn7 hk7 (by decide) 3 _
              · exact orow_far HR7.out hk7 (by decide) 3 _
              · intro g hg hg'
                rcases hne7 with e | e
                · exact hd4 g hg (e.symm.trans hg')
                · rw [hg'] at e
                  injection e with e
                  have := (orow_lt hn6 hg).2
                  omega
            refine ⟨.inl rfl, .inl ⟨rfl, ?_⟩⟩
            rw [hsz0]
            exact hdone
          · go_simp
            obtain ⟨hr5, hp5, hR5, hF5, hB5, hE5, hP5, hd4⟩ := HF5.out
            have hz6 : W5.heap.size ≤ W6.heap.size := by have := hb6.size; simpa using this
            refine ⟨.inr ⟨_, rfl⟩, .inr ⟨rfl, rfl, ?_, hB5.trans (show Below w.heap.size W5 W6 from ⟨hb6.os, hb6.tape, hb6.output, hb6.size, fun k hk => hb6.block k (by simp; omega)⟩), by omega⟩⟩
            rw [hsz0]
            exact hE5.trans (((KeepsOthers.drew W5).from _).trans (KeepsFrom.of_grownBy (row := none) ⟨hb6.os, hb6.tape, hb6.output, hb6.size, fun k hk _ => hb6.block k hk⟩ (fun _ e => by cases e)))
      · obtain rfl : j = 16 := by omega
        have c1 := HBR.out.cells 2 _ rfl
        simp only [List.getElem_toArray, List.getElem_cons_zero, List.getElem_cons_succ] at c1
        gi_wp2_with fail
        refine ⟨trivial, ?_⟩
        gi_at_call 38
        refine (CallsIn.inRound l (callsIn_wide.2 (must_false _))).mono ?_
        rintro e' W1 ⟨rfl, rfl⟩
        gi_wp2_with fail
        exact HST.out _ (Below.refl _ _)
    · have HPX := Lib.hid (fun W => prefix_any x W (by omega))
      gi_wp2_with fail
      refine ⟨trivial, ?_⟩
      gi_at_call 57
      refine (CallsIn.inRound l (callsIn_wide.2 (HPX.out _))).mono ?_
      rintro e' W1 ⟨nt, q1, hnt, rfl, hw1⟩
      have HB1 := Lib.hid (hw1.below (B0 := W.heap.size))
      have HCN := Lib.hid (fun W => cut_any nt 32 W (by omega))
      have HCO := Lib.hid (fun (h : (cutF nt 32).2.2 = true) => cutF_ok h)
      obtain ⟨⟨De, Dk, q2⟩, hcn⟩ : ∃ V, cutF nt 32 = V := ⟨_, rfl⟩
      rw [hcn] at HCN HCO
      dsimp only at HCN HCO
      clear hcn hw1
      cases q1
      · gi_wp2_with fail
        refine ⟨trivial, ?_⟩
        gi_at_call 38
        refine (CallsIn.inRound l (callsIn_wide.2 (must_false _))).mono ?_
        rintro e' W2 ⟨rfl, rfl⟩
        gi_wp2_with fail
        exact HST.out _ HB1.out
      · gi_wp2_with fail
        refine ⟨trivial, ?_⟩
        gi_at_call 38
        refine (CallsIn.inRound l (callsIn_wide.2 (must_true _))).mono ?_
        rintro e' W2 ⟨rfl, rfl⟩
        gi_wp2_with fail
        refine ⟨trivial, ?_⟩
        gi_at_call 58
        refine (CallsIn.inRound l (callsIn_wide.2 (HCN.out _))).mono ?_
        rintro e' W2 ⟨rfl, hw2⟩
        have HB2 := Lib.hid (HB1.out.trans ((hw2.below (B0 := W1.heap.size)).mono HB1.out.size))
        clear hw2
        cases q2
        · gi_wp2_with fail
          refine ⟨trivial, ?_⟩
          gi_at_call 38
          refine (CallsIn.inRound l (callsIn_wide.2 (must_false _))).mono ?_
          rintro e' W3 ⟨rfl, rfl⟩
          gi_wp2_with fail
          exact HST.out _ HB2.out
        · obtain ⟨hde, hdk⟩ := HCO.out rfl
          have hde2 : De.size ≤ 100000 := by omega
          have hdk2 : Dk.size ≤ 100000 := by omega
          gi_wp2_with fail
          refine ⟨trivial, ?_⟩
          gi_at_call 38
          refine (CallsIn.inRound l (callsIn_wide.2 (must_true _))).mono ?_
          rintro e' W3 ⟨rfl, rfl⟩
          gi_wp2_with fail
          refine ⟨trivial, ?_⟩
          gi_at_call 59
          refine (CallsIn.inRound l (callsIn_wide.2 (HNU.out De _ hde2 (HB0.out.trans (HB2.out.mono (by omega)))))).mono ?_
          rintro e' W3 ⟨h3, hw3⟩
          have HB3 := Lib.hid (HB2.out.trans (hw3.mono HB2.out.size))
          clear hw3
          rcases h3 with ⟨n1, rfl⟩ | rfl
          · gi_wp2_with fail
            refine ⟨trivial, ?_⟩
            gi_at_call 59
            refine (CallsIn.inRound l (callsIn_wide.2 (HNU.out Dk _ hdk2 (HB0.out.trans (HB3.out.mono (by omega)))))).mono ?_
            rintro e' W4 ⟨h4, hw4⟩
            have hB4 := HB3.out.trans (hw4.mono HB3.out.size)
            have HB4 := Lib.hid hB4
            clear hw4
            rcases h4 with ⟨n2, rfl⟩ | rfl
            · have hb4 := HBR.out.below hB4 l1
              have hf4 := HBF.out.below hB4 l2
              have hr4 := HRE.out.below hB4 (by omega)
              have c0 := hb4.cells 0 _ rfl
              have c1 := hb4.cells 1 _ rfl
              have c2 := hf4.cells 0 _ rfl
              have f0 := hb4.frozen
              have f1 := hf4.frozen
              have l3 := hb4.lt
              have l4 := hf4.lt
              simp only [List.getElem_toArray, List.getElem_cons_zero, List.getElem_cons_succ] at c0 c1 c2
              have hg4 : W.grownBy W4 none := ⟨hB4.os, hB4.tape, hB4.output, hB4.size, fun k hk _ => hB4.block k hk⟩
              have hrn4 := srow_kept HSN.out hg4 (Classical.em _)
              have hrp4 := srow_kept HSP.out hg4 (Classical.em _)
              have hE : KeepsFrom (w.heap.size + 1 + 1 + 1 + 1) W (((W4.setCell ⟨w.heap.size + 1, 0, none⟩ (.int .i64 n1)).setCell ⟨w.heap.size + 1, 1, none⟩ (.int .i64 n2)).setCell ⟨w.heap.size + 1 + 1, 0, none⟩ (.bool false)) :=
                (KeepsFrom.of_grownBy (row := none) hg4 (fun _ e => by cases e)).trans (((kf_set (by omega) _ _).trans (kf_set (by omega) _ _)).trans (kf_set (by omega) _ _))
              have hK : Kept (w.heap.size + 1 + 1 + 1) W (((W4.setCell ⟨w.heap.size + 1, 0, none⟩ (.int .i64 n1)).setCell ⟨w.heap.size + 1, 1, none⟩ (.int .i64 n2)).setCell ⟨w.heap.size + 1 + 1, 0, none⟩ (.bool false)) :=
                (((Kept.below hB4 (by omega)).trans (Kept.setCell (by omega) _ _)).trans (Kept.setCell (by omega) _ _)).trans (Kept.setCell (by omega) _ _)
              have hR : RL w (((W4.setCell ⟨w.heap.size + 1, 0, none⟩ (.int .i64 n1)).setCell ⟨w.heap.size + 1, 1, none⟩ (.int .i64 n2)).setCell ⟨w.heap.size + 1 + 1, 0, none⟩ (.bool false)) := by
                refine ⟨(((HB0.out.trans (hB4.mono (by omega))).setCell (by simp <;> omega) _).setCell (by simp <;> omega) _).setCell (by simp <;> omega) _, by simp; have := hB4.size; omega, ((hr4.far (by show _ ≠ _; simp <;> omega) _).far (by show _ ≠ _; simp <;> omega) _).far (by show _ ≠ _; simp <;> omega) _, false, n1, n2, j, c, d, A, A', L, L', hln, hlp, hj16, HLS.out.1, HLS.out.2, ?_, ?_, ?_, ?_, HDI.out⟩
                · exact ((hb4.set_ 0 _).set_ 1 _).far (by show _ ≠ _; simp) _
                · exact ((hf4.far (by show _ ≠ _; simp) _).far (by show _ ≠ _; simp) _).set_ 0 _
                · exact orow_far (orow_far (orow_far hrn4 hb4 (by decide) 0 _) (hb4.set_ 0 _) (by decide) 1 _) ((hf4.far (by show _ ≠ _; simp) _).far (by show _ ≠ _; simp) _) (by decide) 0 _
                · exact orow_far (orow_far (orow_far hrp4 hb4 (by decide) 0 _) (hb4.set_ 0 _) (by decide) 1 _) ((hf4.far (by show _ ≠ _; simp) _).far (by show _ ≠ _; simp) _) (by decide) 0 _
              have HE := Lib.hid (And.intro hE (And.intro hK hR))
              clear hB4 hb4 hf4 hr4 hE hK hR hrn4 hrp4 hg4
              gi_wp2_with fail
              exact HE.out
            · gi_wp2_with fail
              exact HST.out _ HB4.out
          · gi_wp2_with fail
            exact HST.out _ HB3.out
  case fall =>
    rintro D W hD ⟨hB, hsz⟩ hK
    refine ⟨by simp, .inl ⟨_, _, rfl, run_takeDeferred hK, ?_⟩⟩
    have hkb := belowK_b (n₀ := W0.heap.size) (w := W0) (Nat.le_refl _) W D _ (.deferred none) hD hK rfl rfl
    exact .inr ⟨rfl, hB.trans (hkb.mono (by omega))⟩
  case done =>
    rintro D W hD ⟨hB, hsz, hres, q, e, k, j, c, d, A, A', L, L', hln, hlp, hj16, hsn, hsp, hbr, hbf, hrn, hrp, hdis⟩ hK
    have c0 := hbr.cells 0 _ rfl
    have c1 := hbr.cells 1 _ rfl
    have c2 := hbr.cells 2 _ rfl
    have c3 := hbr.cells 3 _ rfl
    have f0 := hres.frozen
    have d0 := hres.cells 0 _ rfl
    have d1 := hres.cells 1 _ rfl
    have d2 := hres.cells 2 _ rfl
    have d3 := hres.cells 3 _ rfl
    simp only [List.getElem_toArray, List.getElem_cons_zero, List.getElem_cons_succ] at c0 c1 c2 c3 d0 d1 d2 d3
    have l0 := hbr.lt
    have l1 := hres.lt
    have HSN := Lib.hid hrn
    have HSP := Lib.hid hrp
    have HBB := Lib.hid hB
    have HRS := Lib.hid hres
    have HBR := Lib.hid hbr
    have HK := Lib.hid hK
    clear hrn hrp hB hres hbr hbf hdis hK
    refine wpB_of_wpIn hbr0 trivial ?_
    gi_wp2_with fail
    have hs4 := ((((HRS.out.set_ 0 (.int .i64 e)).set_ 1 (.int .i64 k)).set_ 2 (.slice A j c)).set_ 3 (.slice A' j d))
    simp only [List.setIfInBounds_toArray, List.set_cons_zero, List.set_cons_succ] at hs4
    have hn4 := orow_far (orow_far (orow_far (orow_far HSN.out HRS.out (by decide) 0 (.int .i64 e)) (HRS.out.set_ 0 _) (by decide) 1 (.int .i64 k)) ((HRS.out.set_ 0 _).set_ 1 _) (by decide) 2 (.slice A j c)) (((HRS.out.set_ 0 _).set_ 1 _).set_ 2 _) (by decide) 3 (.slice A' j d)
    have hp4 := orow_far (orow_far (orow_far (orow_far HSP.out HRS.out (by decide) 0 (.int .i64 e)) (HRS.out.set_ 0 _) (by decide) 1 (.int .i64 k)) ((HRS.out.set_ 0 _).set_ 1 _) (by decide) 2 (.slice A j c)) (((HRS.out.set_ 0 _).set_ 1 _).set_ 2 _) (by decide) 3 (.slice A' j d)
    have hB4 : Below w.heap.size w ((((W.setCell ⟨w.heap.size, 0, none⟩ (.int .i64 e)).setCell ⟨w.heap.size, 1, none⟩ (.int .i64 k)).setCell ⟨w.heap.size, 2, none⟩ (.slice A j c)).setCell ⟨w.heap.size, 3, none⟩ (.slice A' j d)) :=
      (((HBB.out.setCell (Nat.le_refl _) _).setCell (Nat.le_refl _) _).setCell (Nat.le_refl _) _).setCell (Nat.le_refl _) _
    have hK4 : ((((W.setCell ⟨w.heap.size, 0, none⟩ (.int .i64 e)).setCell ⟨w.heap.size, 1, none⟩ (.int .i64 k)).setCell ⟨w.heap.size, 2, none⟩ (.slice A j c)).setCell ⟨w.heap.size, 3, none⟩ (.slice A' j d)).heap[D]? = some (.deferred (some [])) := by
      have hne : D ≠ w.heap.size := by omega
      rw [Below.heap_setCell _ _ _ _ hne, Below.heap_setCell _ _ _ _ hne, Below.heap_setCell _ _ _ _ hne, Below.heap_setCell _ _ _ _ hne]
      exact HK.out
    generalize (((W.setCell ⟨w.heap.size, 0, none⟩ (.int .i64 e)).setCell ⟨w.heap.size, 1, none⟩ (.int .i64 k)).setCell ⟨w.heap.size, 2, none⟩ (.slice A j c)).setCell ⟨w.heap.size, 3, none⟩ (.slice A' j d) = W4 at *
    refine ⟨by simp, .inl ⟨_, _, rfl, run_takeDeferred hK4, ?_⟩⟩
    have hkb := belowK_b (n₀ := W0.heap.size) (w := W0) (Nat.le_refl _) W4 D _ (.deferred none) hD hK4 rfl rfl
    have hld := rec_load (hs4.below hkb (by omega))
    refine ⟨.agg #[.int .i64 e, .int .i64 k, .slice A j c, .slice A' j d], by simp [results, Tryd.results37, asAddr, hld], .inl ⟨⟨e, k, L, L'⟩, A, A', j, c, d, rfl, hln, hlp, hj16, hsn, hsp, Lib.hid ?_, Lib.hid ?_, ?_⟩⟩
    · exact orow_base (srow_put hn4 hK4 rfl _) (by omega)
    · exact orow_base (srow_put hp4 hK4 rfl _) (by omega)
    · exact hB4.trans (hkb.mono (by omega))
end Go.Proofs.YtbgohcedakpnbaaDoor
/- member: Parse, whatever the text is. -/
namespace Go.Proofs.YtbgohcedakpnbaaDoor
open Go.RowKit Go.Shelf
theorem mprint_any (r : Rec) (A A' : Option Addr) (n c m d : Nat) (w : World) (hN : SlR encS 1 w w.heap.size A n r.names) (hP : SlR encS 1 w w.heap.size A' m r.pledges) (hsn : ∀ s ∈ r.names, s.size ≤ 140737488351232) (hsp : ∀ s ∈ r.pledges, s.size ≤ 140737488351232) (hG : Pows w) :
    Calls Tryd.prog 12 #[recV r A n c A' m d] w fun e w' => e = .returned (.tuple #[.string (printF r).1, .int .i64 (printF r).2]) ∧ Below w.heap.size w w' := by
  cases hck : checkB r with
  | false =>
    rw [show printF r = (⟨#[]⟩, 180) by rw [printF, if_neg (by rw [hck]; decide)]]
    exact mprint_no r A A' n c m d w hN hP hsn hsp hck
  | true =>
    rw [show printF r = (printB r, 0) by rw [printF, if_pos hck]]
    have hln := hN.1
    have hlp := hP.1
    obtain ⟨⟨h1, h2, h3, h4, h5, h6, h7⟩, _⟩ := (checkB_iff _).1 hck
    obtain ⟨e, k, names, pledges⟩ := r
    simp only at h1 h2 h3 h4 h5 h6 h7 hln hlp hN hP
    obtain ⟨e', rfl⟩ : ∃ e' : Nat, e = e' := ⟨e.toNat, by omega⟩
    obtain ⟨k', rfl⟩ : ∃ k' : Nat, k = k' := ⟨k.toNat, by omega⟩
    obtain rfl : m = n := by omega
    obtain ⟨b, off, _, hA, _, _⟩ := mrow_at hN (show 0 < m by omega)
    obtain ⟨b', off', _, hA', _, _⟩ := mrow_at hP (show 0 < m by omega)
    subst hA hA'
    exact mprint_in e' k' names pledges b off c b' off' d m w hck hN hP hG
/-- what a record and an error that were boxed become -/
def caughtW (w : World) (g h : Nat) : World := ((((w.setCell ⟨g, 0, none⟩ (.int .i64 0)).setCell ⟨g, 1, none⟩ (.int .i64 0)).setCell ⟨g, 2, none⟩ (.slice none 0 0)).setCell ⟨g, 3, none⟩ (.slice none 0 0)).setCell ⟨h, 0, none⟩ (.int .i64 180)
set_option maxHeartbeats 2000000 in
set_option maxRecDepth 100000 in
theorem pcatch_thrown (g h : Nat) (c0 c1 c2 c3 e0 : Value) (w : World) (hB : Blk w g 24 #[c0, c1, c2, c3]) (hE : Blk w h 27 #[e0]) (hne : g ≠ h) :
    CallsD Tryd.prog 36 #[.pointer (some ⟨g, 0, none⟩), .pointer (some ⟨h, 0, none⟩)] (.panicking CHm) w fun e u' w' => e = .returned (.tuple #[]) ∧ u' = .panicking [{ v := .iface 27 (.int .i64 180), recovered := true }] ∧ w' = caughtW w g h := by
  have d0 := hB.cells 0 _ rfl
  have d1 := hB.cells 1 _ rfl
  have d2 := hB.cells 2 _ rfl
  have d3 := hB.cells 3 _ rfl
  have d4 := hE.cells 0 _ rfl
  simp only [List.getElem_toArray, List.getElem_cons_zero, List.getElem_cons_succ] at d0 d1 d2 d3 d4
  have f0 := hB.frozen
  have f1 := hE.frozen
  have l0 := hB.lt
  have l1 := hE.lt
  refine callsD_of_wpS Tryd.func36 rfl fun c₀ cs hu => ?_
  unfold CHm at hu
  apply wpS_seq
  apply wpS_region
  simp [wpOpsS, go_sem, recoverD, hu, Tryd.ntmps36, Exit.thenS]
  refine wpS_cond (t := true) (by simp [Act.eval, Array.replicate]) ?_
  simp only [if_true]
  refine wpS_of_wp ?_
  go_wp2_with fail
  refine ⟨rfl, _, rfl, .tuple #[], ?_, rfl, rfl, rfl⟩
  simp [results, Tryd.results36]
theorem caught_blk {g h : Nat} {c0 c1 c2 c3 e0 : Value} {w : World} (hB : Blk w g 24 #[c0, c1, c2, c3]) (hE : Blk w h 27 #[e0]) (hne : g ≠ h) :
    Blk (caughtW w g h) g 24 #[.int .i64 0, .int .i64 0, .slice none 0 0, .slice none 0 0] ∧ Blk (caughtW w g h) h 27 #[.int .i64 180] := by
  have h1 := (((((hB.set_ 0 (.int .i64 0)).set_ 1 (.int .i64 0)).set_ 2 (.slice none 0 0)).set_ 3 (.slice none 0 0))).far (p := ⟨h, 0, none⟩) (by show _ ≠ _; exact hne) (.int .i64 180)
  have h2 := (((((hE.far (p := ⟨g, 0, none⟩) (by show _ ≠ _; exact hne.symm) (.int .i64 0)).far (p := ⟨g, 1, none⟩) (by show _ ≠ _; exact hne.symm) (.int .i64 0)).far (p := ⟨g, 2, none⟩) (by show _ ≠ _; exact hne.symm) (.slice none 0 0)).far (p := ⟨g, 3, none⟩) (by show _ ≠ _; exact hne.symm) (.slice none 0 0))).set_ 0 (.int .i64 180)
  simp only [List.setIfInBounds_toArray, List.set_cons_zero, List.set_cons_succ] at h1 h2
  exact ⟨h1, h2⟩
theorem caught_below {B g h : Nat} {w W : World} (hb : Below B w W) (hg : B ≤ g) (hh : B ≤ h) : Below B w (caughtW W g h) :=
  ((((hb.setCell (p := ⟨g, 0, none⟩) hg _).setCell (p := ⟨g, 1, none⟩) hg _).setCell (p := ⟨g, 2, none⟩) hg _).setCell (p := ⟨g, 3, none⟩) hg _).setCell (p := ⟨h, 0, none⟩) hh _
set_option maxHeartbeats 4000000 in
set_option maxRecDepth 100000 in
theorem mparse_bad (s : ByteArray) (w : World) (hs : s.size ≤ 100000) (hG : Pows w) (hE : Errs w) (hno : ∀ r, checkB r = true → printB r ≠ s) :
    Calls Tryd.prog 14 #[.string s] w fun e' w' => e' = .returned (.tuple #[.agg #[.int .i64 0, .int .i64 0, .slice none 0 0, .slice none 0 0], .int .i64 180]) ∧ Below w.heap.size w w' := by
  have HR := Lib.hid (fun W (hW : Below w.heap.size w W) => mread_any s W hs (hE.below hW))
  have hmf : ∀ (fn : Fn) (first cap : Array Value) (w : World), (Instr.makeFunc fn first cap).run Tryd.prog w = .ok (.func fn first cap) w := fun _ _ _ _ => rfl
  have HNO := Lib.hid hno
  have HG := Lib.hid hG
  clear hs hG hE hno
  go_enter_defers Tryd.func14, Tryd.ntmps14
  go_wp2_with fail
  refine (HR.out _ (by go_grown)).mono ?_
  rintro e' w1 (⟨⟨e, k, names, pledges⟩, A, A', n, c, d, rfl, hln, hlp, hn16, hsn, hsp, hn, hp, hb1⟩ | ⟨rfl, hb1⟩)
  · have hsz1 : w.heap.size + 1 + 1 ≤ w1.heap.size := by have := hb1.size; simpa using this
    have hb0 : Below w.heap.size w w1 := Below.trans (by go_grown) (hb1.mono (by simp; omega))
    have hx1 : Blk w1 w.heap.size 24 #[.int .i64 0, .int .i64 0, .slice none 0 0, .slice none 0 0] := ((Blk.new w _ _).alloc _).below hb1 (by simp; omega)
    have hy1 : Blk w1 (w.heap.size + 1) 27 #[.int .i64 0] := (Blk.new_at (g := w.heap.size + 1) (by simp) _ _).below hb1 (by simp; done)
    have hn1 : SRow w1 (w.heap.size + 1 + 1) (.slice A n c) names := by simpa using hn.out
    have hp1 : SRow w1 (w.heap.size + 1 + 1) (.slice A' n d) pledges := by simpa using hp.out
    have hs2 := ((((hx1.set_ 0 (.int .i64 e)).set_ 1 (.int .i64 k)).set_ 2 (.slice A n c)).set_ 3 (.slice A' n d))
    simp only [List.setIfInBounds_toArray, List.set_cons_zero, List.set_cons_succ] at hs2
    have hn2 := orow_far (orow_far (orow_far (orow_far hn1 hx1 (by decide) 0 (.int .i64 e)) (hx1.set_ 0 _) (by decide) 1 (.int .i64 k)) ((hx1.set_ 0 _).set_ 1 _) (by decide) 2 (.slice A n c)) (((hx1.set_ 0 _).set_ 1 _).set_ 2 _) (by decide) 3 (.slice A' n d)
    have hp2 := orow_far (orow_far (orow_far (orow_far hp1 hx1 (by decide) 0 (.int .i64 e)) (hx1.set_ 0 _) (by decide) 1 (.int .i64 k)) ((hx1.set_ 0 _).set_ 1 _) (by decide) 2 (.slice A n c)) (((hx1.set_ 0 _).set_ 1 _).set_ 2 _) (by decide) 3 (.slice A' n d)
    have hy2 : Blk ((((w1.setCell ⟨w.heap.size, 0, none⟩ (.int .i64 e)).setCell ⟨w.heap.size, 1, none⟩ (.int .i64 k)).setCell ⟨w.heap.size, 2, none⟩ (.slice A n c)).setCell ⟨w.heap.size, 3, none⟩ (.slice A' n d)) (w.heap.size + 1) 27 #[.int .i64 0] :=
      (((hy1.far (by show _ ≠ _; simp) _).far (by show _ ≠ _; simp) _).far (by show _ ≠ _; simp) _).far (by show _ ≠ _; simp) _
    have hB2 : Below w.heap.size w ((((w1.setCell ⟨w.heap.size, 0, none⟩ (.int .i64 e)).setCell ⟨w.heap.size, 1, none⟩ (.int .i64 k)).setCell ⟨w.heap.size, 2, none⟩ (.slice A n c)).setCell ⟨w.heap.size, 3, none⟩ (.slice A' n d)) :=
      (((hb0.setCell (Nat.le_refl _) _).setCell (Nat.le_refl _) _).setCell (Nat.le_refl _) _).setCell (Nat.le_refl _) _
    have hsz2 : w.heap.size + 1 + 1 ≤ ((((w1.setCell ⟨w.heap.size, 0, none⟩ (.int .i64 e)).setCell ⟨w.heap.size, 1, none⟩ (.int .i64 k)).setCell ⟨w.heap.size, 2, none⟩ (.slice A n c)).setCell ⟨w.heap.size, 3, none⟩ (.slice A' n d)).heap.size := by simpa using hsz1
    have f0 := hx1.frozen
    have d0 := hx1.cells 0 _ rfl
    have d1 := hx1.cells 1 _ rfl
    have d2 := hx1.cells 2 _ rfl
    have d3 := hx1.cells 3 _ rfl
    simp only [List.getElem_toArray, List.getElem_cons_zero, List.getElem_cons_succ] at d0 d1 d2 d3
    have hl1 := hx1.lt
    have HX := Lib.hid (And.intro hs2 (And.intro hn2 (And.intro hp2 (And.intro hy2 (And.intro hB2 hsz2)))))
    have HLS := Lib.hid (And.intro hsn hsp)
    clear hn hp hb1 hb0 hx1 hy1 hn1 hp1 hs2 hn2 hp2 hy2 hB2 hsz2 hsn hsp
    unfold recV
    go_wp2_with fail
    obtain ⟨hs2, hn2, hp2, hy2, hB2, hsz2⟩ := HX.out
    generalize (((w1.setCell ⟨w.heap.size, 0, none⟩ (.int .i64 e)).setCell ⟨w.heap.size, 1, none⟩ (.int .i64 k)).setCell ⟨w.heap.size, 2, none⟩ (.slice A n c)).setCell ⟨w.heap.size, 3, none⟩ (.slice A' n d) = W2 at *
    have hsN := srow_slr hn2 hln
    have hsP := srow_slr hp2 hlp
    have hB2' := hB2
    have hgoal : ∀ (t : ByteArray) (q : Int), (q = 0 → (t.toList == s.toList) = false) → Calls Tryd.prog 12 #[.agg #[.int .i64 e, .int .i64 k, .slice A n c, .slice A' n d]] W2 (fun e' w' => e' = .returned (.tuple #[.string t, .int .i64 q]) ∧ Below W2.heap.size W2 w') → Calls Tryd.prog 12 #[.agg #[.int .i64 e, .int .i64 k, .slice A n c, .slice A' n d]] W2 (fun e' w' => ∃ (t : ByteArray) (q : Int), (q = 0 → (t.toList == s.toList) = false) ∧ e' = .returned (.tuple #[.string t, .int .i64 q]) ∧ Below W2.heap.size W2 w') :=
      fun t q hq hc => hc.mono (fun e' w' h => ⟨t, q, hq, h.1, h.2⟩)
    have hpr : Calls Tryd.prog 12 #[.agg #[.int .i64 e, .int .i64 k, .slice A n c, .slice A' n d]] W2 (fun e' w' => ∃ (t : ByteArray) (q : Int), (q = 0 → (t.toList == s.toList) = false) ∧ e' = .returned (.tuple #[.string t, .int .i64 q]) ∧ Below W2.heap.size W2 w') := by
      cases hck : checkB ⟨e, k, names, pledges⟩ with
      | false =>
        exact hgoal ⟨#[]⟩ 180 (fun h => by cases h) (mprint_no ⟨e, k, names, pledges⟩ A A' n c n d W2 hsN hsP (fun s hs => by have := HLS.out.1 s hs; omega) (fun s hs => by have := HLS.out.2 s hs; omega) hck)
      | true =>
        have hne := HNO.out _ hck
        obtain ⟨⟨h1, h2, h3, h4, h5, h6, h7⟩, _⟩ := (checkB_iff _).1 hck
        simp only at h1 h2 h3 h4 h5 h6 h7
        obtain ⟨e', rfl⟩ : ∃ e' : Nat, e = e' := ⟨e.toNat, by omega⟩
        obtain ⟨k', rfl⟩ : ∃ k' : Nat, k = k' := ⟨k.toNat, by omega⟩
        obtain ⟨b, off, _, hA, _, _⟩ := mrow_at hsN (show 0 < n by omega)
        obtain ⟨b', off', _, hA', _, _⟩ := mrow_at hsP (show 0 < n by omega)
        subst hA hA'
        subst hln
        have hq : ((printB ⟨(e' : Int), (k' : Int), names, pledges⟩).toList == s.toList) = false := by
          cases hh : ((printB ⟨(e' : Int), (k' : Int), names, pledges⟩).toList == s.toList) with
          | false => rfl
          | true => exact absurd (bytes_ext (eq_of_beq hh)) hne
        exact hgoal _ 0 (fun _ => hq) (mprint_in e' k' names pledges b off c b' off' d names.length W2 hck hsN hsP (HG.out.below hB2))
    refine hpr.mono ?_
    rintro e' w3 ⟨t, q, hq, rfl, hb3⟩
    have hs3 := hs2.below hb3 (by omega)
    have hy3 := hy2.below hb3 (by omega)
    have hB3 := hB2.trans (hb3.mono (by omega))
    have HX3 := Lib.hid (And.intro hs3 (And.intro hy3 hB3))
    clear HX hs2 hn2 hp2 hy2 hB2 hs3 hy3 hB3 hb3 hsN hsP hpr hgoal
    by_cases hq0 : q = 0
    · have hts := hq hq0
      subst hq0
      clear hq
      go_wp2_with fail
      refine (must_false _).mono ?_
      rintro e' w4 ⟨rfl, rfl⟩
      go_wp2_with fail
      refine leaves_cons (f := 36) (args := #[.pointer (some ⟨w.heap.size, 0, none⟩), .pointer (some ⟨w.heap.size + 1, 0, none⟩)]) (by simp) (by simp [go_sem]) ?_
      refine (pcatch_thrown w.heap.size (w.heap.size + 1) _ _ _ _ _ w3 HX3.out.1 HX3.out.2.1 (by omega)).mono ?_
      rintro e' u' w'' ⟨rfl, rfl, rfl⟩
      obtain ⟨hz1, hz2⟩ := caught_blk HX3.out.1 HX3.out.2.1 (show w.heap.size ≠ w.heap.size + 1 by omega)
      have hz3 := caught_below HX3.out.2.2 (Nat.le_refl w.heap.size) (show w.heap.size ≤ w.heap.size + 1 by omega)
      have z0 := hz1.cells 0 _ rfl
      have z1 := hz1.cells 1 _ rfl
      have z2 := hz1.cells 2 _ rfl
      have z3 := hz1.cells 3 _ rfl
      have z4 := hz2.cells 0 _ rfl
      simp only [List.getElem_toArray, List.getElem_cons_zero, List.getElem_cons_succ] at z0 z1 z2 z3 z4
      generalize caughtW w3 w.heap.size (w.heap.size + 1) = W9 at *
      refine ⟨.tuple #[.agg #[.int .i64 0, .int .i64 0, .slice none 0 0, .slice none 0 0], .int .i64 180], by simp [results, Tryd.results14, asAddr, go_sem, z0, z1, z2, z3, z4], rfl, hz3⟩
    · clear hq
      go_wp2_with fail
      refine (must_false _).mono ?_
      rintro e' w4 ⟨rfl, rfl⟩
      go_wp2_with fail
      refine leaves_cons (f := 36) (args := #[.pointer (some ⟨w.heap.size, 0, none⟩), .pointer (some ⟨w.heap.size + 1, 0, none⟩)]) (by simp) (by simp [go_sem]) ?_
      refine (pcatch_thrown w.heap.size (w.heap.size + 1) _ _ _ _ _ w3 HX3.out.1 HX3.out.2.1 (by omega)).mono ?_
      rintro e' u' w'' ⟨rfl, rfl, rfl⟩
      obtain ⟨hz1, hz2⟩ := caught_blk HX3.out.1 HX3.out.2.1 (show w.heap.size ≠ w.heap.size + 1 by omega)
      have hz3 := caught_below HX3.out.2.2 (Nat.le_refl w.heap.size) (show w.heap.size ≤ w.heap.size + 1 by omega)
      have z0 := hz1.cells 0 _ rfl
      have z1 := hz1.cells 1 _ rfl
      have z2 := hz1.cells 2 _ rfl
      have z3 := hz1.cells 3 _ rfl
      have z4 := hz2.cells 0 _ rfl
      simp only [List.getElem_toArray, List.getElem_cons_zero, List.getElem_cons_succ] at z0 z1 z2 z3 z4
      generalize caughtW w3 w.heap.size (w.heap.size + 1) = W9 at *
      refine ⟨.tuple #[.agg #[.int .i64 0, .int .i64 0, .slice none 0 0, .slice none 0 0], .int .i64 180], by simp [results, Tryd.results14, asAddr, go_sem, z0, z1, z2, z3, z4], rfl, hz3⟩
  · have hb0 : Below w.heap.size w w1 := Below.trans (by go_grown) (hb1.mono (by simp; omega))
    have hx1 : Blk w1 w.heap.size 24 #[.int .i64 0, .int .i64 0, .slice none 0 0, .slice none 0 0] := ((Blk.new w _ _).alloc _).below hb1 (by simp; omega)
    have hy1 : Blk w1 (w.heap.size + 1) 27 #[.int .i64 0] := (Blk.new_at (g := w.heap.size + 1) (by simp) _ _).below hb1 (by simp; done)
    have HX3 := Lib.hid (And.intro hx1 (And.intro hy1 hb0))
    clear hb1 hb0 hx1 hy1
    go_wp2_with fail
    refine leaves_cons (f := 36) (args := #[.pointer (some ⟨w.heap.size, 0, none⟩), .pointer (some ⟨w.heap.size + 1, 0, none⟩)]) (by simp) (by simp [go_sem]) ?_
    refine (pcatch_thrown w.heap.size (w.heap.size + 1) _ _ _ _ _ w1 HX3.out.1 HX3.out.2.1 (by omega)).mono ?_
    rintro e' u' w'' ⟨rfl, rfl, rfl⟩
    obtain ⟨hz1, hz2⟩ := caught_blk HX3.out.1 HX3.out.2.1 (show w.heap.size ≠ w.heap.size + 1 by omega)
    have hz3 := caught_below HX3.out.2.2 (Nat.le_refl w.heap.size) (show w.heap.size ≤ w.heap.size + 1 by omega)
    have z0 := hz1.cells 0 _ rfl
    have z1 := hz1.cells 1 _ rfl
    have z2 := hz1.cells 2 _ rfl
    have z3 := hz1.cells 3 _ rfl
    have z4 := hz2.cells 0 _ rfl
    simp only [List.getElem_toArray, List.getElem_cons_zero, List.getElem_cons_succ] at z0 z1 z2 z3 z4
    generalize caughtW w1 w.heap.size (w.heap.size + 1) = W9 at *
    refine ⟨.tuple #[.agg #[.int .i64 0, .int .i64 0, .slice none 0 0, .slice none 0 0], .int .i64 180], by simp [results, Tryd.results14, asAddr, go_sem, z0, z1, z2, z3, z4], rfl, hz3⟩
/-- what Parse tells: the record of which the text is, or none -/
def ParseOf (s : ByteArray) (b : Rec) (f : Int) : Prop := (f = 0 ∧ checkB b = true ∧ printB b = s) ∨ (f = 180 ∧ b = noRec ∧ ∀ r, checkB r = true → printB r ≠ s)
theorem parse_of (s : ByteArray) : ∃ b f, ParseOf s b f := by
  by_cases h : ∃ r, checkB r = true ∧ printB r = s
  · obtain ⟨r, h1, h2⟩ := h
    exact ⟨r, 0, .inl ⟨rfl, h1, h2⟩⟩
  · exact ⟨noRec, 180, .inr ⟨rfl, rfl, fun r h1 h2 => h ⟨r, h1, h2⟩⟩⟩
theorem check_sizes {r : Rec} (h : checkB r = true) : (∀ s ∈ r.names, s.size ≤ 20) ∧ (∀ s ∈ r.pledges, s.size ≤ 32) := by
  obtain ⟨⟨_, _, _, _, h5, _, _⟩, _⟩ := (checkB_iff r).1 h
  refine ⟨fun s hs => ?_, fun s hs => ?_⟩
  · obtain ⟨i, hi⟩ := List.getElem?_of_mem hs
    have h1 := (check_place h hi).1
    unfold nameB at h1
    simp only [Bool.and_eq_true, decide_eq_true_eq] at h1
    exact h1.2.1
  · obtain ⟨i, hi⟩ := List.getElem?_of_mem hs
    have hil := (List.getElem?_eq_some_iff.1 hi).1
    obtain ⟨x, hx⟩ : ∃ x, r.names[i]? = some x := ⟨_, List.getElem?_eq_getElem (by omega)⟩
    have := (check_place h hx).2.1 s hi
    omega
theorem parse_sizes {s : ByteArray} {b : Rec} {f : Int} (h : ParseOf s b f) : (∀ s ∈ b.names, s.size ≤ 140737488351232) ∧ (∀ s ∈ b.pledges, s.size ≤ 140737488351232) := by
  rcases h with ⟨_, h, _⟩ | ⟨_, rfl, _⟩
  · obtain ⟨h1, h2⟩ := check_sizes h
    exact ⟨fun s hs => by have := h1 s hs; omega, fun s hs => by have := h2 s hs; omega⟩
  · exact ⟨fun s hs => absurd (show s ∈ ([] : List ByteArray) from hs) (by simp), fun s hs => absurd (show s ∈ ([] : List ByteArray) from hs) (by simp)⟩
theorem mparse_any (b : Rec) (f : Int) (s : ByteArray) (w : World) (h : ParseOf s b f) (hs : s.size ≤ 100000) (hG : Pows w) (hE : Errs w) :
    Calls Tryd.prog 14 #[.string s] w fun e' w' => ∃ (A A' : Option Addr) (n c d : Nat), e' = .returned (.tuple #[recV b A n c A' n d, .int .i64 f]) ∧ Hid (SRow w' w.heap.size (.slice A n c) b.names) ∧ Hid (SRow w' w.heap.size (.slice A' n d) b.pledges) ∧ b.names.length = n ∧ b.pledges.length = n ∧ Below w.heap.size w w' := by
  rcases h with ⟨rfl, hck, hp⟩ | ⟨rfl, rfl, hno⟩
  · obtain ⟨⟨h1, h2, h3, h4, h5, h6, h7⟩, _⟩ := (checkB_iff _).1 hck
    obtain ⟨e, k, names, pledges⟩ := b
    simp only at h1 h2 h3 h4 h5 h6 h7
    obtain ⟨e', rfl⟩ : ∃ e' : Nat, e = e' := ⟨e.toNat, by omega⟩
    obtain ⟨k', rfl⟩ : ∃ k' : Nat, k = k' := ⟨k.toNat, by omega⟩
    refine (mparse_good e' k' names pledges s w hck hp hG).mono ?_
    rintro e w' ⟨A, A', c, d, rfl, hn, hp2, hb⟩
    exact ⟨A, A', names.length, c, d, rfl, hn, hp2, rfl, h5, hb⟩
  · refine (mparse_bad s w hs hG hE hno).mono ?_
    rintro e w' ⟨rfl, hb⟩
    exact ⟨none, none, 0, 0, 0, rfl, Lib.hid (srow_nil _ _), Lib.hid (srow_nil _ _), rfl, rfl, hb⟩
end Go.Proofs.YtbgohcedakpnbaaDoor
