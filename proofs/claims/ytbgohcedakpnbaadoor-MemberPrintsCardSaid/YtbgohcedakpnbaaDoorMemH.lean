/- strings.Cut, CutPrefix, IndexByte, strconv.Atoi at this program. -/
import Derived.Test.YtbgohcedakpnbaaDoorRow
import Derived.Shelf.Strings.Search1
import Derived.Shelf.Small.Strs
import Derived.Shelf.Strconv.Atoi
import Derived.Lib.IndexLaws
import Derived.Deep.Cut
import Derived.Deep.RegionLaw
import Derived.Test.YtbgohcedakpnbaaDoorMemD
set_option linter.unusedVariables false
set_option linter.unusedSimpArgs false
namespace Go.Proofs.YtbgohcedakpnbaaDoor
open Go.RowKit Go.Shelf
def ixbRen : Go.Shelf.Ren := ⟨fun | 217 => 95 | 266 => 122 | n => n, fun | 3 => 3 | 5 => 5 | 9 => 9 | n => n, fun | n => n⟩
theorem ixbLays : Go.Proofs.Lays.n217 Tryd.prog ixbRen := {
  mixed := by kernel_rfl
  f217 := Tryd.func95.trans (congrArg some (by kernel_rfl))
  f266 := Tryd.func122.trans (congrArg some (by kernel_rfl))
  t3 := Tryd.underlying3
  a3 := Tryd.isAgg3
  z3 := Tryd.sizeOf3
  v3 := Tryd.zeroValue3
  t5 := Tryd.underlying5
  a5 := Tryd.isAgg5
  z5 := Tryd.sizeOf5
  v5 := Tryd.zeroValue5
  t9 := Tryd.underlying9
  a9 := Tryd.isAgg9
  z9 := Tryd.sizeOf9
  v9 := Tryd.zeroValue9 }
def sxbRen : Go.Shelf.Ren := ⟨fun | 137 => 77 | 217 => 95 | 266 => 122 | n => n, fun | 3 => 3 | 5 => 5 | 9 => 9 | n => n, fun | n => n⟩
theorem sxbLays : Go.Proofs.Lays.n137 Tryd.prog sxbRen := {
  mixed := by kernel_rfl
  f137 := Tryd.func77.trans (congrArg some (by kernel_rfl))
  f217 := Tryd.func95.trans (congrArg some (by kernel_rfl))
  f266 := Tryd.func122.trans (congrArg some (by kernel_rfl))
  t3 := Tryd.underlying3
  a3 := Tryd.isAgg3
  z3 := Tryd.sizeOf3
  v3 := Tryd.zeroValue3
  t5 := Tryd.underlying5
  a5 := Tryd.isAgg5
  z5 := Tryd.sizeOf5
  v5 := Tryd.zeroValue5
  t9 := Tryd.underlying9
  a9 := Tryd.isAgg9
  z9 := Tryd.sizeOf9
  v9 := Tryd.zeroValue9 }
def atoiRen : Go.Shelf.Ren := ⟨fun | 129 => 130 | 171 => 53 | 172 => 76 | 205 => 137 | 243 => 71 | 244 => 93 | 245 => 94 | 246 => 90 | 247 => 117 | 279 => 118 | 280 => 119 | 281 => 120 | 282 => 121 | 283 => 110 | 284 => 111 | 285 => 112 | 286 => 113 | 287 => 135 | 316 => 136 | 317 => 129 | 318 => 131 | 319 => 132 | 320 => 133 | 321 => 150 | 322 => 151 | 337 => 148 | 338 => 149 | n => n, fun | 0 => 0 | 2 => 2 | 3 => 3 | 4 => 4 | 5 => 5 | 9 => 9 | 20 => 20 | 21 => 21 | 37 => 54 | 46 => 87 | 51 => 152 | 53 => 86 | 75 => 61 | 76 => 62 | 80 => 65 | 85 => 137 | 127 => 88 | 143 => 170 | 145 => 172 | 167 => 136 | 168 => 139 | 171 => 130 | 173 => 133 | 175 => 158 | 210 => 161 | 212 => 151 | 213 => 153 | 232 => 174 | 233 => 175 | n => n, fun | 15 => 3 | 16 => 4 | 17 => 2 | 18 => 6 | 19 => 7 | n => n⟩
theorem atoiLays : Go.Proofs.Lays.n172 Tryd.prog atoiRen := {
  mixed := by kernel_rfl
  f129 := Tryd.func130.trans (congrArg some (by kernel_rfl))
  f171 := Tryd.func53.trans (congrArg some (by kernel_rfl))
  f172 := Tryd.func76.trans (congrArg some (by kernel_rfl))
  f205 := Tryd.func137.trans (congrArg some (by kernel_rfl))
  f243 := Tryd.func71.trans (congrArg some (by kernel_rfl))
  f244 := Tryd.func93.trans (congrArg some (by kernel_rfl))
  f245 := Tryd.func94.trans (congrArg some (by kernel_rfl))
  f246 := Tryd.func90.trans (congrArg some (by kernel_rfl))
  f247 := Tryd.func117.trans (congrArg some (by kernel_rfl))
  f279 := Tryd.func118.trans (congrArg some (by kernel_rfl))
  f280 := Tryd.func119.trans (congrArg some (by kernel_rfl))
  f281 := Tryd.func120.trans (congrArg some (by kernel_rfl))
  f282 := Tryd.func121.trans (congrArg some (by kernel_rfl))
  f283 := Tryd.func110.trans (congrArg some (by kernel_rfl))
  f284 := Tryd.func111.trans (congrArg some (by kernel_rfl))
  f285 := Tryd.func112.trans (congrArg some (by kernel_rfl))
  f286 := Tryd.func113.trans (congrArg some (by kernel_rfl))
  f287 := Tryd.func135.trans (congrArg some (by kernel_rfl))
  f316 := Tryd.func136.trans (congrArg some (by kernel_rfl))
  f317 := Tryd.func129.trans (congrArg some (by kernel_rfl))
  f318 := Tryd.func131.trans (congrArg some (by kernel_rfl))
  f319 := Tryd.func132.trans (congrArg some (by kernel_rfl))
  f320 := Tryd.func133.trans (congrArg some (by kernel_rfl))
  f321 := Tryd.func150.trans (congrArg some (by kernel_rfl))
  f322 := Tryd.func151.trans (congrArg some (by kernel_rfl))
  f337 := Tryd.func148.trans (congrArg some (by kernel_rfl))
  f338 := Tryd.func149.trans (congrArg some (by kernel_rfl))
  t0 := Tryd.underlying0
  a0 := Tryd.isAgg0
  z0 := Tryd.sizeOf0
  v0 := Tryd.zeroValue0
  t2 := Tryd.underlying2
  a2 := Tryd.isAgg2
  z2 := Tryd.sizeOf2
  v2 := Tryd.zeroValue2
  t3 := Tryd.underlying3
  a3 := Tryd.isAgg3
  z3 := Tryd.sizeOf3
  v3 := Tryd.zeroValue3
  t4 := Tryd.underlying4
  a4 := Tryd.isAgg4
  z4 := Tryd.sizeOf4
  v4 := Tryd.zeroValue4
  t5 := Tryd.underlying5
  a5 := Tryd.isAgg5
  z5 := Tryd.sizeOf5
  v5 := Tryd.zeroValue5
  t9 := Tryd.underlying9
  a9 := Tryd.isAgg9
  z9 := Tryd.sizeOf9
  v9 := Tryd.zeroValue9
  t20 := Tryd.underlying20
  a20 := Tryd.isAgg20
  z20 := Tryd.sizeOf20
  v20 := Tryd.zeroValue20
  t21 := Tryd.underlying21
  a21 := Tryd.isAgg21
  z21 := Tryd.sizeOf21
  v21 := Tryd.zeroValue21
  t37 := Tryd.underlying54
  a37 := Tryd.isAgg54
  z37 := Tryd.sizeOf54
  v37 := Tryd.zeroValue54
  t46 := Tryd.underlying87
  a46 := Tryd.isAgg87
  z46 := Tryd.sizeOf87
  v46 := Tryd.zeroValue87
  t51 := Tryd.underlying152
  a51 := Tryd.isAgg152
  z51 := Tryd.sizeOf152
  v51 := Tryd.zeroValue152
  t53 := Tryd.underlying86
  a53 := Tryd.isAgg86
  z53 := Tryd.sizeOf86
  v53 := Tryd.zeroValue86
  t75 := Tryd.underlying61
  a75 := Tryd.isAgg61
  z75 := Tryd.sizeOf61
  v75 := Tryd.zeroValue61
  t76 := Tryd.underlying62
  a76 := Tryd.isAgg62
  z76 := Tryd.sizeOf62
  v76 := Tryd.zeroValue62
  t85 := Tryd.underlying137
  a85 := Tryd.isAgg137
  z85 := Tryd.sizeOf137
  v85 := Tryd.zeroValue137
  t127 := Tryd.underlying88
  a127 := Tryd.isAgg88
  z127 := Tryd.sizeOf88
  v127 := Tryd.zeroValue88
  t143 := Tryd.underlying170
  a143 := Tryd.isAgg170
  z143 := Tryd.sizeOf170
  v143 := Tryd.zeroValue170
  t145 := Tryd.underlying172
  a145 := Tryd.isAgg172
  z145 := Tryd.sizeOf172
  v145 := Tryd.zeroValue172
  t167 := Tryd.underlying136
  a167 := Tryd.isAgg136
  z167 := Tryd.sizeOf136
  v167 := Tryd.zeroValue136
  t168 := Tryd.underlying139
  a168 := Tryd.isAgg139
  z168 := Tryd.sizeOf139
  v168 := Tryd.zeroValue139
  t171 := Tryd.underlying130
  a171 := Tryd.isAgg130
  z171 := Tryd.sizeOf130
  v171 := Tryd.zeroValue130
  t173 := Tryd.underlying133
  a173 := Tryd.isAgg133
  z173 := Tryd.sizeOf133
  v173 := Tryd.zeroValue133
  t175 := Tryd.underlying158
  a175 := Tryd.isAgg158
  z175 := Tryd.sizeOf158
  v175 := Tryd.zeroValue158
  t210 := Tryd.underlying161
  a210 := Tryd.isAgg161
  z210 := Tryd.sizeOf161
  v210 := Tryd.zeroValue161
  t212 := Tryd.underlying151
  a212 := Tryd.isAgg151
  z212 := Tryd.sizeOf151
  v212 := Tryd.zeroValue151
  t213 := Tryd.underlying153
  a213 := Tryd.isAgg153
  z213 := Tryd.sizeOf153
  t232 := Tryd.underlying174
  a232 := Tryd.isAgg174
  z232 := Tryd.sizeOf174
  v232 := Tryd.zeroValue174
  t233 := Tryd.underlying175
  a233 := Tryd.isAgg175
  z233 := Tryd.sizeOf175
  v233 := Tryd.zeroValue175
  g15 := by kernel_rfl
  g16 := by kernel_rfl
  g17 := by kernel_rfl
  g18 := by kernel_rfl
  g19 := by kernel_rfl }

/-- a text up to a byte, what is behind it, and whether the byte is there -/
def cutF (s : ByteArray) (c : UInt8) : ByteArray × ByteArray × Bool :=
  if Lib.indexByte s.data.toList c = -1 then (s, ⟨#[]⟩, false) else (s.extract 0 (Lib.indexByte s.data.toList c).toNat, s.extract ((Lib.indexByte s.data.toList c).toNat + 1) s.size, true)
theorem index_any (s : ByteArray) (c : UInt8) (w : World) (hs : s.size ≤ 140737488351232) :
    Calls Tryd.prog 92 #[.string s, .string ⟨#[c]⟩] w fun e w' => e = .returned (.int .i64 (Lib.indexByte s.data.toList c)) ∧ w = w' := by
  have hI := Any.stringslite_IndexByte ixbLays s (c.toNat : Nat) w
  have hc : ((c.toNat : Nat) : Int).toNat.toUInt8 = c := by simp
  rw [hc] at hI
  obtain ⟨i, hi⟩ : ∃ i, Lib.indexByte s.data.toList c = i := ⟨_, rfl⟩
  rw [hi] at hI ⊢
  have HI := Lib.hid hI
  have t1 : ((1 : Int) == 0) = false := rfl
  have hcl : (⟨#[c]⟩ : ByteArray).toList = [c] := by simp [ByteArray.toList_eq]
  have hg0 : (⟨#[c]⟩ : ByteArray)[0]'(show 0 < 1 by omega) = c := rfl
  have hI2 : Calls Tryd.prog 95 #[.string s, .int .u8 (c.toNat : Nat)] w fun e w' => e = .returned (.int .i64 i) ∧ w' = w := hI
  have HI2 := Lib.hid hI2
  clear hI hI2
  cases he : ([c] == s.toList)
  · clear hcl
    go_enter Tryd.func92, Tryd.ntmps92
    go_wp2_with fail
    refine HI2.out.mono ?_
    rintro e w1 ⟨rfl, rfl⟩
    go_wp2_with fail
    go_ret
    exact ⟨rfl, rfl⟩
  · have h0 : i = 0 := by
      have h := LawfulBEq.eq_of_beq he
      rw [ByteArray.toList_eq] at h
      rw [← hi, ← h]
      simp [Lib.indexByte]
    subst h0
    clear hcl hi
    go_enter Tryd.func92, Tryd.ntmps92
    go_wp2_with fail
    go_ret
    exact ⟨rfl, rfl⟩
/-- the heap lies as it lay -/
def Still (A B : World) : Prop := B.os = A.os ∧ B.tape = A.tape ∧ B.output = A.output ∧ B.heap = A.heap
theorem Still.refl (A : World) : Still A A := ⟨rfl, rfl, rfl, rfl⟩
theorem Still.trans {A B C : World} (h : Still A B) (k : Still B C) : Still A C := ⟨k.1.trans h.1, k.2.1.trans h.2.1, k.2.2.1.trans h.2.2.1, k.2.2.2.trans h.2.2.2⟩
theorem Still.below {B0 : Nat} {A B : World} (h : Still A B) : Below B0 A B := ⟨h.1, h.2.1, h.2.2.1, by rw [h.2.2.2]; exact Nat.le_refl _, fun k _ => by rw [h.2.2.2]⟩
theorem Still.drew (A : World) : Still A A.drew := ⟨rfl, rfl, rfl, rfl⟩
set_option maxHeartbeats 1000000 in
theorem slcut_any (s : ByteArray) (c : UInt8) (w : World) (hs : s.size ≤ 140737488351232) :
    Calls Tryd.prog 75 #[.string s, .string ⟨#[c]⟩] w fun e w' => e = .returned (.tuple #[.string (cutF s c).1, .string (cutF s c).2.1, .bool (cutF s c).2.2]) ∧ Still w w' := by
  have hI := Lib.hid (index_any s c w hs)
  obtain ⟨V, hV⟩ : ∃ V, cutF s c = V := ⟨_, rfl⟩
  rw [hV]
  unfold cutF at hV
  have hge := Lib.indexByte_ge s.data.toList c
  by_cases hn : Lib.indexByte s.data.toList c = -1
  · rw [if_pos hn] at hV
    rw [hn] at hI
    subst hV
    clear hn hge
    go_enter Tryd.func75, Tryd.ntmps75
    go_wp2_with fail
    refine hI.out.mono ?_
    rintro e w1 ⟨rfl, rfl⟩
    go_wp2_with (with_reducible refine end_at ?_)
    refine end_ret (v := .tuple #[.string s, .string ⟨#[]⟩, .bool false]) (by simp [results, Tryd.results75]) rfl ⟨rfl, Still.refl _⟩
  · obtain ⟨o, ho⟩ : ∃ o : Nat, Lib.indexByte s.data.toList c = o := ⟨(Lib.indexByte s.data.toList c).toNat, by omega⟩
    rw [if_neg hn, ho] at hV
    rw [ho] at hI
    have hlt : o < s.size := by
      have h := (Lib.indexByte_some ho).1
      have := (List.getElem?_eq_some_iff.1 h).1
      simpa using this
    simp only [Int.toNat_natCast] at hV
    subst hV
    have o0 : (0 : Int) ≤ (o : Int) := by omega
    have o1 : (o : Int) ≤ (s.size : Int) := by omega
    have o2 : (o : Int) + 1 ≤ (s.size : Int) := by omega
    have o3 : (0 : Int) ≤ (o : Int) + 1 := by omega
    have o4 : IntKind.i64.wrap ((o : Int) + 1) = (o : Int) + 1 := by simp only [IntKind.wrap, IntKind.bits, IntKind.signed]; simp; omega
    clear hn hge ho
    go_enter Tryd.func75, Tryd.ntmps75
    go_wp2_with fail
    refine hI.out.mono ?_
    rintro e w1 ⟨rfl, rfl⟩
    go_wp2_with fail
    go_region
    all_goals go_wp2_with (with_reducible refine end_at ?_)
    all_goals refine end_ret (v := .tuple #[.string (s.extract 0 o), .string (s.extract (o + 1) s.size), .bool true]) (by simp [results, Tryd.results75]) rfl ⟨rfl, Still.drew _⟩
theorem cut_any (s : ByteArray) (c : UInt8) (w : World) (hs : s.size ≤ 140737488351232) :
    Calls Tryd.prog 58 #[.string s, .string ⟨#[c]⟩] w fun e w' => e = .returned (.tuple #[.string (cutF s c).1, .string (cutF s c).2.1, .bool (cutF s c).2.2]) ∧ Still w w' := by
  have hI := Lib.hid (slcut_any s c w hs)
  obtain ⟨⟨a, b, d⟩, hV⟩ : ∃ V, cutF s c = V := ⟨_, rfl⟩
  rw [hV] at hI ⊢
  clear hV
  dsimp only at hI ⊢
  go_enter Tryd.func58, Tryd.ntmps58
  go_wp2_with fail
  refine hI.out.mono ?_
  rintro e w1 ⟨rfl, hb⟩
  go_wp2_with (with_reducible refine end_at ?_)
  refine end_ret (v := .tuple #[.string a, .string b, .bool d]) (by simp [results, Tryd.results58]) rfl ⟨rfl, hb⟩
end Go.Proofs.YtbgohcedakpnbaaDoor
/- member: a number's text is read; plain facts of lines. -/
namespace Go.Proofs.YtbgohcedakpnbaaDoor
open Go.RowKit Go.Shelf
theorem mdec_len (k : Nat) : ∀ n, n < 10 ^ (k + 1) → (Lib.decDigits n).length ≤ k + 1 := by
  induction k with
  | zero => intro n h; rw [dec_rec, if_pos (by omega)]; simp
  | succ k ih =>
    intro n h
    rw [dec_rec]
    split
    · simp
    · have := ih (n / 10) (by rw [Nat.pow_succ] at h; omega)
      rw [List.length_append]
      simp
      omega
theorem decFrom_app (l : List UInt8) : ∀ (acc m : Nat) (r : List UInt8), Lib.decFrom acc l = some m → Lib.decFrom acc (l ++ r) = Lib.decFrom m r := by
  induction l with
  | nil => intro acc m r h; simp [Lib.decFrom] at h; subst h; rfl
  | cons b l ih =>
    intro acc m r h
    rw [List.cons_append]
    cases hd : Lib.digitVal b with
    | none => simp only [Lib.decFrom, hd] at h; cases h
    | some d => simp only [Lib.decFrom, hd] at h ⊢; exact ih _ _ _ h
theorem decFrom_digit (acc d : Nat) (h : d < 10) : Lib.decFrom acc [UInt8.ofNat (48 + d)] = some (acc * 10 + d) := by
  have h1 : (UInt8.ofNat (48 + d)).toNat = 48 + d := by simp; omega
  have h2 : Lib.digitVal (UInt8.ofNat (48 + d)) = some d := by
    unfold Lib.digitVal
    rw [h1, if_pos (by omega)]
    congr 1
    omega
  simp only [Lib.decFrom, h2]
theorem decFrom_dec (n : Nat) : Lib.decFrom 0 (Lib.decDigits n) = some n := by
  induction n using Nat.strongRecOn with
  | _ n ih =>
    rw [dec_rec]
    split
    · rename_i h
      rw [decFrom_digit 0 n h]; simp
    · rename_i h
      rw [decFrom_app _ 0 (n / 10) _ (ih (n / 10) (by omega)), decFrom_digit _ _ (by omega)]
      congr 1
      omega
theorem dec_first (n : Nat) : ∃ b r, Lib.decDigits n = b :: r ∧ 48 ≤ b.toNat ∧ b.toNat ≤ 57 := by
  induction n using Nat.strongRecOn with
  | _ n ih =>
    rw [dec_rec]
    split
    · rename_i h
      exact ⟨_, _, rfl, by simp; omega, by simp; omega⟩
    · rename_i h
      obtain ⟨b, r, h1, h2, h3⟩ := ih (n / 10) (by omega)
      exact ⟨b, r ++ [UInt8.ofNat (48 + n % 10)], by rw [h1]; rfl, h2, h3⟩
theorem atoi_dec (n : Nat) : Lib.atoi (Lib.decDigits n) = some (n : Int) := by
  obtain ⟨b, r, h1, h2, h3⟩ := dec_first n
  have h4 := decFrom_dec n
  rw [h1] at h4 ⊢
  have n1 : (b == 45) = false := by
    rw [beq_eq_false_iff_ne]; rintro rfl; simp at h2
  have n2 : (b == 43) = false := by
    rw [beq_eq_false_iff_ne]; rintro rfl; simp at h2
  unfold Lib.atoi Lib.decNat
  simp only [n1, n2, Bool.false_eq_true, if_false, List.isEmpty_cons]
  rw [h4]
  rfl
theorem below_bytesWorld (w : World) (e : TypeId) (s : ByteArray) : Below w.heap.size w (Lib.bytesWorld w e s) := by
  exact Lib.below_freeze ((Below.drew (Below.refl _ w)).alloc (Nat.le_refl _) _) (p := ⟨w.heap.size, _, none⟩) (Nat.le_refl _) 1
theorem atoi_any (n : Nat) (w : World) (h : n ≤ 1000000) :
    Calls Tryd.prog 76 #[.string (digB n)] w fun e w' => e = .returned (.tuple #[.int .i64 n, .nilIface]) ∧ Below w.heap.size w w' := by
  have hl : (digB n).size ≤ 18 := by
    show (Lib.decDigits n).toArray.size ≤ 18
    rw [List.size_toArray]
    exact Nat.le_trans (mdec_len 6 n (by omega)) (by omega)
  have hA : Calls Tryd.prog 76 #[.string (digB n)] w fun e w' => e = .returned (.tuple #[.int .i64 n, .nilIface]) ∧ ∃ t, w' = Lib.bytesWorld w (atoiRen.t 5) t :=
    Any.strconv_Atoi atoiLays (digB n) (n : Int) hl (atoi_dec n) w
  refine hA.mono ?_
  rintro e w' ⟨rfl, t, rfl⟩
  exact ⟨rfl, below_bytesWorld _ _ _⟩
theorem must_true (w : World) : Calls Tryd.prog 38 #[.bool true] w fun e w' => e = .returned (.tuple #[]) ∧ w = w' := by
  go_enter Tryd.func38, Tryd.ntmps38
  go_wp2_with fail
  go_end0
  exact ⟨rfl, rfl⟩
set_option maxRecDepth 100000 in
theorem number_good (n : Nat) (w : World) (h : n ≤ 1000000) :
    Calls Tryd.prog 59 #[.string (digB n)] w fun e w' => e = .returned (.int .i64 n) ∧ Below w.heap.size w w' := by
  have HA := Lib.hid (atoi_any n w h)
  generalize digB n = D at *
  go_enter Tryd.func59, Tryd.ntmps59
  go_wp2_with fail
  refine HA.out.mono ?_
  rintro e w1 ⟨rfl, hb1⟩
  go_wp2_with fail
  refine (must_true _).mono ?_
  rintro e w2 ⟨rfl, rfl⟩
  go_wp2_with fail
  go_ret
  exact ⟨rfl, hb1⟩
/-- a text behind a front -/
def cutP (s p : ByteArray) : ByteArray × Bool := if (s.extract 0 p.size).toList = p.toList then (s.extract p.size s.size, true) else (s, false)
end Go.Proofs.YtbgohcedakpnbaaDoor
