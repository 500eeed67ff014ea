/- strings.Cut, CutPrefix, IndexByte, strconv.Atoi at this program. -/
import Derived.Test.YtbgohcedakpnbaaGreatDoorRow
import Derived.Shelf.Strings.Search1
import Derived.Shelf.Small.Strs
import Derived.Shelf.Strconv.Atoi
import Derived.Lib.IndexLaws
import Derived.Deep.Cut
import Derived.Deep.RegionLaw
import Derived.Test.YtbgohcedakpnbaaGreatDoorMemD
set_option linter.unusedVariables false
set_option linter.unusedSimpArgs false
namespace Go.Proofs.YtbgohcedakpnbaaGreatDoor
open Go.RowKit Go.Shelf
def ixbRen : Go.Shelf.Ren := ⟨fun | 217 => 61 | 266 => 86 | n => n, fun | 3 => 3 | 5 => 5 | 9 => 9 | n => n, fun | n => n⟩
theorem ixbLays : Go.Proofs.Lays.n217 Tryz.prog ixbRen := {
  mixed := by kernel_rfl
  f217 := Tryz.func61.trans (congrArg some (by kernel_rfl))
  f266 := Tryz.func86.trans (congrArg some (by kernel_rfl))
  t3 := Tryz.underlying3
  a3 := Tryz.isAgg3
  z3 := Tryz.sizeOf3
  v3 := Tryz.zeroValue3
  t5 := Tryz.underlying5
  a5 := Tryz.isAgg5
  z5 := Tryz.sizeOf5
  v5 := Tryz.zeroValue5
  t9 := Tryz.underlying9
  a9 := Tryz.isAgg9
  z9 := Tryz.sizeOf9
  v9 := Tryz.zeroValue9 }
def sxbRen : Go.Shelf.Ren := ⟨fun | 137 => 46 | 217 => 61 | 266 => 86 | n => n, fun | 3 => 3 | 5 => 5 | 9 => 9 | n => n, fun | n => n⟩
theorem sxbLays : Go.Proofs.Lays.n137 Tryz.prog sxbRen := {
  mixed := by kernel_rfl
  f137 := Tryz.func46.trans (congrArg some (by kernel_rfl))
  f217 := Tryz.func61.trans (congrArg some (by kernel_rfl))
  f266 := Tryz.func86.trans (congrArg some (by kernel_rfl))
  t3 := Tryz.underlying3
  a3 := Tryz.isAgg3
  z3 := Tryz.sizeOf3
  v3 := Tryz.zeroValue3
  t5 := Tryz.underlying5
  a5 := Tryz.isAgg5
  z5 := Tryz.sizeOf5
  v5 := Tryz.zeroValue5
  t9 := Tryz.underlying9
  a9 := Tryz.isAgg9
  z9 := Tryz.sizeOf9
  v9 := Tryz.zeroValue9 }
def atoiRen : Go.Shelf.Ren := ⟨fun | 129 => 90 | 171 => 26 | 172 => 45 | 205 => 97 | 243 => 40 | 244 => 59 | 245 => 60 | 246 => 56 | 247 => 81 | 279 => 82 | 280 => 83 | 281 => 84 | 282 => 85 | 283 => 74 | 284 => 75 | 285 => 76 | 286 => 77 | 287 => 95 | 316 => 96 | 317 => 89 | 318 => 91 | 319 => 92 | 320 => 93 | 321 => 104 | 322 => 105 | 337 => 102 | 338 => 103 | n => n, fun | 0 => 0 | 2 => 2 | 3 => 3 | 4 => 4 | 5 => 5 | 9 => 9 | 20 => 20 | 21 => 21 | 37 => 37 | 46 => 71 | 51 => 123 | 53 => 106 | 75 => 44 | 76 => 45 | 80 => 48 | 85 => 113 | 127 => 59 | 143 => 137 | 145 => 139 | 167 => 112 | 168 => 115 | 171 => 105 | 173 => 109 | 175 => 129 | 210 => 132 | 212 => 122 | 213 => 124 | 232 => 141 | 233 => 142 | n => n, fun | 15 => 3 | 16 => 4 | 17 => 2 | 18 => 5 | 19 => 6 | n => n⟩
theorem atoiLays : Go.Proofs.Lays.n172 Tryz.prog atoiRen := {
  mixed := by kernel_rfl
  f129 := Tryz.func90.trans (congrArg some (by kernel_rfl))
  f171 := Tryz.func26.trans (congrArg some (by kernel_rfl))
  f172 := Tryz.func45.trans (congrArg some (by kernel_rfl))
  f205 := Tryz.func97.trans (congrArg some (by kernel_rfl))
  f243 := Tryz.func40.trans (congrArg some (by kernel_rfl))
  f244 := Tryz.func59.trans (congrArg some (by kernel_rfl))
  f245 := Tryz.func60.trans (congrArg some (by kernel_rfl))
  f246 := Tryz.func56.trans (congrArg some (by kernel_rfl))
  f247 := Tryz.func81.trans (congrArg some (by kernel_rfl))
  f279 := Tryz.func82.trans (congrArg some (by kernel_rfl))
  f280 := Tryz.func83.trans (congrArg some (by kernel_rfl))
  f281 := Tryz.func84.trans (congrArg some (by kernel_rfl))
  f282 := Tryz.func85.trans (congrArg some (by kernel_rfl))
  f283 := Tryz.func74.trans (congrArg some (by kernel_rfl))
  f284 := Tryz.func75.trans (congrArg some (by kernel_rfl))
  f285 := Tryz.func76.trans (congrArg some (by kernel_rfl))
  f286 := Tryz.func77.trans (congrArg some (by kernel_rfl))
  f287 := Tryz.func95.trans (congrArg some (by kernel_rfl))
  f316 := Tryz.func96.trans (congrArg some (by kernel_rfl))
  f317 := Tryz.func89.trans (congrArg some (by kernel_rfl))
  f318 := Tryz.func91.trans (congrArg some (by kernel_rfl))
  f319 := Tryz.func92.trans (congrArg some (by kernel_rfl))
  f320 := Tryz.func93.trans (congrArg some (by kernel_rfl))
  f321 := Tryz.func104.trans (congrArg some (by kernel_rfl))
  f322 := Tryz.func105.trans (congrArg some (by kernel_rfl))
  f337 := Tryz.func102.trans (congrArg some (by kernel_rfl))
  f338 := Tryz.func103.trans (congrArg some (by kernel_rfl))
  t0 := Tryz.underlying0
  a0 := Tryz.isAgg0
  z0 := Tryz.sizeOf0
  v0 := Tryz.zeroValue0
  t2 := Tryz.underlying2
  a2 := Tryz.isAgg2
  z2 := Tryz.sizeOf2
  v2 := Tryz.zeroValue2
  t3 := Tryz.underlying3
  a3 := Tryz.isAgg3
  z3 := Tryz.sizeOf3
  v3 := Tryz.zeroValue3
  t4 := Tryz.underlying4
  a4 := Tryz.isAgg4
  z4 := Tryz.sizeOf4
  v4 := Tryz.zeroValue4
  t5 := Tryz.underlying5
  a5 := Tryz.isAgg5
  z5 := Tryz.sizeOf5
  v5 := Tryz.zeroValue5
  t9 := Tryz.underlying9
  a9 := Tryz.isAgg9
  z9 := Tryz.sizeOf9
  v9 := Tryz.zeroValue9
  t20 := Tryz.underlying20
  a20 := Tryz.isAgg20
  z20 := Tryz.sizeOf20
  v20 := Tryz.zeroValue20
  t21 := Tryz.underlying21
  a21 := Tryz.isAgg21
  z21 := Tryz.sizeOf21
  v21 := Tryz.zeroValue21
  t37 := Tryz.underlying37
  a37 := Tryz.isAgg37
  z37 := Tryz.sizeOf37
  v37 := Tryz.zeroValue37
  t46 := Tryz.underlying71
  a46 := Tryz.isAgg71
  z46 := Tryz.sizeOf71
  v46 := Tryz.zeroValue71
  t51 := Tryz.underlying123
  a51 := Tryz.isAgg123
  z51 := Tryz.sizeOf123
  v51 := Tryz.zeroValue123
  t53 := Tryz.underlying106
  a53 := Tryz.isAgg106
  z53 := Tryz.sizeOf106
  v53 := Tryz.zeroValue106
  t75 := Tryz.underlying44
  a75 := Tryz.isAgg44
  z75 := Tryz.sizeOf44
  v75 := Tryz.zeroValue44
  t76 := Tryz.underlying45
  a76 := Tryz.isAgg45
  z76 := Tryz.sizeOf45
  v76 := Tryz.zeroValue45
  t85 := Tryz.underlying113
  a85 := Tryz.isAgg113
  z85 := Tryz.sizeOf113
  v85 := Tryz.zeroValue113
  t127 := Tryz.underlying59
  a127 := Tryz.isAgg59
  z127 := Tryz.sizeOf59
  v127 := Tryz.zeroValue59
  t143 := Tryz.underlying137
  a143 := Tryz.isAgg137
  z143 := Tryz.sizeOf137
  v143 := Tryz.zeroValue137
  t145 := Tryz.underlying139
  a145 := Tryz.isAgg139
  z145 := Tryz.sizeOf139
  v145 := Tryz.zeroValue139
  t167 := Tryz.underlying112
  a167 := Tryz.isAgg112
  z167 := Tryz.sizeOf112
  v167 := Tryz.zeroValue112
  t168 := Tryz.underlying115
  a168 := Tryz.isAgg115
  z168 := Tryz.sizeOf115
  v168 := Tryz.zeroValue115
  t171 := Tryz.underlying105
  a171 := Tryz.isAgg105
  z171 := Tryz.sizeOf105
  v171 := Tryz.zeroValue105
  t173 := Tryz.underlying109
  a173 := Tryz.isAgg109
  z173 := Tryz.sizeOf109
  v173 := Tryz.zeroValue109
  t175 := Tryz.underlying129
  a175 := Tryz.isAgg129
  z175 := Tryz.sizeOf129
  v175 := Tryz.zeroValue129
  t210 := Tryz.underlying132
  a210 := Tryz.isAgg132
  z210 := Tryz.sizeOf132
  v210 := Tryz.zeroValue132
  t212 := Tryz.underlying122
  a212 := Tryz.isAgg122
  z212 := Tryz.sizeOf122
  v212 := Tryz.zeroValue122
  t213 := Tryz.underlying124
  a213 := Tryz.isAgg124
  z213 := Tryz.sizeOf124
  t232 := Tryz.underlying141
  a232 := Tryz.isAgg141
  z232 := Tryz.sizeOf141
  v232 := Tryz.zeroValue141
  t233 := Tryz.underlying142
  a233 := Tryz.isAgg142
  z233 := Tryz.sizeOf142
  v233 := Tryz.zeroValue142
  g15 := by kernel_rfl
  g16 := by kernel_rfl
  g17 := by kernel_rfl
  g18 := by kernel_rfl
  g19 := by kernel_rfl }

/-- a text up to a byte, what is behind it, and whether the byte is there -/
def cutF (s : ByteArray) (c : UInt8) : ByteArray × ByteArray × Bool :=
  if Lib.indexByte s.data.toList c = -1 then (s, ⟨#[]⟩, false) else (s.extract 0 (Lib.indexByte s.data.toList c).toNat, s.extract ((Lib.indexByte s.data.toList c).toNat + 1) s.size, true)
theorem index_any (s : ByteArray) (c : UInt8) (w : World) (hs : s.size ≤ 140737488351232) :
    Calls Tryz.prog 58 #[.string s, .string ⟨#[c]⟩] w fun e w' => e = .returned (.int .i64 (Lib.indexByte s.data.toList c)) ∧ w = w' := by
  have hI := Any.stringslite_IndexByte ixbLays s (c.toNat : Nat) w
  have hc : ((c.toNat : Nat) : Int).toNat.toUInt8 = c := by simp
  rw [hc] at hI
  obtain ⟨i, hi⟩ : ∃ i, Lib.indexByte s.data.toList c = i := ⟨_, rfl⟩
  rw [hi] at hI ⊢
  have HI := Lib.hid hI
  have t1 : ((1 : Int) == 0) = false := rfl
  have hcl : (⟨#[c]⟩ : ByteArray).toList = [c] := by simp [ByteArray.toList_eq]
  have hg0 : (⟨#[c]⟩ : ByteArray)[0]'(show 0 < 1 by omega) = c := rfl
  have hI2 : Calls Tryz.prog 61 #[.string s, .int .u8 (c.toNat : Nat)] w fun e w' => e = .returned (.int .i64 i) ∧ w' = w := hI
  have HI2 := Lib.hid hI2
  clear hI hI2
  cases he : ([c] == s.toList)
  · clear hcl
    go_enter Tryz.func58, Tryz.ntmps58
    go_wp2_with fail
    refine HI2.out.mono ?_
    rintro e w1 ⟨rfl, rfl⟩
    go_wp2_with fail
    go_ret
    exact ⟨rfl, rfl⟩
  · have h0 : i = 0 := by
      have h := LawfulBEq.eq_of_beq he
      rw [ByteArray.toList_eq] at h
      rw [← hi, ← h]
      simp [Lib.indexByte]
    subst h0
    clear hcl hi
    go_enter Tryz.func58, Tryz.ntmps58
    go_wp2_with fail
    go_ret
    exact ⟨rfl, rfl⟩
/-- the heap lies as it lay -/
def Still (A B : World) : Prop := B.os = A.os ∧ B.tape = A.tape ∧ B.output = A.output ∧ B.heap = A.heap
theorem Still.refl (A : World) : Still A A := ⟨rfl, rfl, rfl, rfl⟩
theorem Still.trans {A B C : World} (h : Still A B) (k : Still B C) : Still A C := ⟨k.1.trans h.1, k.2.1.trans h.2.1, k.2.2.1.trans h.2.2.1, k.2.2.2.trans h.2.2.2⟩
theorem Still.below {B0 : Nat} {A B : World} (h : Still A B) : Below B0 A B := ⟨h.1, h.2.1, h.2.2.1, by rw [h.2.2.2]; exact Nat.le_refl _, fun k _ => by rw [h.2.2.2]⟩
theorem Still.drew (A : World) : Still A A.drew := ⟨rfl, rfl, rfl, rfl⟩
set_option maxHeartbeats 1000000 in
theorem slcut_any (s : ByteArray) (c : UInt8) (w : World) (hs : s.size ≤ 140737488351232) :
    Calls Tryz.prog 44 #[.string s, .string ⟨#[c]⟩] w fun e w' => e = .returned (.tuple #[.string (cutF s c).1, .string (cutF s c).2.1, .bool (cutF s c).2.2]) ∧ Still w w' := by
  have hI := Lib.hid (index_any s c w hs)
  obtain ⟨V, hV⟩ : ∃ V, cutF s c = V := ⟨_, rfl⟩
  rw [hV]
  unfold cutF at hV
  have hge := Lib.indexByte_ge s.data.toList c
  by_cases hn : Lib.indexByte s.data.toList c = -1
  · rw [if_pos hn] at hV
    rw [hn] at hI
    subst hV
    clear hn hge
    go_enter Tryz.func44, Tryz.ntmps44
    go_wp2_with fail
    refine hI.out.mono ?_
    rintro e w1 ⟨rfl, rfl⟩
    go_wp2_with (with_reducible refine end_at ?_)
    refine end_ret (v := .tuple #[.string s, .string ⟨#[]⟩, .bool false]) (by simp [results, Tryz.results44]) rfl ⟨rfl, Still.refl _⟩
  · obtain ⟨o, ho⟩ : ∃ o : Nat, Lib.indexByte s.data.toList c = o := ⟨(Lib.indexByte s.data.toList c).toNat, by omega⟩
    rw [if_neg hn, ho] at hV
    rw [ho] at hI
    have hlt : o < s.size := by
      have h := (Lib.indexByte_some ho).1
      have := (List.getElem?_eq_some_iff.1 h).1
      simpa using this
    simp only [Int.toNat_natCast] at hV
    subst hV
    have o0 : (0 : Int) ≤ (o : Int) := by omega
    have o1 : (o : Int) ≤ (s.size : Int) := by omega
    have o2 : (o : Int) + 1 ≤ (s.size : Int) := by omega
    have o3 : (0 : Int) ≤ (o : Int) + 1 := by omega
    have o4 : IntKind.i64.wrap ((o : Int) + 1) = (o : Int) + 1 := by simp only [IntKind.wrap, IntKind.bits, IntKind.signed]; simp; omega
    clear hn hge ho
    go_enter Tryz.func44, Tryz.ntmps44
    go_wp2_with fail
    refine hI.out.mono ?_
    rintro e w1 ⟨rfl, rfl⟩
    go_wp2_with fail
    go_region
    all_goals go_wp2_with (with_reducible refine end_at ?_)
    all_goals refine end_ret (v := .tuple #[.string (s.extract 0 o), .string (s.extract (o + 1) s.size), .bool true]) (by simp [results, Tryz.results44]) rfl ⟨rfl, Still.drew _⟩
theorem cut_any (s : ByteArray) (c : UInt8) (w : World) (hs : s.size ≤ 140737488351232) :
    Calls Tryz.prog 31 #[.string s, .string ⟨#[c]⟩] w fun e w' => e = .returned (.tuple #[.string (cutF s c).1, .string (cutF s c).2.1, .bool (cutF s c).2.2]) ∧ Still w w' := by
  have hI := Lib.hid (slcut_any s c w hs)
  obtain ⟨⟨a, b, d⟩, hV⟩ : ∃ V, cutF s c = V := ⟨_, rfl⟩
  rw [hV] at hI ⊢
  clear hV
  dsimp only at hI ⊢
  go_enter Tryz.func31, Tryz.ntmps31
  go_wp2_with fail
  refine hI.out.mono ?_
  rintro e w1 ⟨rfl, hb⟩
  go_wp2_with (with_reducible refine end_at ?_)
  refine end_ret (v := .tuple #[.string a, .string b, .bool d]) (by simp [results, Tryz.results31]) rfl ⟨rfl, hb⟩
end Go.Proofs.YtbgohcedakpnbaaGreatDoor
/- member: a number's text is read; plain facts of lines. -/
namespace Go.Proofs.YtbgohcedakpnbaaGreatDoor
open Go.RowKit Go.Shelf
theorem mdec_len (k : Nat) : ∀ n, n < 10 ^ (k + 1) → (Lib.decDigits n).length ≤ k + 1 := by
  induction k with
  | zero => intro n h; rw [dec_rec, if_pos (by omega)]; simp
  | succ k ih =>
    intro n h
    rw [dec_rec]
    split
    · simp
    · have := ih (n / 10) (by rw [Nat.pow_succ] at h; omega)
      rw [List.length_append]
      simp
      omega
theorem decFrom_app (l : List UInt8) : ∀ (acc m : Nat) (r : List UInt8), Lib.decFrom acc l = some m → Lib.decFrom acc (l ++ r) = Lib.decFrom m r := by
  induction l with
  | nil => intro acc m r h; simp [Lib.decFrom] at h; subst h; rfl
  | cons b l ih =>
    intro acc m r h
    rw [List.cons_append]
    cases hd : Lib.digitVal b with
    | none => simp only [Lib.decFrom, hd] at h; cases h
    | some d => simp only [Lib.decFrom, hd] at h ⊢; exact ih _ _ _ h
theorem decFrom_digit (acc d : Nat) (h : d < 10) : Lib.decFrom acc [UInt8.ofNat (48 + d)] = some (acc * 10 + d) := by
  have h1 : (UInt8.ofNat (48 + d)).toNat = 48 + d := by simp; omega
  have h2 : Lib.digitVal (UInt8.ofNat (48 + d)) = some d := by
    unfold Lib.digitVal
    rw [h1, if_pos (by omega)]
    congr 1
    omega
  simp only [Lib.decFrom, h2]
theorem decFrom_dec (n : Nat) : Lib.decFrom 0 (Lib.decDigits n) = some n := by
  induction n using Nat.strongRecOn with
  | _ n ih =>
    rw [dec_rec]
    split
    · rename_i h
      rw [decFrom_digit 0 n h]; simp
    · rename_i h
      rw [decFrom_app _ 0 (n / 10) _ (ih (n / 10) (by omega)), decFrom_digit _ _ (by omega)]
      congr 1
      omega
theorem dec_first (n : Nat) : ∃ b r, Lib.decDigits n = b :: r ∧ 48 ≤ b.toNat ∧ b.toNat ≤ 57 := by
  induction n using Nat.strongRecOn with
  | _ n ih =>
    rw [dec_rec]
    split
    · rename_i h
      exact ⟨_, _, rfl, by simp; omega, by simp; omega⟩
    · rename_i h
      obtain ⟨b, r, h1, h2, h3⟩ := ih (n / 10) (by omega)
      exact ⟨b, r ++ [UInt8.ofNat (48 + n % 10)], by rw [h1]; rfl, h2, h3⟩
theorem atoi_dec (n : Nat) : Lib.atoi (Lib.decDigits n) = some (n : Int) := by
  obtain ⟨b, r, h1, h2, h3⟩ := dec_first n
  have h4 := decFrom_dec n
  rw [h1] at h4 ⊢
  have n1 : (b == 45) = false := by
    rw [beq_eq_false_iff_ne]; rintro rfl; simp at h2
  have n2 : (b == 43) = false := by
    rw [beq_eq_false_iff_ne]; rintro rfl; simp at h2
  unfold Lib.atoi Lib.decNat
  simp only [n1, n2, Bool.false_eq_true, if_false, List.isEmpty_cons]
  rw [h4]
  rfl
theorem below_bytesWorld (w : World) (e : TypeId) (s : ByteArray) : Below w.heap.size w (Lib.bytesWorld w e s) := by
  exact Lib.below_freeze ((Below.drew (Below.refl _ w)).alloc (Nat.le_refl _) _) (p := ⟨w.heap.size, _, none⟩) (Nat.le_refl _) 1
theorem atoi_any (n : Nat) (w : World) (h : n ≤ 1000000) :
    Calls Tryz.prog 45 #[.string (digB n)] w fun e w' => e = .returned (.tuple #[.int .i64 n, .nilIface]) ∧ Below w.heap.size w w' := by
  have hl : (digB n).size ≤ 18 := by
    show (Lib.decDigits n).toArray.size ≤ 18
    rw [List.size_toArray]
    exact Nat.le_trans (mdec_len 6 n (by omega)) (by omega)
  have hA : Calls Tryz.prog 45 #[.string (digB n)] w fun e w' => e = .returned (.tuple #[.int .i64 n, .nilIface]) ∧ ∃ t, w' = Lib.bytesWorld w (atoiRen.t 5) t :=
    Any.strconv_Atoi atoiLays (digB n) (n : Int) hl (atoi_dec n) w
  refine hA.mono ?_
  rintro e w' ⟨rfl, t, rfl⟩
  exact ⟨rfl, below_bytesWorld _ _ _⟩
theorem must_true (w : World) : Calls Tryz.prog 18 #[.bool true] w fun e w' => e = .returned (.tuple #[]) ∧ w = w' := by
  go_enter Tryz.func18, Tryz.ntmps18
  go_wp2_with fail
  go_end0
  exact ⟨rfl, rfl⟩
set_option maxRecDepth 100000 in
theorem number_good (n : Nat) (w : World) (h : n ≤ 1000000) :
    Calls Tryz.prog 32 #[.string (digB n)] w fun e w' => e = .returned (.int .i64 n) ∧ Below w.heap.size w w' := by
  have HA := Lib.hid (atoi_any n w h)
  generalize digB n = D at *
  go_enter Tryz.func32, Tryz.ntmps32
  go_wp2_with fail
  refine HA.out.mono ?_
  rintro e w1 ⟨rfl, hb1⟩
  go_wp2_with fail
  refine (must_true _).mono ?_
  rintro e w2 ⟨rfl, rfl⟩
  go_wp2_with fail
  go_ret
  exact ⟨rfl, hb1⟩
/-- a text behind a front -/
def cutP (s p : ByteArray) : ByteArray × Bool := if (s.extract 0 p.size).toList = p.toList then (s.extract p.size s.size, true) else (s, false)
end Go.Proofs.YtbgohcedakpnbaaGreatDoor
