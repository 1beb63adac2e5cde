/-
  The plain law of AskBack: of every text of at most 4096 bytes the program's request and reply are the document's, and what is printed of them is the text. No program in sight: the printed functions alone.
-/
import Derived.Test.YtfibkajflenekaaDoorBytes
import Derived.Test.YtfibkajflenekaaDoorPAskx8
import Derived.Test.YtfibkajflenekaaDoorPAskx3
namespace Go.Proofs.YtfibkajflenekaaDoor.G
set_option linter.unusedVariables false
set_option linter.unusedSimpArgs false
open Go.RowKit Go.Proofs.YtfibkajflenekaaDoorW.PrintWords Go.Proofs.YtfibkajflenekaaDoorW.PrintLast Go.Proofs.YtfibkajflenekaaDoor.PAsk

theorem w64 {i : Int} (h0 : -9223372036854775808 ≤ i) (h : i ≤ 9223372036854775807) : wrap64 i = i := by unfold wrap64; omega

/-! ### names -/
def alnum (c : UInt8) : Bool := decide (97 ≤ c.toNat ∧ c.toNat ≤ 122 ∨ 48 ≤ c.toNat ∧ c.toNat ≤ 57)
def isName : List UInt8 → Bool
  | [] => false
  | c :: l => decide ((c :: l).length ≤ 12) && decide (97 ≤ c.toNat) && alnum c && l.all alnum
def letters : List UInt8 := [97, 98, 99, 100, 101, 102, 103, 104, 105, 106, 107, 108, 109, 110, 111, 112, 113, 114, 115, 116, 117, 118, 119, 120, 121, 122, 48, 49, 50, 51, 52, 53, 54, 55, 56, 57]
theorem letters_alnum : ∀ c : UInt8, letters.contains c = alnum c := by
  intro c
  have : ∀ n : Fin 256, letters.contains (UInt8.ofNat n.val) = alnum (UInt8.ofNat n.val) := by decide +kernel
  have h := this ⟨c.toNat, c.toNat_lt⟩
  simpa using h
theorem dropWhile_nil {p : UInt8 → Bool} : ∀ {l : List UInt8}, l.dropWhile p = [] ↔ l.all p = true
  | [] => by simp
  | c :: l => by
    simp only [List.dropWhile_cons, List.all_cons]
    cases h : p c with
    | true => simp [dropWhile_nil]
    | false => simp
theorem trim_nil (l cs : List UInt8) : Lib.trimS l cs = [] ↔ l.all (cs.contains ·) = true := by
  unfold Lib.trimS Lib.trimLeftS Lib.trimRightS
  rw [dropWhile_nil, List.all_reverse]
  constructor
  · intro h
    by_cases ha : l.all (cs.contains ·) = true
    · exact ha
    · -- the last one that is none stays
      exfalso
      have hne : l.reverse.dropWhile (cs.contains ·) ≠ [] := fun e => ha (by rw [dropWhile_nil, List.all_reverse] at e; exact e)
      have hh := List.head_dropWhile_not (cs.contains ·) hne
      have := List.all_eq_true.1 h _ (List.head_mem hne)
      rw [hh] at this; cases this
  · intro h
    rw [List.all_eq_true] at h ⊢
    intro x hx
    have : x ∈ l.reverse := (List.dropWhile_sublist _).subset hx
    exact h x (by simpa using this)

theorem irName (s : ByteArray) (hs : s.size ≤ 4096) : ir_Name.f s = some (isName (L s)) := by
  unfold ir_Name.f
  rw [toList_L]
  cases hl : L s with
  | nil => rw [if_pos rfl]; rfl
  | cons c l =>
    have hsz : s.size = l.length + 1 := by rw [size_L, hl]; rfl
    rw [if_neg (by simp)]
    by_cases h12 : l.length + 1 ≤ 12
    · rw [if_neg (by omega), if_pos (by omega)]
      obtain ⟨c', hc, hb⟩ := bt_L s 0 (by omega)
      rw [hl] at hc
      obtain rfl : c = c' := by simpa using hc
      rw [show bt s 0 = (c.toNat : Int) from hb]
      by_cases ha : 97 ≤ c.toNat
      · rw [if_neg (by omega)]
        have ht : strings_Trim.f s ⟨#[97, 98, 99, 100, 101, 102, 103, 104, 105, 106, 107, 108, 109, 110, 111, 112, 113, 114, 115, 116, 117, 118, 119, 120, 121, 122, 48, 49, 50, 51, 52, 53, 54, 55, 56, 57]⟩ = some (B (Lib.trimS (L s) letters)) := by
          unfold strings_Trim.f
          rw [if_pos ⟨by omega, by decide, by decide⟩]; rfl
        rw [ht, Option.bind_some, toList_L, L_B]
        congr 1
        have hiff := trim_nil (L s) letters
        rw [Bool.eq_iff_iff, beq_iff_eq, hiff, hl]
        simp only [isName, List.all_cons, Bool.and_eq_true, decide_eq_true_eq, List.length_cons, h12, ha, true_and]
        simp only [letters_alnum]
      · rw [if_pos (by omega)]
        simp [isName, ha]
    · rw [if_pos (by omega)]
      simp [isName, h12]

theorem refName_from (s : ByteArray) (hs : s.size ≤ 4096) : ∀ (d i : Nat), i + d = s.size → 1 ≤ i → Ev (fun k => cubbyref07_Name.l0 k s i) (((L s).drop i).all alnum)
  | 0, i, hd, hi => by
    refine Ev.step (f := fun _ => some true) (fun k => ?_) ?_
    · simp only [cubbyref07_Name.l0]; rw [if_neg (by omega)]
    · rw [List.drop_eq_nil_of_le (by rw [← size_L]; omega)]
      exact Ev.now _
  | d + 1, i, hd, hi => by
    obtain ⟨c, hc, hb⟩ := bt_L s i (by omega)
    obtain ⟨hlt, hcv⟩ := List.getElem?_eq_some_iff.1 hc
    have ih := refName_from s hs d (i + 1) (by omega) (by omega)
    rw [List.drop_eq_getElem_cons hlt, List.all_cons, hcv]
    have hw : wrap64 ((i : Int) + 1) = ((i + 1 : Nat) : Int) := by rw [w64 (by omega) (by omega)]; omega
    cases ha : alnum c with
    | true =>
      simp only [Bool.true_and]
      refine Ev.step (fun k => ?_) ih
      simp only [cubbyref07_Name.l0]
      rw [if_pos (by omega), if_pos (by omega), hb, hw]
      have ha := of_decide_eq_true ha
      repeat' split
      all_goals first | rfl | omega
    | false =>
      simp only [Bool.false_and]
      refine Ev.step (f := fun _ => some false) (fun k => ?_) (Ev.now _)
      simp only [cubbyref07_Name.l0]
      rw [if_pos (by omega), if_pos (by omega), hb, hw]
      have ha := of_decide_eq_false ha
      repeat' split
      all_goals first | rfl | omega
theorem refName (s : ByteArray) (hs : s.size ≤ 4096) : Ev (fun k => cubbyref07_Name.f k s) (isName (L s)) := by
  unfold cubbyref07_Name.f
  cases hl : L s with
  | nil =>
    have hsz : s.size = 0 := by rw [size_L, hl]; rfl
    refine Ev.congr (f := fun k => cubbyref07_Name.j0 k s true) (fun k => by rw [if_pos (by omega)]) ?_
    exact Ev.step (f := fun _ => some false) (fun k => by simp [cubbyref07_Name.j0]) (Ev.now _)
  | cons c l =>
    have hsz : s.size = l.length + 1 := by rw [size_L, hl]; rfl
    refine Ev.congr (f := fun k => cubbyref07_Name.j0 k s (decide ((s.size : Int) > 12))) (fun k => by rw [if_neg (by omega)]) ?_
    by_cases h12 : l.length + 1 ≤ 12
    · refine Ev.step (f := fun k => cubbyref07_Name.l0 k s 0) (fun k => by simp only [cubbyref07_Name.j0]; rw [if_neg (by simp; omega)]) ?_
      obtain ⟨c', hc, hb⟩ := bt_L s 0 (by omega)
      rw [hl] at hc
      obtain rfl : c = c' := by simpa using hc
      have hw : wrap64 ((0 : Int) + 1) = ((1 : Nat) : Int) := by rw [w64 (by omega) (by omega)]; rfl
      have hb : bt s 0 = (c.toNat : Int) := hb
      by_cases ha : 97 ≤ c.toNat ∧ alnum c = true
      · have ih := refName_from s hs l.length 1 (by omega) (by omega)
        have hv : isName (c :: l) = ((L s).drop 1).all alnum := by
          rw [hl]; simp [isName, h12, ha.1, ha.2]
        rw [hv]
        refine Ev.step (fun k => ?_) ih
        simp only [cubbyref07_Name.l0]
        rw [if_pos (by omega), if_pos (by omega), hb, hw]
        have hq := of_decide_eq_true ha.2
        repeat' split
        all_goals first | rfl | omega
      · have hv : isName (c :: l) = false := by
          simp only [isName]
          by_cases h1 : 97 ≤ c.toNat
          · simp only [h1, true_and] at ha
            simp [ha]
          · simp [h1]
        rw [hv]
        refine Ev.step (f := fun _ => some false) (fun k => ?_) (Ev.now _)
        simp only [cubbyref07_Name.l0]
        rw [if_pos (by omega), if_pos (by omega), hb, hw]
        have hq : ¬ (97 ≤ c.toNat ∧ c.toNat ≤ 122) := fun h => ha ⟨h.1, by unfold alnum; exact decide_eq_true (.inl h)⟩
        repeat' split
        all_goals first | rfl | omega | (exfalso; simp_all; done)
    · refine Ev.step (f := fun _ => some false) (fun k => by simp only [cubbyref07_Name.j0]; rw [if_pos (by simp; omega)]) ?_
      have : isName (c :: l) = false := by simp [isName, h12]
      rw [this]; exact Ev.now _

/-! ### digits -/
def tens : ByteArray := ⟨#[48, 49, 50, 51, 52, 53, 54, 55, 56, 57]⟩
theorem dig1 (d : Nat) (h : d < 10) : tens.extract d (d + 1) = B [UInt8.ofNat (48 + d)] := by
  have : ∀ d : Fin 10, L (tens.extract d.val (d.val + 1)) = [UInt8.ofNat (48 + d.val)] := by decide
  exact ext_L (by rw [this ⟨d, h⟩])
theorem digits_from (n : Nat) : n < 10 ^ 17 → ∀ s : ByteArray, s.size + (Lib.decDigits n).length ≤ 2000 → Ev (fun k => cubbyref08_Digits.l0 k n s) (B (Lib.decDigits n ++ L s)) := by
  induction n using Nat.strongRecOn with
  | _ n ih =>
    intro hn s hs
    by_cases h : n < 10
    · refine Ev.step (f := fun _ => some (B (Lib.decDigits n ++ L s))) (fun k => ?_) (Ev.now _)
      simp only [cubbyref08_Digits.l0]
      have hw : wrap64 ((n : Int) + 1) = ((n + 1 : Nat) : Int) := by rw [w64 (by omega) (by omega)]; omega
      have hd := dig1 n h
      rw [if_neg (by omega), if_pos (by omega), hw, if_pos (by omega), if_pos (by omega)]
      have e : (⟨#[48, 49, 50, 51, 52, 53, 54, 55, 56, 57]⟩ : ByteArray).extract ((n : Int)).toNat (((n + 1 : Nat) : Int)).toNat = B [UInt8.ofNat (48 + n)] := hd
      rw [e, if_pos (by have : (B [UInt8.ofNat (48 + n)]).size = 1 := rfl; omega)]
      congr 1
      refine ext_L ?_
      rw [L_append, dec_small h, L_B, L_B]
    · have hd := dig1 (n % 10) (by omega)
      have htm : Int.tmod (n : Int) 10 = ((n % 10 : Nat) : Int) := by rw [Int.tmod_eq_emod_of_nonneg (by omega)]; omega
      have htd : wrap64 (Int.tdiv (n : Int) 10) = ((n / 10 : Nat) : Int) := by rw [Int.tdiv_eq_ediv_of_nonneg (by omega), w64 (by omega) (by omega)]; omega
      have hw : wrap64 (((n % 10 : Nat) : Int) + 1) = ((n % 10 + 1 : Nat) : Int) := by rw [w64 (by omega) (by omega)]; omega
      have e : (⟨#[48, 49, 50, 51, 52, 53, 54, 55, 56, 57]⟩ : ByteArray).extract (((n % 10 : Nat) : Int)).toNat (((n % 10 + 1 : Nat) : Int)).toNat = B [UInt8.ofNat (48 + n % 10)] := hd
      have hsz : (B [UInt8.ofNat (48 + n % 10)]).size = 1 := rfl
      have := ih (n / 10) (by omega) (by omega) (B [UInt8.ofNat (48 + n % 10)] ++ s)
      have := this (by rw [ByteArray.size_append]; rw [dec_big h] at hs; simp at hs; omega)
      have hv : B (Lib.decDigits n ++ L s) = B (Lib.decDigits (n / 10) ++ L (B [UInt8.ofNat (48 + n % 10)] ++ s)) := by
        refine ext_L ?_
        rw [L_B, L_B, L_append, L_B, dec_big h, List.append_assoc]
      rw [hv]
      refine Ev.step (fun k => ?_) this
      simp only [cubbyref08_Digits.l0]
      rw [if_pos (by omega), htm, if_pos (by omega), hw, if_pos (by omega), if_pos (by omega), e, if_pos (by omega), htd]
/-- A number that may be told. -/
def okN (n : Int) : Bool := decide (0 ≤ n ∧ n < 2147483648)
def dg (n : Int) : List UInt8 := Lib.decDigits n.toNat
theorem dg_len {n : Int} (h : okN n = true) : (dg n).length ≤ 10 := by
  have h := of_decide_eq_true h
  exact dec_len 9 _ (by omega)
theorem digits_ev {n : Int} (h : okN n = true) : Ev (fun k => cubbyref08_Digits.f k n) (B (dg n)) := by
  have hl := dg_len h
  have h := of_decide_eq_true h
  obtain ⟨m, rfl⟩ := Int.eq_ofNat_of_zero_le h.1
  have := digits_from m (by omega) ⟨#[]⟩ (by simp only [dg, Int.toNat_natCast] at hl; have : (⟨#[]⟩ : ByteArray).size = 0 := rfl; omega)
  have e : B (Lib.decDigits m ++ L ⟨#[]⟩) = B (dg (m : Int)) := by simp [dg]
  rw [e] at this
  exact this
theorem itoa_ev {n : Int} (h : okN n = true) : strconv_Itoa.f n = some (B (dg n)) := by
  have h := of_decide_eq_true h
  unfold strconv_Itoa.f
  rw [if_pos ⟨by omega, by omega⟩]
  unfold Lib.itoa dg
  rw [if_neg (by omega)]
theorem number_ev (n : Int) : cubbyref21_number.f n = some (okN n) := by
  unfold cubbyref21_number.f okN
  split
  · congr 1; simp; omega
  · congr 1; simp; omega

/-! ### replies as texts -/
def lCode : List UInt8 := [99, 111, 100, 101, 10]
def lMiss : List UInt8 := [109, 105, 115, 115]
def tellL (k a b c : Int) (t : List UInt8) : Option (List UInt8) :=
  if k = 1 then if okN a then some ([111, 107] ++ 32 :: dg a) else none
  else if k = 2 then some (lCode ++ t)
  else if k = 3 then some lMiss
  else if k = 4 then if okN a && okN b then some ([101, 114, 114, 111, 114] ++ 32 :: (dg a ++ 32 :: dg b)) else none
  else if k = 5 then if okN a && okN b && okN c then some ([115, 116, 97, 116, 115] ++ 32 :: (dg a ++ 32 :: (dg b ++ 32 :: dg c))) else none
  else none
def telling : Option (List UInt8) → ByteArray × Int
  | some l => (B l, 0)
  | none => (⟨#[]⟩, 210)

theorem tell_j2 (b : Bool) (k a c d : Int) (t : ByteArray) (hb : b = true → okN a = true ∧ okN c = true ∧ okN d = true) :
    Ev (fun n => cubbyref21_Tell.j2 n b k a c d t) (telling (if b = true then some ([115, 116, 97, 116, 115] ++ 32 :: (dg a ++ 32 :: (dg c ++ 32 :: dg d))) else none)) := by
  cases b with
  | false => exact Ev.step (f := fun _ => some (⟨#[]⟩, 210)) (fun n => by simp [cubbyref21_Tell.j2]) (Ev.now _)
  | true =>
    obtain ⟨ha, hc, hd⟩ := hb rfl
    have la := dg_len ha
    have lc := dg_len hc
    have ld := dg_len hd
    have sa : (B (dg a)).size = (dg a).length := by rw [size_L]
    have sc : (B (dg c)).size = (dg c).length := by rw [size_L]
    have sd : (B (dg d)).size = (dg d).length := by rw [size_L]
    refine Ev.step (fun n => by simp only [cubbyref21_Tell.j2]; rw [if_pos trivial]) ?_
    refine Ev.bind (digits_ev ha) ?_
    have z6 : (⟨#[115, 116, 97, 116, 115, 32]⟩ : ByteArray).size = 6 := rfl
    have z1 : (⟨#[32]⟩ : ByteArray).size = 1 := rfl
    refine Ev.congr (fun n => by rw [if_pos (by omega), if_pos (by rw [ByteArray.size_append]; omega)]) ?_
    refine Ev.bind (digits_ev hc) ?_
    refine Ev.congr (fun n => by rw [if_pos (by simp only [ByteArray.size_append]; omega), if_pos (by simp only [ByteArray.size_append]; omega)]) ?_
    refine Ev.bind (digits_ev hd) ?_
    refine Ev.congr (f := fun _ => some (telling (some ([115, 116, 97, 116, 115] ++ 32 :: (dg a ++ 32 :: (dg c ++ 32 :: dg d)))))) (fun n => ?_) (by simpa using Ev.now _)
    rw [if_pos (by simp only [ByteArray.size_append]; omega)]
    simp only [telling]
    congr 2
    refine ext_L ?_
    simp only [L_append, L_B]
    simp
theorem sizeB (n : Int) : (B (dg n)).size = (dg n).length := by rw [size_L]
theorem tell_j1 (x : Bool) (k a b c : Int) (t : ByteArray) (hx : x = true → k = 4 ∧ okN a = true ∧ okN b = true) (hk : k ≠ 1 ∧ k ≠ 2 ∧ k ≠ 3) (hx4 : k = 4 → x = (okN a && okN b)) :
    Ev (fun n => cubbyref21_Tell.j1 n (okN a) (okN b) (okN c) x k a b c t) (telling (tellL k a b c (L t))) := by
  cases x with
  | true =>
    obtain ⟨rfl, ha, hb⟩ := hx rfl
    have la := dg_len ha
    have lb := dg_len hb
    have sa := sizeB a
    have sb := sizeB b
    have z6 : (⟨#[101, 114, 114, 111, 114, 32]⟩ : ByteArray).size = 6 := rfl
    have z1 : (⟨#[32]⟩ : ByteArray).size = 1 := rfl
    have hv : tellL 4 a b c (L t) = some ([101, 114, 114, 111, 114] ++ 32 :: (dg a ++ 32 :: dg b)) := by simp [tellL, ha, hb]
    rw [hv]
    refine Ev.step (fun n => by simp only [cubbyref21_Tell.j1]; rw [if_pos trivial]) ?_
    refine Ev.bind (digits_ev ha) ?_
    refine Ev.congr (fun n => by rw [if_pos (by omega), if_pos (by rw [ByteArray.size_append]; omega)]) ?_
    refine Ev.bind (digits_ev hb) ?_
    refine Ev.congr (f := fun _ => some (telling (some ([101, 114, 114, 111, 114] ++ 32 :: (dg a ++ 32 :: dg b))))) (fun n => ?_) (Ev.now _)
    rw [if_pos (by simp only [ByteArray.size_append]; omega)]
    simp only [telling]
    congr 2
    refine ext_L ?_
    simp only [L_append, L_B]
    simp
  | false =>
    by_cases h5 : k = 5
    · subst h5
      have hj := tell_j2 (okN a && okN b && okN c) 5 a b c t (by simp; intro h1 h2 h3; exact ⟨h1, h2, h3⟩)
      have hv : tellL 5 a b c (L t) = (if (okN a && okN b && okN c) = true then some ([115, 116, 97, 116, 115] ++ 32 :: (dg a ++ 32 :: (dg b ++ 32 :: dg c))) else none) := by simp [tellL]
      rw [hv]
      refine Ev.step (fun n => ?_) hj
      simp only [cubbyref21_Tell.j1]
      rw [if_neg (by simp), if_pos trivial]
      cases okN a <;> cases okN b <;> simp
    · have hj := tell_j2 false k a b c t (by simp)
      have hv : tellL k a b c (L t) = none := by
        unfold tellL
        rw [if_neg hk.1, if_neg hk.2.1, if_neg hk.2.2, if_neg h5]
        by_cases h4 : k = 4
        · rw [if_pos h4, if_neg (by rw [← hx4 h4]; simp)]
        · rw [if_neg h4]
      rw [hv]
      refine Ev.step (fun n => ?_) (by simpa using hj)
      simp only [cubbyref21_Tell.j1]
      rw [if_neg (by simp), if_neg h5]
theorem tell_ref (k a b c : Int) (t : ByteArray) (ht : t.size ≤ 5000) : Ev (fun n => cubbyref21_Tell.f n k a b c t) (telling (tellL k a b c (L t))) := by
  unfold cubbyref21_Tell.f
  refine Ev.congr (f := fun n => if k = 1 then cubbyref21_Tell.j0 n (okN a) (okN b) (okN c) (okN a) k a b c t else cubbyref21_Tell.j0 n (okN a) (okN b) (okN c) false k a b c t) (fun n => by rw [number_ev, number_ev, number_ev]; rfl) ?_
  have z3 : (⟨#[111, 107, 32]⟩ : ByteArray).size = 3 := rfl
  have j0n : (k = 1 → okN a = false) → Ev (fun n => cubbyref21_Tell.j0 n (okN a) (okN b) (okN c) false k a b c t) (telling (tellL k a b c (L t))) := by
    intro h1
    by_cases h2 : k = 2
    · subst h2
      refine Ev.step (f := fun _ => some (telling (tellL 2 a b c (L t)))) (fun n => ?_) (Ev.now _)
      simp only [cubbyref21_Tell.j0]
      rw [if_neg (by simp), if_pos trivial, if_pos (by omega)]
      simp only [tellL, telling]
      congr 2
    · by_cases h3 : k = 3
      · subst h3
        refine Ev.step (f := fun _ => some (telling (tellL 3 a b c (L t)))) (fun n => ?_) (Ev.now _)
        simp only [cubbyref21_Tell.j0]
        rw [if_neg (by simp), if_neg (by omega), if_pos trivial]
        rfl
      · by_cases hk1 : k = 1
        · subst hk1
          have hv : tellL 1 a b c (L t) = none := by simp [tellL, h1 rfl]
          rw [hv]
          refine Ev.step (fun n => by simp only [cubbyref21_Tell.j0]; rw [if_neg (by simp), if_neg (by omega), if_neg (by omega), if_neg (by omega)]) ?_
          refine Ev.step (fun n => by simp only [cubbyref21_Tell.j1]; rw [if_neg (by simp), if_neg (by omega)]) ?_
          have := tell_j2 false 1 a b c t (by simp)
          simpa using this
        · by_cases h4 : k = 4
          · have hj := tell_j1 (okN a && okN b) k a b c t (by simp; intro ha hb; exact ⟨h4, ha, hb⟩) ⟨hk1, h2, h3⟩ (fun _ => rfl)
            refine Ev.step (fun n => ?_) hj
            simp only [cubbyref21_Tell.j0]
            rw [if_neg (by simp), if_neg h2, if_neg h3, if_pos h4]
            cases okN a <;> simp
          · have hj := tell_j1 false k a b c t (by simp) ⟨hk1, h2, h3⟩ (fun h => absurd h h4)
            refine Ev.step (fun n => ?_) hj
            simp only [cubbyref21_Tell.j0]
            rw [if_neg (by simp), if_neg h2, if_neg h3, if_neg h4]
  by_cases hk : k = 1
  · subst hk
    cases ha : okN a with
    | true =>
      have la := dg_len ha
      have sa := sizeB a
      refine Ev.congr (fun n => by rw [if_pos rfl]) ?_
      refine Ev.step (fun n => by simp only [cubbyref21_Tell.j0]; rw [if_pos trivial]) ?_
      refine Ev.bind (digits_ev ha) ?_
      refine Ev.congr (f := fun _ => some (telling (tellL 1 a b c (L t)))) (fun n => ?_) (Ev.now _)
      rw [if_pos (by omega)]
      simp only [tellL, ha, telling]
      first | rfl | (congr 2; first | done | (refine ext_L ?_; simp only [L_append, L_B]; rfl))
    | false =>
      rw [ha] at j0n
      exact Ev.congr (fun n => by rw [if_pos rfl]) (j0n (fun _ => rfl))
  · exact Ev.congr (fun n => by rw [if_neg hk]) (j0n (fun h => absurd h hk))

/-! ### the program's replies as texts -/
def lineL : List UInt8 → List Int → Option (List UInt8)
  | w, [] => some w
  | w, n :: l => if okN n then lineL (w ++ 32 :: dg n) l else none
theorem line_from (l : List Int) : ∀ (d i : Nat) (w : ByteArray), i + d = l.length → l.length ≤ 5 → w.size ≤ 100 + 11 * i → Ev (fun k => ask_line.l0 k w l (l.length : Int) i) (telling (lineL (L w) (l.drop i)))
  | 0, i, w, hd, hl, hw => by
    rw [List.drop_eq_nil_of_le (by omega)]
    exact Ev.step (f := fun _ => some (w, 0)) (fun k => by simp only [ask_line.l0]; rw [if_neg (by omega)]) (Ev.now _)
  | d + 1, i, w, hd, hl, hw => by
    have hlt : i < l.length := by omega
    rw [List.drop_eq_getElem_cons hlt]
    have hr : rd l (i : Int) = l[i] := by simp [rd, hlt]
    have hwr : wrap64 ((i : Int) + 1) = ((i + 1 : Nat) : Int) := by rw [w64 (by omega) (by omega)]; omega
    simp only [lineL]
    cases ho : okN l[i] with
    | false =>
      have h := of_decide_eq_false ho
      refine Ev.step (f := fun _ => some (⟨#[]⟩, 210)) (fun k => ?_) (Ev.now _)
      simp only [ask_line.l0]
      rw [if_pos (by omega), if_pos (by omega), if_pos (by omega), hr]
      split
      · rfl
      · rw [if_pos (by omega)]
    | true =>
      have h := of_decide_eq_true ho
      have la := dg_len ho
      have sa := sizeB l[i]
      have z1 : (⟨#[32]⟩ : ByteArray).size = 1 := rfl
      have ih := line_from l d (i + 1) (w ++ (⟨#[32]⟩ ++ B (dg l[i]))) (by omega) hl (by simp only [ByteArray.size_append]; omega)
      have e : L (w ++ (⟨#[32]⟩ ++ B (dg l[i]))) = L w ++ 32 :: dg l[i] := by simp only [L_append, L_B]; rfl
      rw [e] at ih
      rw [if_pos rfl]
      refine Ev.step (fun k => ?_) ih
      simp only [ask_line.l0]
      rw [if_pos (by omega), if_pos (by omega), if_pos (by omega), hr, if_neg (by omega), if_neg (by omega), itoa_ev ho]
      simp only [Option.bind_some]
      rw [if_pos (by omega), if_pos (by simp only [ByteArray.size_append]; omega), hwr]
theorem line_ev (w : ByteArray) (l : List Int) (hw : w.size ≤ 100) (hl : l.length ≤ 5) : Ev (fun k => ask_line.f k w l) (telling (lineL (L w) l)) := by
  have := line_from l l.length 0 w (by omega) hl (by omega)
  exact this
theorem pair_eta (q : ByteArray × Int) : (fun bt : ByteArray × Int => (some (bt.1, bt.2) : Option (ByteArray × Int))) q = some q := rfl
theorem tell_ask (k a b c : Int) (t : ByteArray) (ht : t.size ≤ 5000) : Ev (fun n => ask_Tell.f n k a b c t) (telling (tellL k a b c (L t))) := by
  unfold ask_Tell.f
  by_cases h1 : k = 1
  · subst h1
    refine Ev.congr (fun n => by rw [if_pos rfl]) ?_
    refine Ev.bind (line_ev ⟨#[111, 107]⟩ [a] (by decide) (by simp)) (Ev.congr (fun _ => rfl) ?_)
    have : lineL (L ⟨#[111, 107]⟩) [a] = tellL 1 a b c (L t) := by
      simp only [lineL, tellL]
      cases okN a <;> rfl
    rw [this]; exact Ev.now _
  · by_cases h2 : k = 2
    · subst h2
      have z5 : (⟨#[99, 111, 100, 101, 10]⟩ : ByteArray).size = 5 := rfl
      refine Ev.congr (f := fun _ => some (telling (tellL 2 a b c (L t)))) (fun n => ?_) (Ev.now _)
      rw [if_neg (by omega), if_pos rfl, if_pos (by omega)]
      simp only [tellL, telling]
      congr 2
    · by_cases h3 : k = 3
      · subst h3
        refine Ev.congr (fun n => by rw [if_neg (by omega), if_neg (by omega), if_pos rfl]) ?_
        refine Ev.bind (line_ev ⟨#[109, 105, 115, 115]⟩ [] (by decide) (by simp)) (Ev.congr (fun _ => rfl) ?_)
        exact Ev.now _
      · by_cases h4 : k = 4
        · subst h4
          refine Ev.congr (fun n => by rw [if_neg (by omega), if_neg (by omega), if_neg (by omega), if_pos rfl]) ?_
          refine Ev.bind (line_ev ⟨#[101, 114, 114, 111, 114]⟩ [a, b] (by decide) (by simp)) (Ev.congr (fun _ => rfl) ?_)
          have : lineL (L ⟨#[101, 114, 114, 111, 114]⟩) [a, b] = tellL 4 a b c (L t) := by
            simp only [lineL, tellL]
            cases okN a <;> cases okN b <;> first | rfl | (simp; rfl)
          rw [this]; exact Ev.now _
        · by_cases h5 : k = 5
          · subst h5
            refine Ev.congr (fun n => by rw [if_neg (by omega), if_neg (by omega), if_neg (by omega), if_neg (by omega), if_pos rfl]) ?_
            refine Ev.bind (line_ev ⟨#[115, 116, 97, 116, 115]⟩ [a, b, c] (by decide) (by simp)) (Ev.congr (fun _ => rfl) ?_)
            have : lineL (L ⟨#[115, 116, 97, 116, 115]⟩) [a, b, c] = tellL 5 a b c (L t) := by
              simp only [lineL, tellL]
              cases okN a <;> cases okN b <;> cases okN c <;> first | rfl | (simp; rfl)
            rw [this]; exact Ev.now _
          · have hv : tellL k a b c (L t) = none := by simp [tellL, h1, h2, h3, h4, h5]
            rw [hv]
            refine Ev.congr (f := fun _ => some (⟨#[]⟩, 210)) (fun n => by rw [if_neg h1, if_neg h2, if_neg h3, if_neg h4, if_neg h5]) (Ev.now _)

/-! ### requests as texts -/
def wordL (k : Int) : List UInt8 :=
  if k = 1 then [115, 117, 98, 109, 105, 116] else if k = 2 then [98, 117, 105, 108, 100] else if k = 3 then [102, 101, 116, 99, 104] else if k = 4 then [100, 114, 111, 112]
  else if k = 5 then [112, 105, 110] else if k = 6 then [117, 110, 112, 105, 110] else if k = 7 then [101, 118, 105, 99, 116] else if k = 8 then [114, 101, 99, 104, 101, 99, 107]
  else if k = 9 then [115, 116, 97, 116, 115] else []
theorem word_ask (k : Int) : ask_word.f k = some (B (wordL k)) := by
  unfold ask_word.f wordL
  repeat' split
  all_goals rfl
theorem word_cases (k : Int) : (wordL k = [] ∧ (k < 1 ∨ 9 < k)) ∨ (1 ≤ k ∧ k ≤ 9 ∧ wordL k ≠ [] ∧ 32 ∉ wordL k ∧ (wordL k).length ≤ 7) := by
  by_cases h : 1 ≤ k ∧ k ≤ 9
  · right
    refine ⟨h.1, h.2, ?_⟩
    have : k = 1 ∨ k = 2 ∨ k = 3 ∨ k = 4 ∨ k = 5 ∨ k = 6 ∨ k = 7 ∨ k = 8 ∨ k = 9 := by omega
    rcases this with rfl | rfl | rfl | rfl | rfl | rfl | rfl | rfl | rfl <;> decide
  · left
    refine ⟨?_, by omega⟩
    unfold wordL
    repeat' (rw [if_neg (by omega)])
theorem word_ref (k : Int) : cubbyref21_word.f k = some (B (wordL k)) := by
  unfold cubbyref21_word.f
  simp only [Option.bind_some, List.length_cons, List.length_nil]
  rcases word_cases k with ⟨h0, h⟩ | ⟨h1, h9, _⟩
  · rw [h0]
    rcases h with h | h
    · by_cases h00 : k < 0
      · rw [if_pos h00]
      · obtain rfl : k = 0 := by omega
        rfl
    · rw [if_neg (by omega), if_pos (by omega)]
  · have : k = 1 ∨ k = 2 ∨ k = 3 ∨ k = 4 ∨ k = 5 ∨ k = 6 ∨ k = 7 ∨ k = 8 ∨ k = 9 := by omega
    rcases this with rfl | rfl | rfl | rfl | rfl | rfl | rfl | rfl | rfl <;> rfl
def printL (k : Int) (name t : List UInt8) : Option (List UInt8) :=
  if wordL k = [] then none else if k = 1 then some (wordL k ++ 10 :: t) else if k ≤ 6 then if isName name then some (wordL k ++ 32 :: name) else none else some (wordL k)
theorem sizeBL (l : List UInt8) : (B l).size = l.length := by rw [size_L]
theorem print_ask (k : Int) (name t : ByteArray) (hn : name.size ≤ 4096) (ht : t.size ≤ 4096) : Ev (fun n => ask_Print.f n k name t) (telling (printL k (L name) (L t))) := by
  unfold ask_Print.f
  have hw := word_cases k
  have hl : (B (wordL k)).size ≤ 7 := by rw [sizeBL]; rcases hw with ⟨h, _⟩ | ⟨_, _, _, _, h⟩ <;> simp [h]
  have z1 : (⟨#[10]⟩ : ByteArray).size = 1 := rfl
  have z2 : (⟨#[32]⟩ : ByteArray).size = 1 := rfl
  by_cases h0 : wordL k = []
  · refine Ev.congr (f := fun n => ask_Print.j0 n (B (wordL k)) true k name t) (fun n => by rw [word_ask, Option.bind_some, toList_L, L_B, if_pos h0]) ?_
    refine Ev.step (f := fun _ => some (⟨#[]⟩, 210)) (fun n => by simp [ask_Print.j0]) ?_
    rw [show printL k (L name) (L t) = none by simp [printL, h0]]
    exact Ev.now _
  · have hk : 1 ≤ k ∧ k ≤ 9 := by rcases hw with ⟨h, _⟩ | ⟨h1, h9, _⟩; exact absurd h h0; exact ⟨h1, h9⟩
    by_cases h1 : k = 1
    · subst h1
      refine Ev.congr (f := fun n => ask_Print.j0 n (B (wordL 1)) false 1 name t) (fun n => by rw [word_ask, Option.bind_some, toList_L, L_B, if_neg h0, if_neg (by omega)]) ?_
      refine Ev.step (f := fun _ => some (telling (printL 1 (L name) (L t)))) (fun n => ?_) (Ev.now _)
      simp only [ask_Print.j0]
      rw [if_neg (by simp), if_pos trivial, if_pos (by omega), if_pos (by rw [ByteArray.size_append]; omega)]
      simp only [printL, if_neg h0, telling]
      rw [if_pos trivial]
      simp only [telling]
      first | rfl | (congr 2; done) | (congr 2; refine ext_L ?_; simp only [L_append, L_B]; simp)
    · by_cases h6 : k ≤ 6
      · have hv : printL k (L name) (L t) = if isName (L name) then some (wordL k ++ 32 :: L name) else none := by simp [printL, h0, h1, h6]
        rw [hv]
        refine Ev.congr (f := fun n => ask_Print.j0 n (B (wordL k)) (!isName (L name)) k name t) (fun n => by rw [word_ask, Option.bind_some, toList_L, L_B, if_neg h0, if_pos (by omega), if_pos (by omega), irName name hn]; rfl) ?_
        refine Ev.step (f := fun _ => some (telling (if isName (L name) then some (wordL k ++ 32 :: L name) else none))) (fun n => ?_) (Ev.now _)
        simp only [ask_Print.j0]
        cases isName (L name) with
        | false => rfl
        | true =>
          simp only [Bool.not_true, Bool.false_eq_true, if_false, if_true]
          rw [if_neg h1, if_pos (by omega), if_pos (by omega), if_pos (by rw [ByteArray.size_append]; omega)]
          simp only [telling]
          congr 2
          refine ext_L ?_
          simp only [L_append, L_B]; simp
      · have hv : printL k (L name) (L t) = some (wordL k) := by simp [printL, h0, h1, h6]
        rw [hv]
        refine Ev.congr (f := fun n => ask_Print.j0 n (B (wordL k)) false k name t) (fun n => by rw [word_ask, Option.bind_some, toList_L, L_B, if_neg h0, if_pos (by omega), if_neg (by omega)]) ?_
        refine Ev.step (f := fun _ => some (telling (some (wordL k)))) (fun n => ?_) (Ev.now _)
        simp only [ask_Print.j0]
        rw [if_neg (by simp), if_neg h1, if_neg (by omega)]
        rfl
theorem print_ref (k : Int) (name t : ByteArray) (hn : name.size ≤ 4096) (ht : t.size ≤ 4096) : Ev (fun n => cubbyref21_Print.f n k name t) (telling (printL k (L name) (L t))) := by
  unfold cubbyref21_Print.f
  have hw := word_cases k
  have hl : (B (wordL k)).size ≤ 7 := by rw [sizeBL]; rcases hw with ⟨h, _⟩ | ⟨_, _, _, _, h⟩ <;> simp [h]
  have z1 : (⟨#[10]⟩ : ByteArray).size = 1 := rfl
  have z2 : (⟨#[32]⟩ : ByteArray).size = 1 := rfl
  by_cases h0 : wordL k = []
  · refine Ev.congr (f := fun n => some (⟨#[]⟩, 210)) (fun n => by rw [word_ref, Option.bind_some, toList_L, L_B, if_pos h0]) ?_
    rw [show printL k (L name) (L t) = none by simp [printL, h0]]
    exact Ev.now _
  · by_cases h1 : k = 1
    · subst h1
      refine Ev.congr (f := fun _ => some (telling (printL 1 (L name) (L t)))) (fun n => ?_) (Ev.now _)
      rw [word_ref, Option.bind_some, toList_L, L_B, if_neg h0, if_pos rfl, if_pos (by omega), if_pos (by rw [ByteArray.size_append]; omega)]
      simp only [printL, if_neg h0, telling]
      rw [if_pos trivial]
      simp only [telling]
      first | rfl | (congr 2; done) | (congr 2; refine ext_L ?_; simp only [L_append, L_B]; simp)
    · by_cases h6 : k ≤ 6
      · have hv : printL k (L name) (L t) = if isName (L name) then some (wordL k ++ 32 :: L name) else none := by simp [printL, h0, h1, h6]
        rw [hv]
        refine Ev.congr (f := fun n => (cubbyref07_Name.f n name).bind fun t119 => (if t119 = true then (if (B (wordL k)).size + 1 ≤ 9223372036854775807 then (if (B (wordL k) ++ (⟨#[32]⟩ : ByteArray)).size + name.size ≤ 9223372036854775807 then (some ((B (wordL k) ++ (⟨#[32]⟩ : ByteArray)) ++ name, 0)) else (none)) else (none)) else (some ((⟨#[]⟩ : ByteArray), 210)))) (fun n => by rw [word_ref, Option.bind_some, toList_L, L_B, if_neg h0, if_neg h1, if_pos h6]) ?_
        refine Ev.bind (refName name hn) ?_
        refine Ev.congr (f := fun _ => some (telling (if isName (L name) then some (wordL k ++ 32 :: L name) else none))) (fun n => ?_) (Ev.now _)
        cases isName (L name) with
        | false => rfl
        | true =>
          simp only [if_true]
          rw [if_pos (by omega), if_pos (by rw [ByteArray.size_append]; omega)]
          simp only [telling]
          congr 2
          refine ext_L ?_
          simp only [L_append, L_B]; simp
      · have hv : printL k (L name) (L t) = some (wordL k) := by simp [printL, h0, h1, h6]
        rw [hv]
        exact Ev.congr (f := fun _ => some (telling (some (wordL k)))) (fun n => by rw [word_ref, Option.bind_some, toList_L, L_B, if_neg h0, if_neg h1, if_neg h6]; rfl) (Ev.now _)

/-! ### requests read -/
theorem cutPrefix_ev (s p : ByteArray) (hs : s.size ≤ 4096) (hp : p.size ≤ 100) :
    strings_CutPrefix.f s p = some (if (L p).isPrefixOf (L s) then (B ((L s).drop p.size), true) else (s, false)) := by
  have hh : stringslite_HasPrefix.f s p = some ((L p).isPrefixOf (L s)) := by
    unfold stringslite_HasPrefix.f
    by_cases hle : p.size ≤ s.size
    · rw [if_pos (by omega), if_pos (by omega), if_pos (by omega), toList_L, toList_L]
      congr 1
      rw [Int.toNat_natCast, L_to, Bool.eq_iff_iff, beq_iff_eq, List.isPrefixOf_iff_prefix, List.prefix_iff_eq_take, size_L]
      exact eq_comm
    · rw [if_neg (by omega)]
      congr 1
      symm
      rw [Bool.eq_false_iff]
      intro h
      have := (List.isPrefixOf_iff_prefix.1 h).length_le
      rw [← size_L, ← size_L] at this; omega
  unfold strings_CutPrefix.f stringslite_CutPrefix.f
  rw [hh]
  simp only [Option.bind_some]
  cases hb : (L p).isPrefixOf (L s) with
  | false => rfl
  | true =>
    have := (List.isPrefixOf_iff_prefix.1 hb).length_le
    rw [← size_L, ← size_L] at this
    simp only [if_true]
    rw [if_pos (by omega), if_pos (by omega)]
    simp only [Option.bind_some]
    congr 2
    exact ext_L (by rw [L_B]; exact L_from s p.size)
theorem size0 : (⟨#[]⟩ : ByteArray).size ≤ 4096 := by decide
theorem split_uniq {a b a' b' : List UInt8} (h : a ++ 32 :: b = a' ++ 32 :: b') (ha : 32 ∉ a) (ha' : 32 ∉ a') : a = a' ∧ b = b' := by
  have h1 := cut_hit (b := b) ha
  rw [h, cut_hit ha'] at h1
  simp only [Prod.mk.injEq] at h1
  exact ⟨h1.1.symm, h1.2.1.symm⟩
def Fits (w n : List UInt8) (b : Bool) (j : Int) : Prop := wordL j = w ∧ b = decide (j < 7) ∧ (b = true → isName n = true)
theorem parse_from (w n : ByteArray) (b : Bool) (hn : n.size ≤ 4096) : ∀ (d : Nat) (i : Int), i + d = 10 → 2 ≤ i →
    ∃ r, Ev (fun k => ask_Parse.l0 k w n b i) r ∧ ((∃ j, i ≤ j ∧ j ≤ 9 ∧ Fits (L w) (L n) b j ∧ r = (j, n, ⟨#[]⟩, 0)) ∨ ((∀ j, i ≤ j → j ≤ 9 → ¬ Fits (L w) (L n) b j) ∧ r = (0, ⟨#[]⟩, ⟨#[]⟩, 210)))
  | 0, i, hd, hi => ⟨_, Ev.step (f := fun _ => some (0, ⟨#[]⟩, ⟨#[]⟩, 210)) (fun k => by simp only [ask_Parse.l0]; rw [if_neg (by omega)]) (Ev.now _), .inr ⟨fun j h1 h2 => by omega, rfl⟩⟩
  | d + 1, i, hd, hi => by
    have hw : wrap64 (i + 1) = i + 1 := w64 (by omega) (by omega)
    by_cases hf : Fits (L w) (L n) b i
    · refine ⟨_, Ev.step (f := fun _ => some (i, n, ⟨#[]⟩, 0)) (fun k => ?_) (Ev.now _), .inl ⟨i, Int.le_refl _, by omega, hf, rfl⟩⟩
      obtain ⟨h1, h2, h3⟩ := hf
      simp only [ask_Parse.l0]
      rw [if_pos (by omega), word_ask, Option.bind_some, toList_L, toList_L, L_B, if_pos h1, if_pos (by rw [h2]; simp)]
      cases hb : b with
      | true => rw [if_pos rfl, irName n hn, h3 hb]; rfl
      | false => rw [if_neg (by simp)]
    · obtain ⟨r, hr, hc⟩ := parse_from w n b hn d (i + 1) (by omega) (by omega)
      refine ⟨r, Ev.step (fun k => ?_) hr, ?_⟩
      · simp only [ask_Parse.l0]
        rw [if_pos (by omega), word_ask, Option.bind_some, toList_L, toList_L, L_B, hw]
        by_cases h1 : wordL i = L w
        · rw [if_pos h1]
          by_cases h2 : b = decide (i < 7)
          · rw [if_pos (by rw [← h2]; simp)]
            have h3 : ¬ (b = true → isName (L n) = true) := fun h => hf ⟨h1, h2, h⟩
            have hb : b = true := by cases b <;> simp_all
            rw [if_pos hb, irName n hn]
            have hf' : isName (L n) = false := by cases hq : isName (L n) <;> simp_all
            rw [hf']; rfl
          · rw [if_neg (by simpa using h2)]
        · rw [if_neg h1]
      · rcases hc with ⟨j, h1, h2, h3, h4⟩ | ⟨h1, h2⟩
        · exact .inl ⟨j, by omega, h2, h3, h4⟩
        · exact .inr ⟨fun j hj hj9 => by
            by_cases e : j = i
            · subst e; exact hf
            · exact h1 j (by omega) hj9, h2⟩
def submitL : List UInt8 := [115, 117, 98, 109, 105, 116, 10]
/-- What a request's reading must be. -/
def ParsesTo (s : List UInt8) (r : Int × ByteArray × ByteArray × Int) : Prop :=
  (r.2.2.2 = 0 ∧ printL r.1 (L r.2.1) (L r.2.2.1) = some s ∧ r.2.1.size ≤ 4096 ∧ r.2.2.1.size ≤ 4096) ∨ (r = (0, ⟨#[]⟩, ⟨#[]⟩, 210) ∧ ∀ k n t, printL k n t ≠ some s)
theorem printL_form {k : Int} {n t s : List UInt8} (h : printL k n t = some s) : 1 ≤ k ∧ k ≤ 9 ∧ ((k = 1 ∧ s = wordL k ++ 10 :: t) ∨ (2 ≤ k ∧ k ≤ 6 ∧ isName n = true ∧ s = wordL k ++ 32 :: n) ∨ (7 ≤ k ∧ s = wordL k)) := by
  unfold printL at h
  split at h
  · cases h
  · rename_i h0
    rcases word_cases k with ⟨h1, _⟩ | ⟨h1, h9, _⟩
    · exact absurd h1 h0
    · refine ⟨h1, h9, ?_⟩
      split at h
      · rename_i hk; exact .inl ⟨hk, (Option.some.inj h).symm⟩
      · rename_i hk
        split at h
        · rename_i h6
          split at h
          · rename_i hn; exact .inr (.inl ⟨by omega, h6, hn, (Option.some.inj h).symm⟩)
          · cases h
        · rename_i h6; exact .inr (.inr ⟨by omega, (Option.some.inj h).symm⟩)
theorem wordL_no32 (k : Int) : 32 ∉ wordL k := by
  rcases word_cases k with ⟨h, _⟩ | ⟨_, _, _, h, _⟩
  · rw [h]; simp
  · exact h
theorem wordL_ne {k : Int} (h : 1 ≤ k ∧ k ≤ 9) : wordL k ≠ [] := by
  rcases word_cases k with ⟨_, h'⟩ | ⟨_, _, h', _⟩
  · omega
  · exact h'
theorem parse_ask (s : ByteArray) (hs : s.size ≤ 4096) : ∃ r, Ev (fun k => ask_Parse.f k s) r ∧ ParsesTo (L s) r := by
  have hcp := cutPrefix_ev s ⟨#[115, 117, 98, 109, 105, 116, 10]⟩ hs (by decide)
  unfold ask_Parse.f
  cases hb : (L ⟨#[115, 117, 98, 109, 105, 116, 10]⟩).isPrefixOf (L s) with
  | true =>
    rw [hb] at hcp
    obtain ⟨t, ht⟩ := List.isPrefixOf_iff_prefix.1 hb
    have ht : submitL ++ t = L s := ht
    have hd : B ((L s).drop (⟨#[115, 117, 98, 109, 105, 116, 10]⟩ : ByteArray).size) = B t := by
      rw [← ht]; rfl
    refine ⟨(1, ⟨#[]⟩, B t, 0), Ev.congr (f := fun _ => some (1, ⟨#[]⟩, B t, 0)) (fun n => by rw [hcp, if_pos rfl, hd]; rfl) (Ev.now _), .inl ⟨rfl, ?_, size0, ?_⟩⟩
    · simp only [L_B]
      rw [← ht]; rfl
    · rw [sizeBL]
      have := congrArg List.length ht
      rw [List.length_append, ← size_L] at this; omega
  | false =>
    rw [hb] at hcp
    have hno1 : ∀ n t, printL 1 n t ≠ some (L s) := fun n t h => by
      obtain ⟨_, _, ⟨_, h⟩ | ⟨h, _⟩ | ⟨h, _⟩⟩ := printL_form h
      · have : (L ⟨#[115, 117, 98, 109, 105, 116, 10]⟩).isPrefixOf (L s) = true := by
          rw [List.isPrefixOf_iff_prefix, h]; exact ⟨t, rfl⟩
        rw [hb] at this; cases this
      · omega
      · omega
    rcases cut_cases (L s) with ⟨hn, hc⟩ | ⟨a, b, ha, hl, hc⟩
    · have hcut : strings_Cut.f s ⟨#[32]⟩ = some (s, ⟨#[]⟩, false) := by
        unfold strings_Cut.f
        rw [if_pos (by omega), show (⟨#[32]⟩ : ByteArray).data.toList = [32] from rfl, hc]
      obtain ⟨r, hr, hcase⟩ := parse_from s ⟨#[]⟩ false (by decide) 8 2 (by omega) (by omega)
      refine ⟨r, Ev.congr (fun n => by rw [hcp, hcut]; rfl) hr, ?_⟩
      rcases hcase with ⟨j, h1, h2, ⟨f1, f2, f3⟩, rfl⟩ | ⟨h1, rfl⟩
      · have hj : ¬ j < 7 := by simpa using f2
        exact .inl ⟨rfl, by simp only [printL]; rw [if_neg (wordL_ne ⟨by omega, h2⟩), if_neg (by omega), if_neg (by omega), f1], size0, size0⟩
      · refine .inr ⟨rfl, fun k n t h => ?_⟩
        obtain ⟨hk1, hk9, ⟨rfl, _⟩ | ⟨_, _, _, h'⟩ | ⟨h7, h'⟩⟩ := printL_form h
        · exact hno1 n t h
        · exact hn (by rw [h']; simp)
        · exact h1 k (by omega) hk9 ⟨h'.symm, by simp; omega, by simp⟩
    · have hcut : strings_Cut.f s ⟨#[32]⟩ = some (B a, B b, true) := by
        unfold strings_Cut.f
        rw [if_pos (by omega), show (⟨#[32]⟩ : ByteArray).data.toList = [32] from rfl, hc]
      have hsz := congrArg List.length hl
      simp only [List.length_append, List.length_cons] at hsz
      rw [← size_L] at hsz
      have hbs : (B b).size ≤ 4096 := by rw [sizeBL]; omega
      obtain ⟨r, hr, hcase⟩ := parse_from (B a) (B b) true hbs 8 2 (by omega) (by omega)
      refine ⟨r, Ev.congr (fun n => by rw [hcp, hcut]; rfl) hr, ?_⟩
      simp only [L_B] at hcase
      rcases hcase with ⟨j, h1, h2, ⟨f1, f2, f3⟩, rfl⟩ | ⟨h1, rfl⟩
      · have hj : j < 7 := by simpa using f2.symm
        refine .inl ⟨rfl, ?_, hbs, size0⟩
        simp only [printL, L_B]
        rw [if_neg (wordL_ne ⟨by omega, h2⟩), if_neg (by omega), if_pos (by omega), if_pos (f3 rfl), f1, hl]
      · refine .inr ⟨rfl, fun k n t h => ?_⟩
        obtain ⟨hk1, hk9, ⟨rfl, _⟩ | ⟨h2, h6, hn, h'⟩ | ⟨h7, h'⟩⟩ := printL_form h
        · exact hno1 n t h
        · rw [hl] at h'
          obtain ⟨e1, e2⟩ := split_uniq h' ha (wordL_no32 k)
          exact h1 k (by omega) hk9 ⟨e1.symm, by simp; omega, fun _ => by rw [e2]; exact hn⟩
        · exact wordL_no32 k (by rw [← h', hl]; simp)

/-! ### requests read by the reference -/
def nameAt (s : ByteArray) (i : Int) : ByteArray := if 1 < i ∧ i ≤ 6 ∧ (wordL i).length < s.size then s.extract ((wordL i).length + 1) s.size else ⟨#[]⟩
def textAt (s : ByteArray) (i : Int) : ByteArray := if i = 1 ∧ (wordL i).length < s.size then s.extract ((wordL i).length + 1) s.size else ⟨#[]⟩
theorem extract_le (s : ByteArray) (a : Nat) (hs : s.size ≤ 4096) : (s.extract a s.size).size ≤ 4096 := by rw [ByteArray.size_extract]; omega
theorem nameAt_le (s : ByteArray) (i : Int) (hs : s.size ≤ 4096) : (nameAt s i).size ≤ 4096 := by unfold nameAt; split; exact extract_le s _ hs; exact size0
theorem textAt_le (s : ByteArray) (i : Int) (hs : s.size ≤ 4096) : (textAt s i).size ≤ 4096 := by unfold textAt; split; exact extract_le s _ hs; exact size0
theorem refParse_step (s : ByteArray) (hs : s.size ≤ 4096) (i : Int) (h1 : 1 ≤ i) (h9 : i ≤ 9) {r : Int × ByteArray × ByteArray × Int}
    (h : Ev (fun k => if (telling (printL i (L (nameAt s i)) (L (textAt s i)))).2 = 0 then (if (telling (printL i (L (nameAt s i)) (L (textAt s i)))).1.toList = s.toList then (some (i, nameAt s i, textAt s i, 0)) else cubbyref21_Parse.l0 k s (i + 1)) else cubbyref21_Parse.l0 k s (i + 1)) r) :
    Ev (fun k => cubbyref21_Parse.l0 k s i) r := by
  have hw : wrap64 (i + 1) = i + 1 := w64 (by omega) (by omega)
  have hws : (B (wordL i)).size = (wordL i).length := sizeBL _
  have hwl : (wordL i).length ≤ 7 := by rcases word_cases i with ⟨h, _⟩ | ⟨_, _, _, _, h⟩ <;> simp [h]
  have hwx : wrap64 (((B (wordL i)).size : Int) + 1) = (((wordL i).length + 1 : Nat) : Int) := by rw [hws, w64 (by omega) (by omega)]; omega
  -- the end: j3 at what stands there
  have j3 : ∀ (b : Bool) (n0 : ByteArray), n0.size ≤ 4096 → (b = true → (wordL i).length < s.size) → (if b = true then s.extract ((wordL i).length + 1) s.size else n0) = nameAt s i →
      Ev (fun k => cubbyref21_Parse.j3 k s i (B (wordL i)) b i n0 (textAt s i)) r := by
    intro b n0 hn0 hb he
    have hp := print_ref i (nameAt s i) (textAt s i) (nameAt_le s i hs) (textAt_le s i hs)
    refine Ev.step (f := fun k => (cubbyref21_Print.f k i (nameAt s i) (textAt s i)).bind fun bt => if bt.2 = 0 then (if bt.1.toList = s.toList then (some (i, nameAt s i, textAt s i, 0)) else cubbyref21_Parse.l0 k s (i + 1)) else cubbyref21_Parse.l0 k s (i + 1)) (fun k => ?_) (Ev.bind hp h)
    simp only [cubbyref21_Parse.j3]
    cases b with
    | true =>
      have := hb rfl
      rw [if_pos rfl] at he
      rw [if_pos rfl, hwx, if_pos (by omega), if_pos (by omega), Int.toNat_natCast, he, hw]
    | false =>
      rw [if_neg (by simp)] at he
      rw [if_neg (by simp), he, hw]
  have j2 : Ev (fun k => cubbyref21_Parse.j2 k s i (B (wordL i)) i ⟨#[]⟩ (textAt s i)) r := by
    by_cases hi : 1 < i ∧ i ≤ 6
    · refine Ev.step (fun k => ?_) (j3 (decide ((s.size : Int) > ((B (wordL i)).size : Int))) ⟨#[]⟩ size0 (fun hb => by rw [hws] at hb; simpa using hb) (by
        unfold nameAt; rw [hws]; by_cases hl : (wordL i).length < s.size
        · rw [if_pos (by simpa using hl), if_pos ⟨hi.1, hi.2, hl⟩]
        · rw [if_neg (by simpa using hl), if_neg (fun h => hl h.2.2)]))
      simp only [cubbyref21_Parse.j2]
      rw [if_pos (by omega), if_pos hi.2]
    · refine Ev.step (fun k => ?_) (j3 false ⟨#[]⟩ size0 (fun hb => by cases hb) (by
        unfold nameAt; rw [if_neg (by simp), if_neg (fun h => hi ⟨h.1, h.2.1⟩)]))
      simp only [cubbyref21_Parse.j2]
      split
      · rw [if_neg (by omega)]
      · rfl
  have j1 : ∀ b : Bool, (b = true → (wordL i).length < s.size) → (if b = true then s.extract ((wordL i).length + 1) s.size else ⟨#[]⟩) = textAt s i → Ev (fun k => cubbyref21_Parse.j1 k s i (B (wordL i)) b i ⟨#[]⟩ ⟨#[]⟩) r := by
    intro b hb he
    refine Ev.step (fun k => ?_) j2
    simp only [cubbyref21_Parse.j1]
    cases b with
    | true =>
      have := hb rfl
      rw [if_pos rfl] at he
      rw [if_pos rfl, hwx, if_pos (by omega), if_pos (by omega), Int.toNat_natCast, he]
    | false =>
      rw [if_neg (by simp)] at he
      rw [if_neg (by simp), he]
  by_cases hi : i = 1
  · refine Ev.step (fun k => ?_) (j1 (decide ((s.size : Int) > ((B (wordL i)).size : Int))) (fun hb => by rw [hws] at hb; simpa using hb) (by
      unfold textAt; rw [hws]; by_cases hl : (wordL i).length < s.size
      · rw [if_pos (by simpa using hl), if_pos ⟨hi, hl⟩]
      · rw [if_neg (by simpa using hl), if_neg (fun h => hl h.2)]))
    simp only [cubbyref21_Parse.l0]
    rw [if_pos (by omega), word_ref, Option.bind_some, if_pos hi]
  · refine Ev.step (fun k => ?_) (j1 false (fun hb => by cases hb) (by unfold textAt; rw [if_neg (by simp), if_neg (fun h => hi h.1)]))
    simp only [cubbyref21_Parse.l0]
    rw [if_pos (by omega), word_ref, Option.bind_some, if_neg hi]
theorem telling_zero {o : Option (List UInt8)} (h : (telling o).2 = 0) : ∃ l, o = some l ∧ (telling o).1 = B l := by
  cases o with
  | none => simp [telling] at h
  | some l => exact ⟨l, rfl, rfl⟩
theorem refParse_from (s : ByteArray) (hs : s.size ≤ 4096) : ∀ (d : Nat) (i : Int), i + d = 10 → 1 ≤ i → ∃ r, Ev (fun k => cubbyref21_Parse.l0 k s i) r ∧
    ((r.2.2.2 = 0 ∧ ∃ k n t, printL k n t = some (L s)) ∨ (r.2.2.2 = 210 ∧ ∀ j, i ≤ j → j ≤ 9 → printL j (L (nameAt s j)) (L (textAt s j)) ≠ some (L s)))
  | 0, i, hd, hi => ⟨_, Ev.step (f := fun _ => some (0, ⟨#[]⟩, ⟨#[]⟩, 210)) (fun k => by simp only [cubbyref21_Parse.l0]; rw [if_neg (by omega)]) (Ev.now _), .inr ⟨rfl, fun j h1 h2 => by omega⟩⟩
  | d + 1, i, hd, hi => by
    by_cases hp : printL i (L (nameAt s i)) (L (textAt s i)) = some (L s)
    · refine ⟨_, refParse_step s hs i hi (by omega) (r := (i, nameAt s i, textAt s i, 0)) (Ev.congr (f := fun _ => some (i, nameAt s i, textAt s i, 0)) (fun k => ?_) (Ev.now _)), .inl ⟨rfl, _, _, _, hp⟩⟩
      rw [hp]
      simp only [telling]
      first | (rw [if_pos trivial, toList_L, toList_L, L_B, if_pos rfl]; done) | (simp [toList_L])
    · obtain ⟨r, hr, hc⟩ := refParse_from s hs d (i + 1) (by omega) (by omega)
      refine ⟨r, refParse_step s hs i hi (by omega) (Ev.congr (fun k => ?_) hr), ?_⟩
      · split
        · rename_i hz
          obtain ⟨l, hl, hb⟩ := telling_zero hz
          rw [if_neg (fun he => hp (by rw [hl]; rw [hb, toList_L, toList_L, L_B] at he; rw [he]))]
        · rfl
      · rcases hc with h | ⟨h1, h2⟩
        · exact .inl h
        · exact .inr ⟨h1, fun j hj hj9 => by
            by_cases e : j = i
            · subst e; exact hp
            · exact h2 j (by omega) hj9⟩
theorem parse_ref (s : ByteArray) (hs : s.size ≤ 4096) : ∃ r, Ev (fun k => cubbyref21_Parse.f k s) r ∧ ((r.2.2.2 = 0 ∧ ∃ k n t, printL k n t = some (L s)) ∨ (r.2.2.2 = 210 ∧ ∀ k n t, printL k n t ≠ some (L s))) := by
  obtain ⟨r, hr, hc⟩ := refParse_from s hs 9 1 (by omega) (by omega)
  refine ⟨r, hr, ?_⟩
  rcases hc with h | ⟨h1, h2⟩
  · exact .inl h
  · refine .inr ⟨h1, fun k n t h => ?_⟩
    obtain ⟨hk1, hk9, hc⟩ := printL_form h
    refine h2 k hk1 hk9 ?_
    have hsz : s.size = (L s).length := size_L s
    rcases hc with ⟨rfl, h'⟩ | ⟨ha, hb, hn, h'⟩ | ⟨ha, h'⟩
    · have hlt : (wordL 1).length < s.size := by rw [hsz, h']; simp
      have ht : L (textAt s 1) = t := by
        unfold textAt
        rw [if_pos ⟨rfl, hlt⟩, L_from, h']
        simp
      rw [ht]
      simp only [printL] at h ⊢
      rw [if_neg (wordL_ne ⟨hk1, hk9⟩)] at h ⊢
      exact h
    · have hlt : (wordL k).length < s.size := by rw [hsz, h']; simp
      have ht : L (nameAt s k) = n := by
        unfold nameAt
        rw [if_pos ⟨by omega, hb, hlt⟩, L_from, h']
        simp
      rw [ht]
      simp only [printL]
      rw [if_neg (wordL_ne ⟨hk1, hk9⟩), if_neg (by omega), if_pos hb, if_pos hn, h']
    · simp only [printL]
      rw [if_neg (wordL_ne ⟨hk1, hk9⟩), if_neg (by omega), if_neg (by omega), h']

/-! ### replies heard -/
theorem okN_iff (v : Int) : okN v = true ↔ 0 ≤ v ∧ v < 2147483648 := by unfold okN; exact decide_eq_true_iff
theorem num_dg (t : ByteArray) (v : Int) : num t = some v ↔ okN v = true ∧ L t = dg v := by
  rw [num_iff, okN_iff]
  constructor
  · rintro ⟨n, rfl, hn, hl⟩
    exact ⟨by omega, by rw [hl]; rfl⟩
  · rintro ⟨h, hl⟩
    exact ⟨v.toNat, by omega, by omega, hl⟩
theorem dg_no32 (v : Int) : (32 : UInt8) ∉ dg v := dec_no32 _
theorem nums_iff : ∀ (ws : List ByteArray) (l : List Int), nums ws = some l ↔ (ws.map L = l.map dg ∧ ∀ v ∈ l, okN v = true)
  | [], l => by cases l <;> simp [nums]
  | w :: ws, l => by
    simp only [nums]
    constructor
    · intro h
      obtain ⟨n, hn, h⟩ := Option.bind_eq_some_iff.1 h
      obtain ⟨r, hr, h⟩ := Option.bind_eq_some_iff.1 h
      obtain rfl := Option.some.inj h
      obtain ⟨h1, h2⟩ := (num_dg w n).1 hn
      obtain ⟨h3, h4⟩ := (nums_iff ws r).1 hr
      exact ⟨by rw [List.map_cons, List.map_cons, h2, h3], fun v hv => by
        rcases List.mem_cons.1 hv with rfl | hv
        · exact h1
        · exact h4 v hv⟩
    · rintro ⟨h1, h2⟩
      cases l with
      | nil => simp at h1
      | cons n r =>
        rw [List.map_cons, List.map_cons, List.cons.injEq] at h1
        have hn := (num_dg w n).2 ⟨h2 n (by simp), h1.1⟩
        have hr := (nums_iff ws r).2 ⟨h1.2, fun v hv => h2 v (List.mem_cons_of_mem _ hv)⟩
        rw [hn, hr]; rfl
theorem heard_iff (s wd : ByteArray) (n : Nat) (l : List Int) : heard s wd n = some l ↔ (l.length = n ∧ sp (L s) = L wd :: l.map dg ∧ ∀ v ∈ l, okN v = true) := by
  have hw := words_sp s
  unfold heard
  cases hs : words s with
  | nil => rw [hs] at hw; exact absurd hw.symm (sp_ne _)
  | cons w ws =>
    rw [hs] at hw
    rw [← hw]
    simp only [List.getElem?_cons_zero, List.map_cons, List.drop_succ_cons, List.drop_zero, List.length_cons]
    rw [toList_L, toList_L]
    constructor
    · intro h
      split at h
      · rename_i hc
        obtain ⟨h1, h2⟩ := (nums_iff ws l).1 h
        have hl := congrArg List.length h1
        simp only [List.length_map] at hl
        exact ⟨by omega, by rw [hc.1, h1], h2⟩
      · cases h
    · rintro ⟨h1, h2, h3⟩
      rw [List.cons.injEq] at h2
      have hl := congrArg List.length h2.2
      simp only [List.length_map] at hl
      rw [if_pos ⟨h2.1, by omega⟩]
      exact (nums_iff ws l).2 ⟨h2.2, h3⟩
theorem tellL_form {k a b c : Int} {t s : List UInt8} (h : tellL k a b c t = some s) :
    (k = 1 ∧ okN a = true ∧ s = [111, 107] ++ 32 :: dg a) ∨ (k = 2 ∧ s = lCode ++ t) ∨ (k = 3 ∧ s = lMiss) ∨ (k = 4 ∧ okN a = true ∧ okN b = true ∧ s = [101, 114, 114, 111, 114] ++ 32 :: (dg a ++ 32 :: dg b)) ∨
    (k = 5 ∧ okN a = true ∧ okN b = true ∧ okN c = true ∧ s = [115, 116, 97, 116, 115] ++ 32 :: (dg a ++ 32 :: (dg b ++ 32 :: dg c))) := by
  unfold tellL at h
  split at h
  · rename_i hk
    split at h
    · rename_i ha; exact .inl ⟨hk, ha, (Option.some.inj h).symm⟩
    · cases h
  · split at h
    · rename_i hk; exact .inr (.inl ⟨hk, (Option.some.inj h).symm⟩)
    · split at h
      · rename_i hk; exact .inr (.inr (.inl ⟨hk, (Option.some.inj h).symm⟩))
      · split at h
        · rename_i hk
          split at h
          · rename_i ha
            rw [Bool.and_eq_true] at ha
            exact .inr (.inr (.inr (.inl ⟨hk, ha.1, ha.2, (Option.some.inj h).symm⟩)))
          · cases h
        · split at h
          · rename_i hk
            split at h
            · rename_i ha
              rw [Bool.and_eq_true, Bool.and_eq_true] at ha
              exact .inr (.inr (.inr (.inr ⟨hk, ha.1.1, ha.1.2, ha.2, (Option.some.inj h).symm⟩)))
            · cases h
          · cases h
theorem sp_ok (a : Int) : sp ([111, 107] ++ 32 :: dg a) = [[111, 107], dg a] := by rw [sp_hit _ (by decide), sp_none (dg_no32 a)]
theorem sp_error (a b : Int) : sp ([101, 114, 114, 111, 114] ++ 32 :: (dg a ++ 32 :: dg b)) = [[101, 114, 114, 111, 114], dg a, dg b] := by rw [sp_hit _ (by decide), sp_hit _ (dg_no32 a), sp_none (dg_no32 b)]
theorem sp_stats (a b c : Int) : sp ([115, 116, 97, 116, 115] ++ 32 :: (dg a ++ 32 :: (dg b ++ 32 :: dg c))) = [[115, 116, 97, 116, 115], dg a, dg b, dg c] := by
  rw [sp_hit _ (by decide), sp_hit _ (dg_no32 a), sp_hit _ (dg_no32 b), sp_none (dg_no32 c)]
/-- What a reply's reading must be. -/
def HearsTo (s : List UInt8) (r : Int × Int × Int × Int × ByteArray × Int) : Prop :=
  (r.2.2.2.2.2 = 0 ∧ tellL r.1 r.2.1 r.2.2.1 r.2.2.2.1 (L r.2.2.2.2.1) = some s ∧ r.2.2.2.2.1.size ≤ 4096) ∨ (r = (0, 0, 0, 0, ⟨#[]⟩, 210) ∧ ∀ k a b c t, tellL k a b c t ≠ some s)
theorem hear_ask (s : ByteArray) (hs : s.size ≤ 4096) : ∃ r, ask_Hear.f s = some r ∧ HearsTo (L s) r := by
  have hcp := cutPrefix_ev s ⟨#[99, 111, 100, 101, 10]⟩ hs (by decide)
  unfold ask_Hear.f
  rw [if_pos (by omega), hcp]
  simp only [Option.bind_some]
  cases hb : (L ⟨#[99, 111, 100, 101, 10]⟩).isPrefixOf (L s) with
  | true =>
    obtain ⟨t, ht⟩ := List.isPrefixOf_iff_prefix.1 hb
    have ht : lCode ++ t = L s := ht
    have hd : B ((L s).drop (⟨#[99, 111, 100, 101, 10]⟩ : ByteArray).size) = B t := by rw [← ht]; rfl
    refine ⟨(2, 0, 0, 0, B t, 0), by rw [if_pos rfl, if_pos rfl, hd], .inl ⟨rfl, ?_, ?_⟩⟩
    · simp only [L_B]; rw [← ht]; rfl
    · rw [sizeBL]
      have := congrArg List.length ht
      rw [List.length_append, ← size_L] at this; omega
  | false =>
    simp only [Bool.false_eq_true, if_false]
    have hno2 : ∀ t, L s ≠ lCode ++ t := fun t h => by
      have : (L ⟨#[99, 111, 100, 101, 10]⟩).isPrefixOf (L s) = true := by rw [List.isPrefixOf_iff_prefix, h]; exact ⟨t, rfl⟩
      rw [hb] at this; cases this
    rw [toList_L]
    by_cases hm : L s = [109, 105, 115, 115]
    · exact ⟨_, by rw [if_pos hm], .inl ⟨rfl, by rw [hm]; rfl, size0⟩⟩
    · rw [if_neg hm]
      refine ⟨_, rfl, ?_⟩
      have hjs := js_sp (L s)
      unfold hearRest
      cases h1 : heard s lOk 1 with
      | some l =>
        obtain ⟨hl, hsp, hv⟩ := (heard_iff s lOk 1 l).1 h1
        obtain ⟨a, rfl⟩ := List.length_eq_one_iff.1 hl
        rw [hsp] at hjs
        exact .inl ⟨rfl, by
          simp only [tellL, rd]
          rw [if_pos trivial]
          simp only [Int.toNat_zero, List.getD_cons_zero, hv a (by simp), if_true]
          rw [← hjs]; rfl, size0⟩
      | none =>
        cases h2 : heard s lError 2 with
        | some l =>
          obtain ⟨hl, hsp, hv⟩ := (heard_iff s lError 2 l).1 h2
          obtain ⟨a, b, rfl⟩ : ∃ a b, l = [a, b] := by match l, hl with | [a, b], _ => exact ⟨a, b, rfl⟩
          rw [hsp] at hjs
          exact .inl ⟨rfl, by
            have ha := hv a (by simp)
            have hb := hv b (by simp)
            have e : tellL 4 a b 0 (L ⟨#[]⟩) = some (L s) := by
              unfold tellL
              rw [if_neg (by omega), if_neg (by omega), if_neg (by omega), if_pos rfl, ha, hb, ← hjs]; rfl
            exact e, size0⟩
        | none =>
          cases h3 : heard s lStats 3 with
          | some l =>
            obtain ⟨hl, hsp, hv⟩ := (heard_iff s lStats 3 l).1 h3
            obtain ⟨a, b, c, rfl⟩ : ∃ a b c, l = [a, b, c] := by match l, hl with | [a, b, c], _ => exact ⟨a, b, c, rfl⟩
            rw [hsp] at hjs
            exact .inl ⟨rfl, by
              have ha := hv a (by simp)
              have hb := hv b (by simp)
              have hc := hv c (by simp)
              have e : tellL 5 a b c (L ⟨#[]⟩) = some (L s) := by
                unfold tellL
                rw [if_neg (by omega), if_neg (by omega), if_neg (by omega), if_neg (by omega), if_pos rfl, ha, hb, hc, ← hjs]; rfl
              exact e, size0⟩
          | none =>
            refine .inr ⟨rfl, fun k a b c t h => ?_⟩
            rcases tellL_form h with ⟨_, ha, h'⟩ | ⟨_, h'⟩ | ⟨_, h'⟩ | ⟨_, ha, hb', h'⟩ | ⟨_, ha, hb', hc, h'⟩
            · have := (heard_iff s lOk 1 [a]).2 ⟨rfl, by rw [h', sp_ok]; rfl, by simp [ha]⟩
              rw [h1] at this; cases this
            · exact hno2 t h'
            · exact hm h'
            · have := (heard_iff s lError 2 [a, b]).2 ⟨rfl, by rw [h', sp_error]; rfl, by simp [ha, hb']⟩
              rw [h2] at this; cases this
            · have := (heard_iff s lStats 3 [a, b, c]).2 ⟨rfl, by rw [h', sp_stats]; rfl, by simp [ha, hb', hc]⟩
              rw [h3] at this; cases this

/-! ### replies heard by the reference -/
theorem extract_take {s : ByteArray} {a b : Nat} (hb : b ≤ s.size) : L (s.extract a b) = ((L s).take b).drop a := by
  show (s.extract a b).data.toList = _
  rw [ByteArray.data_extract, Array.toList_extract, List.extract_eq_take_drop, List.drop_take]
theorem refWords_from (s : ByteArray) (hs : s.size ≤ 4096) : ∀ (d i a : Nat) (ws : List ByteArray), i + d = s.size + 1 → a ≤ i → ws.length ≤ i → (∀ j, a ≤ j → j < i → (L s)[j]? ≠ some 32) →
    ∃ vs, Ev (fun k => cubbyref21_words.l0 k s ws a i) (ws ++ vs) ∧ vs.map L = (if i = s.size + 1 then [] else sp ((L s).drop a))
  | 0, i, a, ws, hd, ha, hw, hno => by
    refine ⟨[], ?_, by rw [if_pos (by omega)]; rfl⟩
    rw [List.append_nil]
    exact Ev.step (f := fun _ => some ws) (fun k => by simp only [cubbyref21_words.l0]; rw [if_neg (by omega)]) (Ev.now _)
  | d + 1, i, a, ws, hd, ha, hw, hno => by
    have hwr : wrap64 ((i : Int) + 1) = ((i + 1 : Nat) : Int) := by rw [w64 (by omega) (by omega)]; omega
    rw [if_neg (by omega)]
    by_cases he : i = s.size
    · obtain ⟨vs, hv, hm⟩ := refWords_from s hs d (i + 1) (i + 1) (ws ++ [s.extract a i]) (by omega) (by omega) (by simp; omega) (fun j h1 h2 => by omega)
      rw [if_pos (by omega)] at hm
      have hvs : vs = [] := by simpa using hm
      subst hvs
      refine ⟨[s.extract a i], ?_, ?_⟩
      · rw [List.append_nil] at hv
        refine Ev.step (fun k => ?_) hv
        simp only [cubbyref21_words.l0]
        rw [if_pos (by omega), if_pos (by omega), if_pos (by omega), if_pos (by omega), if_pos (by omega), hwr]
        simp only [Int.toNat_natCast]
      · have hn : 32 ∉ (L s).drop a := fun h => by
          obtain ⟨j, hj⟩ := List.mem_iff_getElem?.1 h
          rw [List.getElem?_drop] at hj
          have hl := (List.getElem?_eq_some_iff.1 hj).1
          rw [← size_L] at hl
          exact hno (a + j) (by omega) (by omega) hj
        rw [sp_none hn]
        simp only [List.map_cons, List.map_nil]
        rw [extract_take (by omega), he, List.take_of_length_le (by rw [← size_L]; omega)]
    · have hlt : i < s.size := by omega
      obtain ⟨c, hc, hb⟩ := bt_L s i hlt
      by_cases h32 : c = 32
      · subst h32
        obtain ⟨vs, hv, hm⟩ := refWords_from s hs d (i + 1) (i + 1) (ws ++ [s.extract a i]) (by omega) (by omega) (by simp; omega) (fun j h1 h2 => by omega)
        rw [if_neg (by omega)] at hm
        refine ⟨s.extract a i :: vs, ?_, ?_⟩
        · rw [show ws ++ s.extract a i :: vs = (ws ++ [s.extract a i]) ++ vs by simp]
          refine Ev.step (fun k => ?_) hv
          simp only [cubbyref21_words.l0]
          rw [if_pos (by omega), if_neg (by omega), if_pos (by omega), if_pos (by omega), if_pos (by rw [hb]; rfl), if_pos (by omega), if_pos (by omega), if_pos (by omega), hwr]
          simp only [Int.toNat_natCast]
        · have hlen : i < (L s).length := by rw [← size_L]; exact hlt
          have hsplit : (L s).drop a = ((L s).take i).drop a ++ 32 :: (L s).drop (i + 1) := by
            have h1 : (L s).drop i = 32 :: (L s).drop (i + 1) := by
              rw [List.drop_eq_getElem_cons hlen]
              congr 1
              exact (List.getElem?_eq_some_iff.1 hc).2
            rw [← h1]
            conv => lhs; rw [← List.take_append_drop i (L s)]
            rw [List.drop_append_of_le_length (by rw [List.length_take]; omega)]
          have hn : 32 ∉ ((L s).take i).drop a := fun h => by
            obtain ⟨j, hj⟩ := List.mem_iff_getElem?.1 h
            rw [List.getElem?_drop] at hj
            have hl := (List.getElem?_eq_some_iff.1 hj).1
            rw [List.length_take] at hl
            rw [List.getElem?_take_of_lt (by omega)] at hj
            exact hno (a + j) (by omega) (by omega) hj
          rw [hsplit, sp_hit _ hn, List.map_cons, hm, extract_take (by omega)]
      · obtain ⟨vs, hv, hm⟩ := refWords_from s hs d (i + 1) a ws (by omega) (by omega) (by omega) (fun j h1 h2 => by
          by_cases e : j = i
          · subst e; rw [hc]; intro h; exact h32 (Option.some.inj h)
          · exact hno j h1 (by omega))
        rw [if_neg (by omega)] at hm
        refine ⟨vs, Ev.step (fun k => ?_) hv, hm⟩
        simp only [cubbyref21_words.l0]
        rw [if_pos (by omega), if_neg (by omega), if_pos (by omega), if_pos (by omega), if_neg (by rw [hb]; intro h; exact h32 (UInt8.toNat_inj.1 (by simp; omega))), hwr]
theorem refWords (s : ByteArray) (hs : s.size ≤ 4096) : ∃ vs, Ev (fun k => cubbyref21_words.f k s) vs ∧ vs.map L = sp (L s) := by
  obtain ⟨vs, hv, hm⟩ := refWords_from s hs (s.size + 1) 0 0 [] (by omega) (by omega) (by simp) (fun j h1 h2 => by omega)
  rw [if_neg (by omega), List.drop_zero] at hm
  exact ⟨vs, hv, hm⟩

theorem refNumber_from (s : ByteArray) (hs : s.size ≤ 10) : ∀ (d i : Nat) (n : Int), i + d = s.size → ∃ r, Ev (fun k => cubbyref08_Number.l0 k s n i) r ∧
    (∀ m v : Nat, n = m → m < 100000000000 → Lib.decFrom m ((L s).drop i) = some v → v < 2147483648 → r = ((v : Int), true))
  | 0, i, n, hd => by
    refine ⟨(n, decide (n ≤ 2147483647)), Ev.step (f := fun _ => some (n, decide (n ≤ 2147483647))) (fun k => by simp only [cubbyref08_Number.l0]; rw [if_neg (by omega)]) (Ev.now _), fun m v hm _ hv hlt => ?_⟩
    rw [List.drop_eq_nil_of_le (by rw [← size_L]; omega)] at hv
    obtain rfl : m = v := by simpa [Lib.decFrom] using hv
    subst hm
    simp; omega
  | d + 1, i, n, hd => by
    have hwr : wrap64 ((i : Int) + 1) = ((i + 1 : Nat) : Int) := by rw [w64 (by omega) (by omega)]; omega
    obtain ⟨c, hc, hb⟩ := bt_L s i (by omega)
    obtain ⟨hlen, hcv⟩ := List.getElem?_eq_some_iff.1 hc
    have hdrop : (L s).drop i = c :: (L s).drop (i + 1) := by rw [List.drop_eq_getElem_cons hlen, hcv]
    by_cases hdg : 48 ≤ c.toNat ∧ c.toNat ≤ 57
    · obtain ⟨r, hr, hq⟩ := refNumber_from s hs d (i + 1) (wrap64 (wrap64 (n * 10) + ((c.toNat : Int) - 48) % 256)) (by omega)
      refine ⟨r, Ev.step (fun k => ?_) hr, fun m v hm hml hv hlt => ?_⟩
      · simp only [cubbyref08_Number.l0]
        rw [if_pos (by omega), if_pos (by omega), hb, if_neg (by omega), if_neg (by omega), hwr]
      · rw [hdrop] at hv
        have hdv : Lib.digitVal c = some (c.toNat - 48) := by unfold Lib.digitVal; rw [if_pos hdg]
        simp only [Lib.decFrom, hdv] at hv
        have hmono : ∀ (l : List UInt8) (a v : Nat), Lib.decFrom a l = some v → a ≤ v := by
          intro l
          induction l with
          | nil => intro a v h; have : a = v := by simpa [Lib.decFrom] using h
                   omega
          | cons c l ih =>
            intro a v h
            simp only [Lib.decFrom] at h
            cases hx : Lib.digitVal c with
            | none => rw [hx] at h; cases h
            | some d => rw [hx] at h; have := ih _ _ h; omega
        have hle := hmono _ _ _ hv
        refine hq (m * 10 + (c.toNat - 48)) v ?_ (by omega) hv hlt
        rw [hm, show wrap64 ((m : Int) * 10) = (m : Int) * 10 from w64 (by omega) (by omega), w64 (by omega) (by omega)]
        omega
    · refine ⟨(0, false), Ev.step (f := fun _ => some (0, false)) (fun k => ?_) (Ev.now _), fun m v hm hml hv hlt => ?_⟩
      · simp only [cubbyref08_Number.l0]
        rw [if_pos (by omega), if_pos (by omega), hb]
        split
        · rfl
        · rw [if_pos (by omega)]
      · rw [hdrop] at hv
        have hdv : Lib.digitVal c = none := by unfold Lib.digitVal; rw [if_neg hdg]
        simp [Lib.decFrom, hdv] at hv
theorem dec_head0 (n : Nat) (r : List UInt8) (h : Lib.decDigits n = 48 :: r) : r = [] := by
  induction n using Nat.strongRecOn generalizing r with
  | _ n ih =>
    by_cases h10 : n < 10
    · rw [dec_small h10] at h
      simp at h; exact h.2
    · rw [dec_big h10] at h
      cases hx : Lib.decDigits (n / 10) with
      | nil => exact absurd hx (dec_ne _)
      | cons a l =>
        rw [hx] at h
        simp only [List.cons_append, List.cons.injEq] at h
        obtain ⟨rfl, h2⟩ := h
        have hl := ih (n / 10) (by omega) l hx
        subst hl
        have h0 := decFrom_dec (n / 10)
        rw [hx] at h0
        simp [Lib.decFrom, Lib.digitVal] at h0
        omega
theorem refNumber (t : ByteArray) : ∃ r, Ev (fun k => cubbyref08_Number.f k t) r ∧ (∀ v, okN v = true → L t = dg v → r = (v, true)) := by
  unfold cubbyref08_Number.f
  have no : Ev (fun k => cubbyref08_Number.j0 k t true) (0, false) := Ev.step (f := fun _ => some (0, false)) (fun k => by simp [cubbyref08_Number.j0]) (Ev.now _)
  by_cases h1 : t.size < 1
  · refine ⟨_, Ev.congr (fun k => by rw [if_pos (by omega)]) no, fun v hv hl => ?_⟩
    rw [size_L, hl] at h1
    have h0 : (dg v).length = 0 := by omega
    exact absurd (List.length_eq_zero_iff.1 h0) (dec_ne v.toNat)
  · by_cases h10 : t.size > 10
    · refine ⟨_, Ev.congr (fun k => by rw [if_neg (by omega), if_pos (by omega)]) no, fun v hv hl => ?_⟩
      have := dg_len hv
      rw [size_L, hl] at h10
      omega
    · obtain ⟨r, hr, hq⟩ := refNumber_from t (by omega) t.size 0 0 (by omega)
      have yes : Ev (fun k => cubbyref08_Number.j0 k t false) r := Ev.step (fun k => by simp only [cubbyref08_Number.j0]; rw [if_neg (by simp)]; rfl) hr
      have good : ∀ v, okN v = true → L t = dg v → r = (v, true) := fun v hv hl => by
        obtain ⟨h0, hlt⟩ := (okN_iff v).1 hv
        have := hq 0 v.toNat rfl (by omega) (by rw [List.drop_zero, hl]; exact decFrom_dec _) (by omega)
        rw [this]; congr 1; omega
      obtain ⟨c, hc, hb⟩ := bt_L t 0 (by omega)
      have hb : bt t 0 = (c.toNat : Int) := hb
      by_cases h48 : c.toNat = 48
      · by_cases hs1 : t.size > 1
        · refine ⟨_, Ev.congr (fun k => by rw [if_neg (by omega), if_neg (by omega), if_pos (by omega), if_pos (by omega), decide_eq_true (by omega : (t.size : Int) > 1)]) no, fun v hv hl => ?_⟩
          exfalso
          rw [hl] at hc
          cases hd : dg v with
          | nil => exact dec_ne _ hd
          | cons a l =>
            rw [hd] at hc
            obtain rfl : a = c := by simpa using hc
            obtain rfl : a = 48 := UInt8.toNat_inj.1 (by simp [h48])
            have := dec_head0 _ _ hd
            rw [size_L, hl, hd, this] at hs1
            simp at hs1
        · exact ⟨r, Ev.congr (fun k => by rw [if_neg (by omega), if_neg (by omega), if_pos (by omega), if_pos (by omega), decide_eq_false (by omega : ¬ (t.size : Int) > 1)]) yes, good⟩
      · exact ⟨r, Ev.congr (fun k => by rw [if_neg (by omega), if_neg (by omega), if_pos (by omega), if_neg (by omega)]) yes, good⟩

theorem hear_l0 (s : ByteArray) (ws : List ByteArray) (hws : ws.length ≤ 4097) : ∀ (d i : Nat) (ls : List Int), i + d = 4 → 1 ≤ i → ls.length = 3 →
    ∃ ls' : List Int, ls'.length = 3 ∧ (∀ r, Ev (fun k => cubbyref21_Hear.l1 k s ls' 1) r → Ev (fun k => cubbyref21_Hear.l0 k s ws ls i) r) ∧ (∀ j, 1 ≤ j → j < i → ls'[j - 1]? = ls[j - 1]?) ∧
      (∀ j t v, i ≤ j → j < 4 → ws[j]? = some t → okN v = true → L t = dg v → ls'[j - 1]? = some v)
  | 0, i, ls, hd, hi, hl => by
    refine ⟨ls, hl, fun r hr => ?_, fun j _ _ => rfl, fun j t v h1 h2 => by omega⟩
    have h1 : Ev (fun k => cubbyref21_Hear.j1 k s ws ls i false) r := Ev.step (fun k => by simp only [cubbyref21_Hear.j1]; rw [if_neg (by simp)]) hr
    refine Ev.step (fun k => ?_) h1
    simp only [cubbyref21_Hear.l0]
    split
    · rw [decide_eq_false (by omega : ¬ (i : Int) < 4)]
    · rfl
  | d + 1, i, ls, hd, hi, hl => by
    have hwr : wrap64 ((i : Int) + 1) = ((i + 1 : Nat) : Int) := by rw [w64 (by omega) (by omega)]; omega
    have hwm : wrap64 ((i : Int) - 1) = ((i - 1 : Nat) : Int) := by rw [w64 (by omega) (by omega)]; omega
    by_cases hlt : i < ws.length
    · obtain ⟨t, ht⟩ : ∃ t, ws[i]? = some t := ⟨_, List.getElem?_eq_getElem hlt⟩
      have hrd : rdOf ByteArray.empty ws (i : Int) = t := by simp [rdOf, ht]
      obtain ⟨⟨v, is⟩, hr, hq⟩ := refNumber t
      obtain ⟨ls', h1, h2, h3, h4⟩ := hear_l0 s ws hws d (i + 1) (if is = true then ls.set (i - 1) v else ls) (by omega) (by omega) (by split <;> simp [hl])
      refine ⟨ls', h1, fun r hr' => ?_, fun j hj1 hj2 => ?_, fun j t' v' hj1 hj2 ht' hok hl' => ?_⟩
      · have hj : Ev (fun k => cubbyref21_Hear.j1 k s ws ls i true) r := by
          refine Ev.step (f := fun k => (cubbyref08_Number.f k t).bind fun bt154 => (if bt154.2 = true then (if 0 ≤ (wrap64 ((i : Int) - 1)) then (if (wrap64 ((i : Int) - 1)) < (ls.length : Int) then (cubbyref21_Hear.l0 k s ws (ls.set ((wrap64 ((i : Int) - 1)) : Int).toNat bt154.1) (wrap64 ((i : Int) + 1))) else (none)) else (none)) else (cubbyref21_Hear.l0 k s ws ls (wrap64 ((i : Int) + 1))))) (fun k => ?_) (Ev.bind hr (Ev.congr (fun k => ?_) (h2 r hr')))
          · simp only [cubbyref21_Hear.j1]
            rw [if_pos trivial, if_pos (by omega), if_pos (by omega), hrd]
          · rw [hwr, hwm]
            cases is with
            | true => rw [if_pos rfl, if_pos (by omega), if_pos (by omega), if_pos rfl, Int.toNat_natCast]
            | false => rw [if_neg (by simp), if_neg (by simp)]
        refine Ev.step (fun k => ?_) hj
        simp only [cubbyref21_Hear.l0]
        rw [if_pos (by omega), decide_eq_true (by omega : (i : Int) < 4)]
      · rw [h3 j hj1 (by omega)]
        split
        · rw [List.getElem?_set_ne (by omega)]
        · rfl
      · by_cases e : j = i
        · subst e
          rw [ht] at ht'
          obtain rfl := Option.some.inj ht'
          have hv := hq v' hok hl'
          simp only [Prod.mk.injEq] at hv
          obtain ⟨rfl, rfl⟩ := hv
          rw [h3 j hi (by omega), if_pos rfl, List.getElem?_set_self (by omega)]
        · exact h4 j t' v' (by omega) hj2 ht' hok hl'
    · refine ⟨ls, hl, fun r hr => ?_, fun j _ _ => rfl, fun j t v h1 h2 h3 => by
        have := (List.getElem?_eq_some_iff.1 h3).1
        omega⟩
      have h1 : Ev (fun k => cubbyref21_Hear.j1 k s ws ls i false) r := Ev.step (fun k => by simp only [cubbyref21_Hear.j1]; rw [if_neg (by simp)]) hr
      refine Ev.step (fun k => ?_) h1
      simp only [cubbyref21_Hear.l0]
      rw [if_neg (by omega)]
def kA (ls : List Int) (i : Int) : Int := if i = 1 ∨ i > 3 then rd ls 0 else 0
def kB (ls : List Int) (i : Int) : Int := if i > 3 then rd ls 1 else 0
def kC (ls : List Int) (i : Int) : Int := if i = 5 then rd ls 2 else 0
def kT (s : ByteArray) (i : Int) : ByteArray := if i = 2 ∧ 4 < s.size then s.extract 5 s.size else ⟨#[]⟩
theorem kT_le (s : ByteArray) (i : Int) (hs : s.size ≤ 4096) : (kT s i).size ≤ 5000 := by
  unfold kT; split
  · have := extract_le s 5 hs; omega
  · have := size0; omega
theorem hear_step (s : ByteArray) (hs : s.size ≤ 4096) (ls : List Int) (hl : ls.length = 3) (i : Int) (h1 : 1 ≤ i) (h5 : i ≤ 5) {r : Int × Int × Int × Int × ByteArray × Int}
    (h : Ev (fun k => if (telling (tellL i (kA ls i) (kB ls i) (kC ls i) (L (kT s i)))).2 = 0 then (if (telling (tellL i (kA ls i) (kB ls i) (kC ls i) (L (kT s i)))).1.toList = s.toList then (some (i, kA ls i, kB ls i, kC ls i, kT s i, 0)) else cubbyref21_Hear.l1 k s ls (i + 1)) else cubbyref21_Hear.l1 k s ls (i + 1)) r) :
    Ev (fun k => cubbyref21_Hear.l1 k s ls i) r := by
  have hw : wrap64 (i + 1) = i + 1 := w64 (by omega) (by omega)
  have j7 : Ev (fun k => cubbyref21_Hear.j7 k s ls i i (kA ls i) (kB ls i) 0 (kT s i)) r := by
    have hp := tell_ref i (kA ls i) (kB ls i) (kC ls i) (kT s i) (kT_le s i hs)
    refine Ev.step (f := fun k => (cubbyref21_Tell.f k i (kA ls i) (kB ls i) (kC ls i) (kT s i)).bind fun bt => if bt.2 = 0 then (if bt.1.toList = s.toList then (some (i, kA ls i, kB ls i, kC ls i, kT s i, 0)) else cubbyref21_Hear.l1 k s ls (i + 1)) else cubbyref21_Hear.l1 k s ls (i + 1)) (fun k => ?_) (Ev.bind hp h)
    simp only [cubbyref21_Hear.j7]
    by_cases hi : i = 5
    · rw [if_pos hi, if_pos (by omega), hw]
      simp only [kC, if_pos hi]
    · rw [if_neg hi, hw]
      simp only [kC, if_neg hi]
  have j6 : Ev (fun k => cubbyref21_Hear.j6 k s ls i i (kA ls i) 0 0 (kT s i)) r := by
    refine Ev.step (fun k => ?_) j7
    simp only [cubbyref21_Hear.j6]
    by_cases hi : i > 3
    · rw [if_pos hi, if_pos (by omega)]
      simp only [kB, if_pos hi]
    · rw [if_neg hi]
      simp only [kB, if_neg hi]
  have j5 : Ev (fun k => cubbyref21_Hear.j5 k s ls i (decide (i = 1 ∨ i > 3)) i 0 0 0 (kT s i)) r := by
    refine Ev.step (fun k => ?_) j6
    simp only [cubbyref21_Hear.j5]
    by_cases hi : i = 1 ∨ i > 3
    · rw [if_pos (by simpa using hi), if_pos (by omega)]
      simp only [kA, if_pos hi]
    · rw [if_neg (by simpa using hi)]
      simp only [kA, if_neg hi]
  have j4 : Ev (fun k => cubbyref21_Hear.j4 k s ls i i 0 0 0 (kT s i)) r := by
    refine Ev.step (fun k => ?_) j5
    simp only [cubbyref21_Hear.j4]
    by_cases hi : i = 1
    · rw [if_pos hi, decide_eq_true (.inl hi)]
    · rw [if_neg hi]
      congr 1
      simp [hi]
  by_cases hi : i = 2
  · have j3 : Ev (fun k => cubbyref21_Hear.j3 k s ls i (decide ((s.size : Int) > 4)) i 0 0 0 ⟨#[]⟩) r := by
      refine Ev.step (fun k => ?_) j4
      simp only [cubbyref21_Hear.j3]
      by_cases h4 : 4 < s.size
      · rw [if_pos (by simp; omega), if_pos (by omega)]
        simp only [kT, if_pos (show i = 2 ∧ 4 < s.size from ⟨hi, h4⟩)]
      · rw [if_neg (by simp; omega)]
        simp only [kT, if_neg (show ¬ (i = 2 ∧ 4 < s.size) from fun h => h4 h.2)]
    refine Ev.step (fun k => ?_) j3
    simp only [cubbyref21_Hear.l1]
    rw [if_pos h5, if_pos hi]
  · have j3 : Ev (fun k => cubbyref21_Hear.j3 k s ls i false i 0 0 0 ⟨#[]⟩) r := by
      refine Ev.step (fun k => ?_) j4
      simp only [cubbyref21_Hear.j3]
      rw [if_neg (by simp)]
      simp only [kT, if_neg (show ¬ (i = 2 ∧ 4 < s.size) from fun h => hi h.1)]
    refine Ev.step (fun k => ?_) j3
    simp only [cubbyref21_Hear.l1]
    rw [if_pos h5, if_neg hi]
theorem hear_from (s : ByteArray) (hs : s.size ≤ 4096) (ls : List Int) (hl : ls.length = 3) : ∀ (d : Nat) (i : Int), i + d = 6 → 1 ≤ i → ∃ r, Ev (fun k => cubbyref21_Hear.l1 k s ls i) r ∧
    ((r.2.2.2.2.2 = 0 ∧ ∃ k a b c t, tellL k a b c t = some (L s)) ∨ (r.2.2.2.2.2 = 210 ∧ ∀ j, i ≤ j → j ≤ 5 → tellL j (kA ls j) (kB ls j) (kC ls j) (L (kT s j)) ≠ some (L s)))
  | 0, i, hd, hi => ⟨_, Ev.step (f := fun _ => some (0, 0, 0, 0, ⟨#[]⟩, 210)) (fun k => by simp only [cubbyref21_Hear.l1]; rw [if_neg (by omega)]) (Ev.now _), .inr ⟨rfl, fun j h1 h2 => by omega⟩⟩
  | d + 1, i, hd, hi => by
    by_cases hp : tellL i (kA ls i) (kB ls i) (kC ls i) (L (kT s i)) = some (L s)
    · refine ⟨_, hear_step s hs ls hl i hi (by omega) (r := (i, kA ls i, kB ls i, kC ls i, kT s i, 0)) (Ev.congr (f := fun _ => some (i, kA ls i, kB ls i, kC ls i, kT s i, 0)) (fun k => ?_) (Ev.now _)), .inl ⟨rfl, _, _, _, _, _, hp⟩⟩
      rw [hp]
      simp [telling, toList_L]
    · obtain ⟨r, hr, hc⟩ := hear_from s hs ls hl d (i + 1) (by omega) (by omega)
      refine ⟨r, hear_step s hs ls hl i hi (by omega) (Ev.congr (fun k => ?_) hr), ?_⟩
      · split
        · rename_i hz
          obtain ⟨l, hl', hb⟩ := telling_zero hz
          rw [if_neg (fun he => hp (by rw [hl']; rw [hb, toList_L, toList_L, L_B] at he; rw [he]))]
        · rfl
      · rcases hc with h | ⟨h1, h2⟩
        · exact .inl h
        · exact .inr ⟨h1, fun j hj hj5 => by
            by_cases e : j = i
            · subst e; exact hp
            · exact h2 j (by omega) hj5⟩
theorem hear_ref (s : ByteArray) (hs : s.size ≤ 4096) : ∃ r, Ev (fun k => cubbyref21_Hear.f k s) r ∧ ((r.2.2.2.2.2 = 0 ∧ ∃ k a b c t, tellL k a b c t = some (L s)) ∨ (r.2.2.2.2.2 = 210 ∧ ∀ k a b c t, tellL k a b c t ≠ some (L s))) := by
  obtain ⟨ws, hw, hm⟩ := refWords s hs
  have hlen : ws.length ≤ 4097 := by
    have h1 := congrArg List.length hm
    rw [List.length_map] at h1
    have h2 := congrArg List.length (words_sp s)
    rw [List.length_map] at h2
    have := words_le s
    omega
  obtain ⟨ls, hl, hstep, _, hval⟩ := hear_l0 s ws hlen 3 1 [0, 0, 0] (by omega) (by omega) rfl
  obtain ⟨r, hr, hc⟩ := hear_from s hs ls hl 5 1 (by omega) (by omega)
  refine ⟨r, ?_, ?_⟩
  · unfold cubbyref21_Hear.f
    exact Ev.bind hw (hstep r hr)
  · rcases hc with h | ⟨h1, h2⟩
    · exact .inl h
    · refine .inr ⟨h1, fun k a b c t h => ?_⟩
      have hget : ∀ (j : Nat) (v : Int), 1 ≤ j → j < 4 → (ws.map L)[j]? = some (dg v) → okN v = true → rd ls ((j - 1 : Nat) : Int) = v := fun j v hj1 hj2 hj hok => by
        rw [List.getElem?_map] at hj
        cases hx : ws[j]? with
        | none => rw [hx] at hj; cases hj
        | some w =>
          rw [hx] at hj
          have := hval j w v hj1 hj2 hx hok (Option.some.inj hj)
          simp [rd, this]
      rcases tellL_form h with ⟨_, ha, h'⟩ | ⟨_, h'⟩ | ⟨_, h'⟩ | ⟨_, ha, hb, h'⟩ | ⟨_, ha, hb, hc, h'⟩
      · refine h2 1 (by omega) (by omega) ?_
        have e0 : rd ls 0 = a := hget 1 a (by omega) (by omega) (by rw [hm, h', sp_ok]; rfl) ha
        have eA : kA ls 1 = a := by unfold kA; rw [if_pos (by omega), e0]
        rw [eA, h']
        unfold tellL
        rw [if_pos rfl, ha]; rfl
      · refine h2 2 (by omega) (by omega) ?_
        have hsz : 4 < s.size := by rw [size_L, h']; simp [lCode]
        have ht : L (kT s 2) = t := by
          unfold kT
          rw [if_pos ⟨rfl, hsz⟩, L_from, h']; rfl
        rw [ht, h']; rfl
      · refine h2 3 (by omega) (by omega) ?_
        rw [h']; rfl
      · refine h2 4 (by omega) (by omega) ?_
        have e0 : rd ls 0 = a := hget 1 a (by omega) (by omega) (by rw [hm, h', sp_error]; rfl) ha
        have e1 : rd ls 1 = b := hget 2 b (by omega) (by omega) (by rw [hm, h', sp_error]; rfl) hb
        have eA : kA ls 4 = a := by unfold kA; rw [if_pos (by omega), e0]
        have eB : kB ls 4 = b := by unfold kB; rw [if_pos (by omega), e1]
        rw [eA, eB, h']
        unfold tellL
        rw [if_neg (by omega), if_neg (by omega), if_neg (by omega), if_pos rfl, ha, hb]; rfl
      · refine h2 5 (by omega) (by omega) ?_
        have e0 : rd ls 0 = a := hget 1 a (by omega) (by omega) (by rw [hm, h', sp_stats]; rfl) ha
        have e1 : rd ls 1 = b := hget 2 b (by omega) (by omega) (by rw [hm, h', sp_stats]; rfl) hb
        have e2 : rd ls 2 = c := hget 3 c (by omega) (by omega) (by rw [hm, h', sp_stats]; rfl) hc
        have eA : kA ls 5 = a := by unfold kA; rw [if_pos (by omega), e0]
        have eB : kB ls 5 = b := by unfold kB; rw [if_pos (by omega), e1]
        have eC : kC ls 5 = c := by unfold kC; rw [if_pos rfl, e2]
        rw [eA, eB, eC, h']
        unfold tellL
        rw [if_neg (by omega), if_neg (by omega), if_neg (by omega), if_neg (by omega), if_pos rfl, ha, hb, hc]; rfl

/-- THE PLAIN LAW. -/
theorem askBack_pure : cubbylaw21_AskBack.Pure := by
  intro s hbound
  refine Ev.rounds (g := fun k => cubbylaw21_AskBack.f k s) ?_
  unfold cubbylaw21_AskBack.f
  by_cases hbig : s.size > 4096
  · exact Ev.congr (f := fun _ => some true) (fun k => by rw [if_pos (by omega)]) (Ev.now _)
  · have hs : s.size ≤ 4096 := by omega
    obtain ⟨⟨pk, pn, pt, pe⟩, hp, hpc⟩ := parse_ask s hs
    obtain ⟨⟨qk, qa, qb, qc, qt, qe⟩, hq, hqc⟩ := hear_ask s hs
    obtain ⟨⟨gk, gn, gt, ge⟩, hg, hgc⟩ := parse_ref s hs
    obtain ⟨⟨hk, ha, hb, hc, ht, he⟩, hh, hhc⟩ := hear_ref s hs
    have epe : pe = ge ∧ (pe = 0 ∨ pe = 210) := by
      rcases hpc with ⟨h1, h2, _⟩ | ⟨h1, h2⟩ <;> rcases hgc with ⟨h3, k, n, t, h4⟩ | ⟨h3, h4⟩
      · simp only at h1 h3; exact ⟨by rw [h1, h3], .inl h1⟩
      · exact absurd h2 (h4 _ _ _)
      · exact absurd h4 (h2 _ _ _)
      · simp only [Prod.mk.injEq] at h1 h3; exact ⟨by rw [h1.2.2.2, h3], .inr h1.2.2.2⟩
    have eqe : qe = he ∧ (qe = 0 ∨ qe = 210) := by
      rcases hqc with ⟨h1, h2, _⟩ | ⟨h1, h2⟩ <;> rcases hhc with ⟨h3, k, a, b, c, t, h4⟩ | ⟨h3, h4⟩
      · simp only at h1 h3; exact ⟨by rw [h1, h3], .inl h1⟩
      · exact absurd h2 (h4 _ _ _ _ _)
      · exact absurd h4 (h2 _ _ _ _ _)
      · simp only [Prod.mk.injEq] at h1 h3; exact ⟨by rw [h1.2.2.2.2.2, h3], .inr h1.2.2.2.2.2⟩
    have hpsz : pn.size ≤ 4096 ∧ pt.size ≤ 4096 := by
      rcases hpc with ⟨_, _, h1, h2⟩ | ⟨h1, _⟩
      · exact ⟨h1, h2⟩
      · simp only [Prod.mk.injEq] at h1; rw [h1.2.1, h1.2.2.1]; exact ⟨size0, size0⟩
    have hqsz : qt.size ≤ 5000 := by
      rcases hqc with ⟨_, _, h1⟩ | ⟨h1, _⟩
      · simp only at h1; omega
      · simp only [Prod.mk.injEq] at h1; rw [h1.2.2.2.2.1]; have := size0; omega
    have hprint := print_ask pk pn pt hpsz.1 hpsz.2
    have htell := tell_ask qk qa qb qc qt hqsz
    have hj : Ev (fun k => cubbylaw21_AskBack.j0 k s pe qe false pk pn pt qk qa qb qc qt) true := by
      refine Ev.step (fun k => by simp only [cubbylaw21_AskBack.j0]; rw [if_neg (by simp)]) ?_
      refine Ev.bind hprint (Ev.bind htell (Ev.congr (f := fun _ => some true) (fun k => ?_) (Ev.now _)))
      have second : (if qe = 0 then (if (telling (tellL qk qa qb qc (L qt))).2 = 0 then (some ((telling (tellL qk qa qb qc (L qt))).1.toList == s.toList)) else (some false)) else (some true)) = some true := by
        rcases hqc with ⟨h1, h2, _⟩ | ⟨h1, _⟩
        · simp only at h1 h2
          rw [if_pos h1, h2]
          simp [telling, toList_L]
        · simp only [Prod.mk.injEq] at h1
          rw [if_neg (by omega)]
      rcases hpc with ⟨h1, h2, _⟩ | ⟨h1, _⟩
      · simp only at h1 h2
        rw [if_pos h1, h2]
        have e1 : (telling (some (L s))).2 = 0 := rfl
        have e2 : (telling (some (L s))).1.toList = s.toList := by simp [telling, toList_L]
        rw [if_pos e1, if_pos e2, second]
      · simp only [Prod.mk.injEq] at h1
        rw [if_neg (by omega), second]
    refine Ev.congr (fun k => by rw [if_neg (by omega)]) ?_
    refine Ev.bind hp ?_
    refine Ev.congr (fun k => by rw [hq, Option.bind_some]) ?_
    refine Ev.bind hg (Ev.bind hh ?_)
    refine Ev.congr (fun k => ?_) hj
    simp only
    rw [if_pos epe.1, ← eqe.1]
    congr 1
    simp
end Go.Proofs.YtfibkajflenekaaDoor.G
