/-
  Plain facts on lists of bytes: where a text is cut at blanks, a number's digits, a name's letters. No program in sight; no condition but those that stand in each theorem.
-/
import Derived.Test.YtfibkajflenekaaDoorSplit
import Derived.Lib.AtoiTie
import Derived.Lib.SplitLaws
namespace Go.Proofs.YtfibkajflenekaaDoor.G
set_option linter.unusedVariables false
set_option linter.unusedSimpArgs false
open Go.RowKit Go.Proofs.YtfibkajflenekaaDoorW.PrintWords Go.Proofs.YtfibkajflenekaaDoorW.PrintLast

/-- A text's bytes. -/
abbrev L (s : ByteArray) : List UInt8 := s.data.toList
/-- Bytes as a text. -/
abbrev B (l : List UInt8) : ByteArray := ⟨l.toArray⟩
theorem L_B (l : List UInt8) : L (B l) = l := by simp
theorem B_L (s : ByteArray) : B (L s) = s := rfl
theorem toList_L (s : ByteArray) : s.toList = L s := ByteArray.toList_eq s
theorem ext_L {a b : ByteArray} (h : L a = L b) : a = b := WideShapes.bytes_inj h
theorem size_L (s : ByteArray) : s.size = (L s).length := Lib.size_eq s
theorem L_append (a b : ByteArray) : L (a ++ b) = L a ++ L b := by simp [ByteArray.data_append]
theorem L_from (s : ByteArray) (a : Nat) : L (s.extract a s.size) = (L s).drop a := Lib.extract_to_end s a
theorem L_to (s : ByteArray) (b : Nat) : L (s.extract 0 b) = (L s).take b := Lib.extract_from_zero s b
theorem bt_L (s : ByteArray) (i : Nat) (h : i < s.size) : ∃ c, (L s)[i]? = some c ∧ bt s i = (c.toNat : Int) := by
  have h' : i < (L s).length := by rw [← size_L]; exact h
  refine ⟨(L s)[i], List.getElem?_eq_getElem h', ?_⟩
  unfold bt
  have : (i : Int).toNat < s.size := by simpa using h
  rw [dif_pos this]
  rfl

/-! ### cut at blanks -/
def sp : List UInt8 → List (List UInt8)
  | [] => [[]]
  | c :: l => if c = 32 then [] :: sp l else match sp l with | [] => [[c]] | a :: r => (c :: a) :: r
theorem sp_ne : ∀ l, sp l ≠ []
  | [] => by simp [sp]
  | c :: l => by
    simp only [sp]
    split
    · simp
    · split <;> simp
theorem sp_none : ∀ {l : List UInt8}, 32 ∉ l → sp l = [l]
  | [], _ => rfl
  | c :: l, h => by
    have hc : ¬ c = 32 := fun e => h (by simp [e])
    simp only [sp, if_neg hc, sp_none (fun hm => h (List.mem_cons_of_mem _ hm))]
theorem sp_hit : ∀ {a : List UInt8} (b : List UInt8), 32 ∉ a → sp (a ++ 32 :: b) = a :: sp b
  | [], b, _ => by simp [sp]
  | c :: a, b, h => by
    have hc : ¬ c = 32 := fun e => h (by simp [e])
    simp only [List.cons_append, sp, if_neg hc, sp_hit b (fun hm => h (List.mem_cons_of_mem _ hm))]
/-- Put together again. -/
def js : List (List UInt8) → List UInt8
  | [] => []
  | [a] => a
  | a :: r => a ++ 32 :: js r
theorem js_cons (a : List UInt8) {r : List (List UInt8)} (h : r ≠ []) : js (a :: r) = a ++ 32 :: js r := by cases r <;> simp_all [js]
theorem js_sp : ∀ l, js (sp l) = l
  | [] => rfl
  | c :: l => by
    have ih := js_sp l
    simp only [sp]
    split
    · rename_i h
      subst h
      rw [js_cons _ (sp_ne l), ih]; rfl
    · cases hs : sp l with
      | nil => exact absurd hs (sp_ne l)
      | cons a r =>
        simp only
        rw [hs] at ih
        cases r with
        | nil => simp only [js] at ih ⊢; rw [ih]
        | cons b r => rw [js_cons _ (by simp)] at ih ⊢; simp [ih]
theorem sp_mem : ∀ {l a : List UInt8}, a ∈ sp l → 32 ∉ a
  | [], a, h => by simp [sp] at h; simp [h]
  | c :: l, a, h => by
    simp only [sp] at h
    split at h
    · rcases List.mem_cons.1 h with rfl | h
      · simp
      · exact sp_mem h
    · rename_i hc
      cases hs : sp l with
      | nil => exact absurd hs (sp_ne l)
      | cons b r =>
        rw [hs] at h
        simp only at h
        rcases List.mem_cons.1 h with rfl | h
        · intro hm
          rcases List.mem_cons.1 hm with e | hm
          · exact hc e.symm
          · exact sp_mem (l := l) (a := b) (by simp [hs]) hm
        · exact sp_mem (l := l) (a := a) (by simp [hs, h])

theorem index32 (l : List UInt8) : (Lib.index l [32] = -1 ∧ 32 ∉ l) ∨ ∃ i : Nat, Lib.index l [32] = i ∧ l = l.take i ++ 32 :: l.drop (i + 1) ∧ 32 ∉ l.take i ∧ i < l.length := by
  have h0 := Lib.index_one l 32
  rcases Int.lt_or_le (Lib.indexByte l 32) 0 with hlt | hge
  · have := Lib.indexByte_ge l 32
    have e : Lib.indexByte l 32 = -1 := by omega
    refine .inl ⟨by rw [h0, e], fun hm => ?_⟩
    obtain ⟨k, hk⟩ := List.mem_iff_getElem?.1 hm
    exact Lib.indexByte_none e k hk
  · obtain ⟨i, hi⟩ := Int.eq_ofNat_of_zero_le hge
    obtain ⟨h1, h2⟩ := Lib.indexByte_some hi
    obtain ⟨hl, hv⟩ := List.getElem?_eq_some_iff.1 h1
    refine .inr ⟨i, by rw [h0, hi], ?_, fun hm => ?_, hl⟩
    · conv => lhs; rw [← List.take_append_drop i l, List.drop_eq_getElem_cons hl, hv]
    · obtain ⟨k, hk⟩ := List.mem_iff_getElem?.1 hm
      have hk' : k < i := by
        have := (List.getElem?_eq_some_iff.1 hk).1
        simp at this; omega
      rw [List.getElem?_take_of_lt hk'] at hk
      exact h2 k hk' hk

theorem splitK_sp : ∀ (k : Nat) (l : List UInt8), l.count 32 ≤ k → Lib.splitK [32] 0 k l = sp l
  | 0, l, h => by
    have : 32 ∉ l := by rw [← List.count_eq_zero]; omega
    rw [sp_none this]; rfl
  | k + 1, l, h => by
    simp only [Lib.splitK]
    rcases index32 l with ⟨hi, hn⟩ | ⟨i, hi, hl, hn, hlt⟩
    · rw [hi, if_pos (by rfl), sp_none hn]
    · rw [hi, if_neg (by simp)]
      have hc : (l.drop (i + 1)).count 32 ≤ k := by
        have hcnt := congrArg (List.count 32) hl
        rw [List.count_append, List.count_cons_self] at hcnt
        omega
      conv => rhs; rw [hl, sp_hit _ hn]
      simp only [Int.toNat_natCast, Nat.add_zero, List.length_singleton]
      rw [splitK_sp k _ hc]
theorem words_sp (s : ByteArray) : (words s).map L = sp (L s) := by
  unfold words
  have h := Lib.splitB_data ⟨#[32]⟩ 0 (Lib.countB s ⟨#[32]⟩) s
  refine h.trans ?_
  refine splitK_sp _ _ ?_
  show List.count 32 (L s) ≤ Lib.count (L s) [32]
  rw [Lib.count_one]
  exact Nat.le_refl _

theorem cut_none {s : ByteArray} (h : 32 ∉ L s) : Lib.cut (L s) [32] = (L s, [], false) := by
  rcases index32 (L s) with ⟨hi, hn⟩ | ⟨i, hi, hl, hn, hlt⟩
  · unfold Lib.cut; rw [hi, if_neg (by omega)]
  · exact absurd (by rw [hl]; simp) h
theorem cut_hit {a b : List UInt8} (h : 32 ∉ a) : Lib.cut (a ++ 32 :: b) [32] = (a, b, true) := by
  rcases index32 (a ++ 32 :: b) with ⟨hi, hn⟩ | ⟨i, hi, hl, hn, hlt⟩
  · exact absurd (by simp) hn
  · have h1 := sp_hit b h
    rw [hl, sp_hit _ hn] at h1
    injection h1 with h1 h2
    have ha : i = a.length := by
      have := congrArg List.length h1
      simp at this; simp at hlt; omega
    subst ha
    unfold Lib.cut; rw [hi, if_pos (by omega)]
    simp
theorem cut_cases (l : List UInt8) : (32 ∉ l ∧ Lib.cut l [32] = (l, [], false)) ∨ ∃ a b, 32 ∉ a ∧ l = a ++ 32 :: b ∧ Lib.cut l [32] = (a, b, true) := by
  rcases index32 l with ⟨hi, hn⟩ | ⟨i, hi, hl, hn, hlt⟩
  · exact .inl ⟨hn, cut_none (s := B l) (by simpa using hn)|> fun h => by simpa using h⟩
  · refine .inr ⟨_, _, hn, hl, ?_⟩
    have := cut_hit (b := l.drop (i + 1)) hn
    rw [← hl] at this
    exact this

/-! ### digits -/
theorem dec_small {n : Nat} (h : n < 10) : Lib.decDigits n = [UInt8.ofNat (48 + n)] := Lib.decDigits_one h
theorem dec_big {n : Nat} (h : ¬ n < 10) : Lib.decDigits n = Lib.decDigits (n / 10) ++ [UInt8.ofNat (48 + n % 10)] := by rw [Lib.decDigits, dif_neg h]
theorem dec_range : ∀ (n : Nat), ∀ c ∈ Lib.decDigits n, 48 ≤ c.toNat ∧ c.toNat ≤ 57 := by
  intro n
  induction n using Nat.strongRecOn with
  | _ n ih =>
    intro c hc
    by_cases h : n < 10
    · rw [dec_small h] at hc
      simp at hc; subst hc
      have : (48 + n) % 256 = 48 + n := by omega
      simp [UInt8.toNat_ofNat', this]; omega
    · rw [dec_big h] at hc
      rcases List.mem_append.1 hc with hc | hc
      · exact ih (n / 10) (by omega) c hc
      · simp at hc; subst hc
        have : (48 + n % 10) % 256 = 48 + n % 10 := by omega
        simp [UInt8.toNat_ofNat', this]; omega
theorem dec_no32 (n : Nat) : (32 : UInt8) ∉ Lib.decDigits n := fun h => by
  have := dec_range n 32 h
  simp at this
theorem dec_ne (n : Nat) : Lib.decDigits n ≠ [] := by
  by_cases h : n < 10
  · rw [dec_small h]; simp
  · rw [dec_big h]; simp
theorem dec_len : ∀ (k n : Nat), n < 10 ^ (k + 1) → (Lib.decDigits n).length ≤ k + 1
  | 0, n, h => by rw [dec_small (by omega)]; simp
  | k + 1, n, h => by
    by_cases h10 : n < 10
    · rw [dec_small h10]; simp
    · rw [dec_big h10]
      have := dec_len k (n / 10) (by rw [Nat.pow_succ] at h; omega)
      simp; omega
theorem decFrom_append : ∀ (l r : List UInt8) (acc : Nat), Lib.decFrom acc (l ++ r) = (Lib.decFrom acc l).bind fun a => Lib.decFrom a r
  | [], r, acc => rfl
  | c :: l, r, acc => by
    simp only [List.cons_append, Lib.decFrom]
    cases Lib.digitVal c with
    | none => rfl
    | some d => exact decFrom_append l r _
theorem digitVal_dec (d : Nat) (h : d < 10) : Lib.digitVal (UInt8.ofNat (48 + d)) = some d := by
  have e : (48 + d) % 256 = 48 + d := by omega
  unfold Lib.digitVal
  simp only [UInt8.toNat_ofNat', e, Nat.reducePow]
  rw [if_pos (by omega)]
  simp
theorem decFrom_dec (n : Nat) : Lib.decFrom 0 (Lib.decDigits n) = some n := by
  induction n using Nat.strongRecOn with
  | _ n ih =>
    by_cases h : n < 10
    · rw [dec_small h]
      simp only [Lib.decFrom, digitVal_dec n h]
      simp
    · rw [dec_big h, decFrom_append, ih (n / 10) (by omega)]
      simp only [Option.bind_some, Lib.decFrom, digitVal_dec (n % 10) (Nat.mod_lt _ (by omega))]
      congr 1; omega
theorem decNat_dec (n : Nat) : Lib.decNat (Lib.decDigits n) = some n := by
  unfold Lib.decNat
  rw [if_neg (by simpa using dec_ne n)]
  exact decFrom_dec n
theorem atoi_dec (n : Nat) (h : n < 10 ^ 17) : Lib.atoiAll (Lib.decDigits n) = .ok n := by
  have hl := dec_len 16 n h
  rw [Lib.atoiAll_short _ (by omega)]
  have h1 : Lib.atoi (Lib.decDigits n) = some (n : Int) := by
    have hd := decNat_dec n
    cases hs : Lib.decDigits n with
    | nil => exact absurd hs (dec_ne n)
    | cons b r =>
      have hb := dec_range n b (by rw [hs]; simp)
      have h45 : (b == 45) = false := by
        rw [beq_eq_false_iff_ne]; rintro rfl; simp at hb
      have h43 : (b == 43) = false := by
        rw [beq_eq_false_iff_ne]; rintro rfl; simp at hb
      rw [hs] at hd
      simp [Lib.atoi, h45, h43, hd]
  rw [h1]; rfl
/-- A word is a number just if it is that number's digits. -/
theorem num_iff (t : ByteArray) (v : Int) : num t = some v ↔ ∃ n : Nat, v = n ∧ n < 2147483648 ∧ L t = Lib.decDigits n := by
  constructor
  · intro h
    unfold num at h
    split at h
    · rename_i u hu
      split at h
      · rename_i hc
        obtain rfl := Option.some.inj h
        obtain ⟨h0, h1, h2⟩ := hc
        refine ⟨u.toNat, by omega, by omega, ?_⟩
        rw [show L t = t.data.toList from rfl, ← h2]
        unfold Lib.itoa
        rw [if_neg (by omega)]
      · cases h
    · cases h
  · rintro ⟨n, rfl, hn, hl⟩
    unfold num
    have : Lib.atoiAll t.data.toList = .ok n := by rw [show t.data.toList = _ from hl]; exact atoi_dec n (by omega)
    rw [this]
    simp only
    rw [if_pos ⟨by omega, by omega, by rw [show t.data.toList = _ from hl]; unfold Lib.itoa; rw [if_neg (by omega)]; simp⟩]
end Go.Proofs.YtfibkajflenekaaDoor.G
