/-
  Names: what the program's and the reference's tests come to; the forms of a line. No program in sight: the printed functions alone; no condition but those that stand in each theorem.
-/
import Derived.Test.YtfibkajflenekaaDoorBytesT
import Derived.Test.YtfibkajflenekaaDoorPTxx2
import Derived.Test.YtfibkajflenekaaDoorPTxx5
import Derived.Test.YtfibkajflenekaaDoorSteps
namespace Go.Proofs.YtfibkajflenekaaDoor.G
set_option linter.unusedVariables false
set_option linter.unusedSimpArgs false
open Go.RowKit Go.Proofs.YtfibkajflenekaaDoorW.PrintWords Go.Proofs.YtfibkajflenekaaDoorW.PrintLast Go.Proofs.YtfibkajflenekaaDoor.PTx

theorem w64 {i : Int} (h0 : -9223372036854775808 ≤ i) (h : i ≤ 9223372036854775807) : wrap64 i = i := by unfold wrap64; omega

/-! ### names -/
def alnum (c : UInt8) : Bool := decide (97 ≤ c.toNat ∧ c.toNat ≤ 122 ∨ 48 ≤ c.toNat ∧ c.toNat ≤ 57)
def isName : List UInt8 → Bool
  | [] => false
  | c :: l => decide ((c :: l).length ≤ 12) && decide (97 ≤ c.toNat) && alnum c && l.all alnum
def letters : List UInt8 := [97, 98, 99, 100, 101, 102, 103, 104, 105, 106, 107, 108, 109, 110, 111, 112, 113, 114, 115, 116, 117, 118, 119, 120, 121, 122, 48, 49, 50, 51, 52, 53, 54, 55, 56, 57]
theorem letters_alnum : ∀ c : UInt8, letters.contains c = alnum c := by
  intro c
  have : ∀ n : Fin 256, letters.contains (UInt8.ofNat n.val) = alnum (UInt8.ofNat n.val) := by decide +kernel
  have h := this ⟨c.toNat, c.toNat_lt⟩
  simpa using h
theorem dropWhile_nil {p : UInt8 → Bool} : ∀ {l : List UInt8}, l.dropWhile p = [] ↔ l.all p = true
  | [] => by simp
  | c :: l => by
    simp only [List.dropWhile_cons, List.all_cons]
    cases h : p c with
    | true => simp [dropWhile_nil]
    | false => simp
theorem trim_nil (l cs : List UInt8) : Lib.trimS l cs = [] ↔ l.all (cs.contains ·) = true := by
  unfold Lib.trimS Lib.trimLeftS Lib.trimRightS
  rw [dropWhile_nil, List.all_reverse]
  constructor
  · intro h
    by_cases ha : l.all (cs.contains ·) = true
    · exact ha
    · -- the last one that is none stays
      exfalso
      have hne : l.reverse.dropWhile (cs.contains ·) ≠ [] := fun e => ha (by rw [dropWhile_nil, List.all_reverse] at e; exact e)
      have hh := List.head_dropWhile_not (cs.contains ·) hne
      have := List.all_eq_true.1 h _ (List.head_mem hne)
      rw [hh] at this; cases this
  · intro h
    rw [List.all_eq_true] at h ⊢
    intro x hx
    have : x ∈ l.reverse := (List.dropWhile_sublist _).subset hx
    exact h x (by simpa using this)

theorem irName (s : ByteArray) : ir_Name.f s = some (isName (L s)) := by
  unfold ir_Name.f
  rw [toList_L]
  cases hl : L s with
  | nil => rw [if_pos rfl]; rfl
  | cons c l =>
    have hsz : s.size = l.length + 1 := by rw [size_L, hl]; rfl
    rw [if_neg (by simp)]
    by_cases h12 : l.length + 1 ≤ 12
    · rw [if_neg (by omega), if_pos (by omega)]
      obtain ⟨c', hc, hb⟩ := bt_L s 0 (by omega)
      rw [hl] at hc
      obtain rfl : c = c' := by simpa using hc
      rw [show bt s 0 = (c.toNat : Int) from hb]
      by_cases ha : 97 ≤ c.toNat
      · rw [if_neg (by omega)]
        have ht : strings_Trim.f s ⟨#[97, 98, 99, 100, 101, 102, 103, 104, 105, 106, 107, 108, 109, 110, 111, 112, 113, 114, 115, 116, 117, 118, 119, 120, 121, 122, 48, 49, 50, 51, 52, 53, 54, 55, 56, 57]⟩ = some (B (Lib.trimS (L s) letters)) := by
          unfold strings_Trim.f
          rw [if_pos ⟨by omega, by decide, by decide⟩]; rfl
        rw [ht, Option.bind_some, toList_L, L_B]
        congr 1
        have hiff := trim_nil (L s) letters
        rw [Bool.eq_iff_iff, beq_iff_eq, hiff, hl]
        simp only [isName, List.all_cons, Bool.and_eq_true, decide_eq_true_eq, List.length_cons, h12, ha, true_and]
        simp only [letters_alnum]
      · rw [if_pos (by omega)]
        simp [isName, ha]
    · rw [if_pos (by omega)]
      simp [isName, h12]

theorem refName_from (s : ByteArray) (hs : s.size ≤ 4096) : ∀ (d i : Nat), i + d = s.size → 1 ≤ i → Ev (fun k => cubbyref07_Name.l0 k s i) (((L s).drop i).all alnum)
  | 0, i, hd, hi => by
    refine Ev.step (f := fun _ => some true) (fun k => ?_) ?_
    · simp only [cubbyref07_Name.l0]; rw [if_neg (by omega)]
    · rw [List.drop_eq_nil_of_le (by rw [← size_L]; omega)]
      exact Ev.now _
  | d + 1, i, hd, hi => by
    obtain ⟨c, hc, hb⟩ := bt_L s i (by omega)
    obtain ⟨hlt, hcv⟩ := List.getElem?_eq_some_iff.1 hc
    have ih := refName_from s hs d (i + 1) (by omega) (by omega)
    rw [List.drop_eq_getElem_cons hlt, List.all_cons, hcv]
    have hw : wrap64 ((i : Int) + 1) = ((i + 1 : Nat) : Int) := by rw [w64 (by omega) (by omega)]; omega
    cases ha : alnum c with
    | true =>
      simp only [Bool.true_and]
      refine Ev.step (fun k => ?_) ih
      simp only [cubbyref07_Name.l0]
      rw [if_pos (by omega), if_pos (by omega), hb, hw]
      have ha := of_decide_eq_true ha
      repeat' split
      all_goals first | rfl | omega
    | false =>
      simp only [Bool.false_and]
      refine Ev.step (f := fun _ => some false) (fun k => ?_) (Ev.now _)
      simp only [cubbyref07_Name.l0]
      rw [if_pos (by omega), if_pos (by omega), hb, hw]
      have ha := of_decide_eq_false ha
      repeat' split
      all_goals first | rfl | omega
theorem refName (s : ByteArray) (hs : s.size ≤ 4096) : Ev (fun k => cubbyref07_Name.f k s) (isName (L s)) := by
  unfold cubbyref07_Name.f
  cases hl : L s with
  | nil =>
    have hsz : s.size = 0 := by rw [size_L, hl]; rfl
    refine Ev.congr (f := fun k => cubbyref07_Name.j0 k s true) (fun k => by rw [if_pos (by omega)]) ?_
    exact Ev.step (f := fun _ => some false) (fun k => by simp [cubbyref07_Name.j0]) (Ev.now _)
  | cons c l =>
    have hsz : s.size = l.length + 1 := by rw [size_L, hl]; rfl
    refine Ev.congr (f := fun k => cubbyref07_Name.j0 k s (decide ((s.size : Int) > 12))) (fun k => by rw [if_neg (by omega)]) ?_
    by_cases h12 : l.length + 1 ≤ 12
    · refine Ev.step (f := fun k => cubbyref07_Name.l0 k s 0) (fun k => by simp only [cubbyref07_Name.j0]; rw [if_neg (by simp; omega)]) ?_
      obtain ⟨c', hc, hb⟩ := bt_L s 0 (by omega)
      rw [hl] at hc
      obtain rfl : c = c' := by simpa using hc
      have hw : wrap64 ((0 : Int) + 1) = ((1 : Nat) : Int) := by rw [w64 (by omega) (by omega)]; rfl
      have hb : bt s 0 = (c.toNat : Int) := hb
      by_cases ha : 97 ≤ c.toNat ∧ alnum c = true
      · have ih := refName_from s hs l.length 1 (by omega) (by omega)
        have hv : isName (c :: l) = ((L s).drop 1).all alnum := by
          rw [hl]; simp [isName, h12, ha.1, ha.2]
        rw [hv]
        refine Ev.step (fun k => ?_) ih
        simp only [cubbyref07_Name.l0]
        rw [if_pos (by omega), if_pos (by omega), hb, hw]
        have hq := of_decide_eq_true ha.2
        repeat' split
        all_goals first | rfl | omega
      · have hv : isName (c :: l) = false := by
          simp only [isName]
          by_cases h1 : 97 ≤ c.toNat
          · simp only [h1, true_and] at ha
            simp [ha]
          · simp [h1]
        rw [hv]
        refine Ev.step (f := fun _ => some false) (fun k => ?_) (Ev.now _)
        simp only [cubbyref07_Name.l0]
        rw [if_pos (by omega), if_pos (by omega), hb, hw]
        have hq : ¬ (97 ≤ c.toNat ∧ c.toNat ≤ 122) := fun h => ha ⟨h.1, by unfold alnum; exact decide_eq_true (.inl h)⟩
        repeat' split
        all_goals first | rfl | omega | (exfalso; simp_all; done)
    · refine Ev.step (f := fun _ => some false) (fun k => by simp only [cubbyref07_Name.j0]; rw [if_pos (by simp; omega)]) ?_
      have : isName (c :: l) = false := by simp [isName, h12]
      rw [this]; exact Ev.now _


/-! ### the forms of a line -/
def wd : Nat → List UInt8
  | 1 => [99, 111, 110, 115, 116] | 2 => [99, 111, 112, 121] | 3 => [97, 100, 100] | 4 => [115, 117, 98] | 5 => [109, 117, 108] | 6 => [108, 101, 115, 115] | 7 => [100, 105, 118]
  | 8 => [108, 111, 97, 100] | 9 => [115, 116, 111, 114, 101] | 10 => [111, 117, 116] | 11 => [99, 97, 108, 108] | 12 => [106, 117, 109, 112] | 13 => [98, 114, 97, 110, 99, 104] | 14 => [114, 101, 116]
  | 21 => [102, 101, 116, 99, 104] | 22 => [115, 97, 118, 101] | _ => []
/-- An instruction's number, by its word. -/
def opOf (code : Bool) (t : List UInt8) : Option Nat :=
  if t = wd 1 then some 1 else if t = wd 2 then some 2 else if t = wd 3 then some 3 else if t = wd 4 then some 4 else if t = wd 5 then some 5 else if t = wd 6 then some 6 else if t = wd 7 then some 7 else
  if t = wd 8 then some 8 else if t = wd 9 then some 9 else if t = wd 10 then some 10 else if t = wd 11 then some 11 else if t = wd 12 then some 12 else if t = wd 13 then some 13 else if t = wd 14 then some 14 else
  if code = true ∧ t = wd 21 then some 21 else if code = true ∧ t = wd 22 then some 22 else none
/-- Its fields. -/
def fd (code : Bool) : Nat → List UInt8
  | 1 => [68, 65] | 2 => [68, 65] | 3 => [68, 65, 66] | 4 => [68, 65, 66] | 5 => [68, 65, 66] | 6 => [68, 65, 66] | 7 => [68, 65, 66] | 8 => [68, 65] | 9 => [65, 66] | 10 => [65]
  | 11 => if code then [68, 78, 65] else [68, 78, 76] | 12 => [65] | 13 => [65, 66, 68] | 14 => [65] | 21 => [68, 65] | 22 => [68, 65] | _ => []
def fo (code : Bool) (t : ByteArray) : FormT :=
  match opOf code (L t) with
  | some o => ((o : Int), B (wd o), B (fd code o), true)
  | none => (0, ⟨#[]⟩, ⟨#[]⟩, false)
theorem opOf_spec {code : Bool} {t : List UInt8} {o : Nat} (h : opOf code t = some o) : t = wd o ∧ (o ∈ [1, 2, 3, 4, 5, 6, 7, 8, 9, 10, 11, 12, 13, 14] ∨ code = true ∧ o ∈ [21, 22]) := by
  unfold opOf at h
  by_cases h1 : t = wd 1
  · rw [if_pos h1] at h; injection h with h; subst h; exact ⟨h1, .inl (by decide)⟩
  rw [if_neg h1] at h
  by_cases h2 : t = wd 2
  · rw [if_pos h2] at h; injection h with h; subst h; exact ⟨h2, .inl (by decide)⟩
  rw [if_neg h2] at h
  by_cases h3 : t = wd 3
  · rw [if_pos h3] at h; injection h with h; subst h; exact ⟨h3, .inl (by decide)⟩
  rw [if_neg h3] at h
  by_cases h4 : t = wd 4
  · rw [if_pos h4] at h; injection h with h; subst h; exact ⟨h4, .inl (by decide)⟩
  rw [if_neg h4] at h
  by_cases h5 : t = wd 5
  · rw [if_pos h5] at h; injection h with h; subst h; exact ⟨h5, .inl (by decide)⟩
  rw [if_neg h5] at h
  by_cases h6 : t = wd 6
  · rw [if_pos h6] at h; injection h with h; subst h; exact ⟨h6, .inl (by decide)⟩
  rw [if_neg h6] at h
  by_cases h7 : t = wd 7
  · rw [if_pos h7] at h; injection h with h; subst h; exact ⟨h7, .inl (by decide)⟩
  rw [if_neg h7] at h
  by_cases h8 : t = wd 8
  · rw [if_pos h8] at h; injection h with h; subst h; exact ⟨h8, .inl (by decide)⟩
  rw [if_neg h8] at h
  by_cases h9 : t = wd 9
  · rw [if_pos h9] at h; injection h with h; subst h; exact ⟨h9, .inl (by decide)⟩
  rw [if_neg h9] at h
  by_cases h10 : t = wd 10
  · rw [if_pos h10] at h; injection h with h; subst h; exact ⟨h10, .inl (by decide)⟩
  rw [if_neg h10] at h
  by_cases h11 : t = wd 11
  · rw [if_pos h11] at h; injection h with h; subst h; exact ⟨h11, .inl (by decide)⟩
  rw [if_neg h11] at h
  by_cases h12 : t = wd 12
  · rw [if_pos h12] at h; injection h with h; subst h; exact ⟨h12, .inl (by decide)⟩
  rw [if_neg h12] at h
  by_cases h13 : t = wd 13
  · rw [if_pos h13] at h; injection h with h; subst h; exact ⟨h13, .inl (by decide)⟩
  rw [if_neg h13] at h
  by_cases h14 : t = wd 14
  · rw [if_pos h14] at h; injection h with h; subst h; exact ⟨h14, .inl (by decide)⟩
  rw [if_neg h14] at h
  by_cases h21 : code = true ∧ t = wd 21
  · rw [if_pos h21] at h; injection h with h; subst h; exact ⟨h21.2, .inr ⟨h21.1, by decide⟩⟩
  rw [if_neg h21] at h
  by_cases h22 : code = true ∧ t = wd 22
  · rw [if_pos h22] at h; injection h with h; subst h; exact ⟨h22.2, .inr ⟨h22.1, by decide⟩⟩
  rw [if_neg h22] at h
  cases h
theorem opOf_none {code : Bool} {t : List UInt8} (h : opOf code t = none) : (∀ o ∈ [1, 2, 3, 4, 5, 6, 7, 8, 9, 10, 11, 12, 13, 14], t ≠ wd o) ∧ (code = true → ∀ o ∈ [21, 22], t ≠ wd o) := by
  unfold opOf at h
  by_cases h1 : t = wd 1
  · rw [if_pos h1] at h; cases h
  rw [if_neg h1] at h
  by_cases h2 : t = wd 2
  · rw [if_pos h2] at h; cases h
  rw [if_neg h2] at h
  by_cases h3 : t = wd 3
  · rw [if_pos h3] at h; cases h
  rw [if_neg h3] at h
  by_cases h4 : t = wd 4
  · rw [if_pos h4] at h; cases h
  rw [if_neg h4] at h
  by_cases h5 : t = wd 5
  · rw [if_pos h5] at h; cases h
  rw [if_neg h5] at h
  by_cases h6 : t = wd 6
  · rw [if_pos h6] at h; cases h
  rw [if_neg h6] at h
  by_cases h7 : t = wd 7
  · rw [if_pos h7] at h; cases h
  rw [if_neg h7] at h
  by_cases h8 : t = wd 8
  · rw [if_pos h8] at h; cases h
  rw [if_neg h8] at h
  by_cases h9 : t = wd 9
  · rw [if_pos h9] at h; cases h
  rw [if_neg h9] at h
  by_cases h10 : t = wd 10
  · rw [if_pos h10] at h; cases h
  rw [if_neg h10] at h
  by_cases h11 : t = wd 11
  · rw [if_pos h11] at h; cases h
  rw [if_neg h11] at h
  by_cases h12 : t = wd 12
  · rw [if_pos h12] at h; cases h
  rw [if_neg h12] at h
  by_cases h13 : t = wd 13
  · rw [if_pos h13] at h; cases h
  rw [if_neg h13] at h
  by_cases h14 : t = wd 14
  · rw [if_pos h14] at h; cases h
  rw [if_neg h14] at h
  by_cases h21 : code = true ∧ t = wd 21
  · rw [if_pos h21] at h; cases h
  rw [if_neg h21] at h
  by_cases h22 : code = true ∧ t = wd 22
  · rw [if_pos h22] at h; cases h
  rw [if_neg h22] at h
  refine ⟨fun o ho => ?_, fun hc o ho => ?_⟩
  · simp only [List.mem_cons, List.not_mem_nil, or_false] at ho
    rcases ho with rfl | rfl | rfl | rfl | rfl | rfl | rfl | rfl | rfl | rfl | rfl | rfl | rfl | rfl
    · exact h1
    · exact h2
    · exact h3
    · exact h4
    · exact h5
    · exact h6
    · exact h7
    · exact h8
    · exact h9
    · exact h10
    · exact h11
    · exact h12
    · exact h13
    · exact h14
  · simp only [List.mem_cons, List.not_mem_nil, or_false] at ho
    rcases ho with rfl | rfl
    · exact fun e => h21 ⟨hc, e⟩
    · exact fun e => h22 ⟨hc, e⟩
theorem fo_some {code : Bool} {t : ByteArray} {o : Nat} (h : opOf code (L t) = some o) : fo code t = ((o : Int), B (wd o), B (fd code o), true) := by unfold fo; rw [h]
theorem fo_none {code : Bool} {t : ByteArray} (h : opOf code (L t) = none) : fo code t = (0, ⟨#[]⟩, ⟨#[]⟩, false) := by unfold fo; rw [h]
theorem op_mem {code : Bool} {o : Nat} (h : o ∈ [1, 2, 3, 4, 5, 6, 7, 8, 9, 10, 11, 12, 13, 14] ∨ code = true ∧ o ∈ [21, 22]) : o ∈ [1, 2, 3, 4, 5, 6, 7, 8, 9, 10, 11, 12, 13, 14, 21, 22] := by
  rcases h with h | ⟨_, h⟩
  · simp only [List.mem_cons, List.not_mem_nil, or_false] at h ⊢
    omega
  · simp only [List.mem_cons, List.not_mem_nil, or_false] at h ⊢
    omega
theorem fo_form (code : Bool) (t : ByteArray) : (fo code t).2.2.1.size < 1000 ∧ ((fo code t).2.2.2 = true → (∀ c ∈ (fo code t).2.2.1.data.toList, c = 68 ∨ c = 65 ∨ c = 66 ∨ c = 78 ∨ c = 76) ∧ need (fo code t).2.2.1.data.toList = (if Lib.hasSuffix (fo code t).2.2.1.data.toList [76] = true then (fo code t).2.2.1.size - 1 else (fo code t).2.2.1.size) ∧ 1 ≤ need (fo code t).2.2.1.data.toList) := by
  cases h : opOf code (L t) with
  | none => rw [fo_none h]; exact ⟨by decide, fun h => by cases h⟩
  | some o =>
    rw [fo_some h]
    have key : ∀ o ∈ [1, 2, 3, 4, 5, 6, 7, 8, 9, 10, 11, 12, 13, 14, 21, 22], ∀ code : Bool, (B (fd code o)).size < 1000 ∧ ((∀ c ∈ (B (fd code o)).data.toList, c = 68 ∨ c = 65 ∨ c = 66 ∨ c = 78 ∨ c = 76) ∧ need (B (fd code o)).data.toList = (if Lib.hasSuffix (B (fd code o)).data.toList [76] = true then (B (fd code o)).size - 1 else (B (fd code o)).size) ∧ 1 ≤ need (B (fd code o)).data.toList) := by decide +kernel
    have := key o (op_mem (opOf_spec h).2) code
    exact ⟨this.1, fun _ => this.2⟩
def ofT (n : Nat) (code : Bool) : FormT := if n ∈ [1, 2, 3, 4, 5, 6, 7, 8, 9, 10, 11, 12, 13, 14] then ((n : Int), B (wd n), B (fd code n), true) else if n ∈ [21, 22] then ((n : Int), B (wd n), B (fd code n), code) else (0, ⟨#[]⟩, ⟨#[]⟩, false)
theorem of_ofT : ∀ n : Fin 23, ∀ code : Bool, text_of.f (n.val : Int) code = some (ofT n.val code) := by decide +kernel
theorem by_none {code : Bool} {t : ByteArray} (h : opOf code (L t) = none) : ∀ (d n j : Nat), n + d = 23 → text_by.l0 (d + 1 + j) t code (n : Int) = some (0, ⟨#[]⟩, ⟨#[]⟩, false)
  | 0, n, j, hd => by
    rw [show 0 + 1 + j = j + 1 by omega]
    simp only [text_by.l0]
    rw [if_neg (by omega)]
  | d + 1, n, j, hd => by
    have ih := by_none h d (n + 1) j (by omega)
    rw [show d + 1 + 1 + j = (d + 1 + j) + 1 by omega]
    simp only [text_by.l0]
    rw [if_pos (by omega), of_ofT ⟨n, by omega⟩ code, Option.bind_some]
    have hw : wrap64 ((n : Int) + 1) = ((n + 1 : Nat) : Int) := by rw [w64 (by omega) (by omega)]; omega
    rw [hw]
    obtain ⟨h1, h2⟩ := opOf_none h
    show (if (ofT n code).2.2.2 = true then (if (ofT n code).2.1.toList = t.toList then _ else _) else _) = _
    by_cases hi : (ofT n code).2.2.2 = true
    · rw [if_pos hi, if_neg ?_, ih]
      unfold ofT at hi ⊢
      rw [toList_L, toList_L]
      by_cases ha : n ∈ [1, 2, 3, 4, 5, 6, 7, 8, 9, 10, 11, 12, 13, 14]
      · rw [if_pos ha]
        exact fun e => h1 n ha (by rw [← e, L_B])
      · rw [if_neg ha] at hi ⊢
        by_cases hb : n ∈ [21, 22]
        · rw [if_pos hb] at hi ⊢
          exact fun e => h2 hi n hb (by rw [← e, L_B])
        · rw [if_neg hb] at hi
          cases hi
    · rw [if_neg hi, ih]
theorem by_fo (code : Bool) (t : ByteArray) : text_by.f 40 t code = some ((fo code t).1, (fo code t).2.1, (fo code t).2.2.1, (fo code t).2.2.2) := by
  cases h : opOf code (L t) with
  | none => rw [fo_none h]; exact by_none h 23 0 16 rfl
  | some o =>
    rw [fo_some h]
    obtain ⟨h1, h2⟩ := opOf_spec h
    obtain rfl : t = B (wd o) := ext_L (by rw [h1, L_B])
    rcases h2 with h2 | ⟨rfl, h2⟩
    · have key : ∀ o ∈ [1, 2, 3, 4, 5, 6, 7, 8, 9, 10, 11, 12, 13, 14], ∀ code : Bool, text_by.f 40 (B (wd o)) code = some ((o : Int), B (wd o), B (fd code o), true) := by decide +kernel
      exact key o h2 code
    · have key : ∀ o ∈ [21, 22], text_by.f 40 (B (wd o)) true = some ((o : Int), B (wd o), B (fd true o), true) := by decide +kernel
      exact key o h2
theorem formOk (code : Bool) (t : ByteArray) : FormOk code t (fo code t) := ⟨⟨40, by_fo code t⟩, (fo_form code t).1, (fo_form code t).2⟩
theorem nameOk (t : ByteArray) : ir_Name.f t = some (isName (L t)) := irName t
end Go.Proofs.YtfibkajflenekaaDoor.G
