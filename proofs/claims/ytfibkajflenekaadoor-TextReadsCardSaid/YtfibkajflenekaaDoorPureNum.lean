/-
  The words and the numbers of a line: what the reference reads is what the program reads. No program in sight: the printed functions alone; texts of at most 4096 bytes.
-/
import Derived.Test.YtfibkajflenekaaDoorNames
namespace Go.Proofs.YtfibkajflenekaaDoor.G
set_option linter.unusedVariables false
set_option linter.unusedSimpArgs false
open Go.RowKit Go.Proofs.YtfibkajflenekaaDoorW.PrintWords Go.Proofs.YtfibkajflenekaaDoorW.PrintLast Go.Proofs.YtfibkajflenekaaDoor.PTx

/-! ### numbers -/
def okN (n : Int) : Bool := decide (0 ≤ n ∧ n < 2147483648)
def dg (n : Int) : List UInt8 := Lib.decDigits n.toNat
theorem dg_len {n : Int} (h : okN n = true) : (dg n).length ≤ 10 := by
  have h := of_decide_eq_true h
  exact dec_len 9 _ (by omega)
theorem okN_iff (v : Int) : okN v = true ↔ 0 ≤ v ∧ v < 2147483648 := by unfold okN; exact decide_eq_true_iff
theorem num_dg (t : ByteArray) (v : Int) : num t = some v ↔ okN v = true ∧ L t = dg v := by
  rw [num_iff, okN_iff]
  constructor
  · rintro ⟨n, rfl, hn, hl⟩
    exact ⟨by omega, by rw [hl]; rfl⟩
  · rintro ⟨h, hl⟩
    exact ⟨v.toNat, by omega, by omega, hl⟩
theorem dec_head0 (n : Nat) (r : List UInt8) (h : Lib.decDigits n = 48 :: r) : r = [] := by
  induction n using Nat.strongRecOn generalizing r with
  | _ n ih =>
    by_cases h10 : n < 10
    · rw [dec_small h10] at h
      simp at h; exact h.2
    · rw [dec_big h10] at h
      cases hx : Lib.decDigits (n / 10) with
      | nil => exact absurd hx (dec_ne _)
      | cons a l =>
        rw [hx] at h
        simp only [List.cons_append, List.cons.injEq] at h
        obtain ⟨rfl, h2⟩ := h
        have hl := ih (n / 10) (by omega) l hx
        subst hl
        have h0 := decFrom_dec (n / 10)
        rw [hx] at h0
        simp [Lib.decFrom, Lib.digitVal] at h0
        omega

theorem dec_push {m : Nat} (hm : 0 < m) : ∀ {l : List UInt8} {v : Nat}, Lib.decFrom m l = some v → Lib.decDigits v = Lib.decDigits m ++ l
  | [], v, h => by
    obtain rfl : m = v := by simpa [Lib.decFrom] using h
    simp
  | c :: l, v, h => by
    simp only [Lib.decFrom] at h
    by_cases hd : 48 ≤ c.toNat ∧ c.toNat ≤ 57
    · have hdv : Lib.digitVal c = some (c.toNat - 48) := by unfold Lib.digitVal; rw [if_pos hd]
      rw [hdv] at h
      have ih := dec_push (m := m * 10 + (c.toNat - 48)) (by omega) h
      rw [ih, dec_big (by omega), show (m * 10 + (c.toNat - 48)) / 10 = m by omega, show (m * 10 + (c.toNat - 48)) % 10 = c.toNat - 48 by omega, show 48 + (c.toNat - 48) = c.toNat by omega]
      simp
    · have hdv : Lib.digitVal c = none := by unfold Lib.digitVal; rw [if_neg hd]
      rw [hdv] at h
      cases h
theorem dec_canon {c : UInt8} {l : List UInt8} {v : Nat} (h0 : c ≠ 48 ∨ l = []) (h : Lib.decFrom 0 (c :: l) = some v) : Lib.decDigits v = c :: l := by
  simp only [Lib.decFrom] at h
  by_cases hd : 48 ≤ c.toNat ∧ c.toNat ≤ 57
  · have hdv : Lib.digitVal c = some (c.toNat - 48) := by unfold Lib.digitVal; rw [if_pos hd]
    rw [hdv] at h
    have hs : Lib.decDigits (c.toNat - 48) = [c] := by rw [dec_small (by omega), show 48 + (c.toNat - 48) = c.toNat by omega]; simp
    simp only [Nat.zero_mul, Nat.zero_add] at h
    rcases h0 with h0 | rfl
    · have hc : c.toNat ≠ 48 := fun e => h0 (UInt8.toNat_inj.1 (by simp [e]))
      rw [dec_push (by omega) h, hs]
      rfl
    · obtain rfl : c.toNat - 48 = v := by simpa [Lib.decFrom] using h
      exact hs
  · have hdv : Lib.digitVal c = none := by unfold Lib.digitVal; rw [if_neg hd]
    rw [hdv] at h
    cases h
theorem refNumber_from (s : ByteArray) (hs : s.size ≤ 10) : ∀ (d i m : Nat), i + d = s.size → m < 10 ^ i → ∃ r, Ev (fun k => cubbyref08_Number.l0 k s (m : Int) (i : Int)) r ∧
    (∀ v : Nat, Lib.decFrom m ((L s).drop i) = some v → r = ((v : Int), decide ((v : Int) ≤ 2147483647))) ∧ (Lib.decFrom m ((L s).drop i) = none → r.2 = false)
  | 0, i, m, hd, hm => by
    refine ⟨((m : Int), decide ((m : Int) ≤ 2147483647)), Ev.step (f := fun _ => some ((m : Int), decide ((m : Int) ≤ 2147483647))) (fun k => by simp only [cubbyref08_Number.l0]; rw [if_neg (by omega)]) (Ev.now _), fun v hv => ?_, fun hv => ?_⟩
    · rw [List.drop_eq_nil_of_le (by rw [← size_L]; omega)] at hv
      obtain rfl : m = v := by simpa [Lib.decFrom] using hv
      rfl
    · rw [List.drop_eq_nil_of_le (by rw [← size_L]; omega)] at hv
      simp [Lib.decFrom] at hv
  | d + 1, i, m, hd, hm => by
    have hwr : wrap64 ((i : Int) + 1) = ((i + 1 : Nat) : Int) := by rw [w64 (by omega) (by omega)]; omega
    obtain ⟨c, hc, hb⟩ := bt_L s i (by omega)
    obtain ⟨hlen, hcv⟩ := List.getElem?_eq_some_iff.1 hc
    have hdrop : (L s).drop i = c :: (L s).drop (i + 1) := by rw [List.drop_eq_getElem_cons hlen, hcv]
    have hp : (10 : Nat) ^ i ≤ 10 ^ 9 := Nat.pow_le_pow_right (by omega) (by omega)
    rw [hdrop]
    simp only [Lib.decFrom]
    by_cases hdg : 48 ≤ c.toNat ∧ c.toNat ≤ 57
    · have hdv : Lib.digitVal c = some (c.toNat - 48) := by unfold Lib.digitVal; rw [if_pos hdg]
      rw [hdv]
      have hw1 : wrap64 ((m : Int) * 10) = (m : Int) * 10 := w64 (by omega) (by omega)
      have hw2 : wrap64 ((m : Int) * 10 + ((c.toNat : Int) - 48) % 256) = ((m * 10 + (c.toNat - 48) : Nat) : Int) := by rw [w64 (by omega) (by omega)]; omega
      obtain ⟨r, hr, h1, h2⟩ := refNumber_from s hs d (i + 1) (m * 10 + (c.toNat - 48)) (by omega) (by rw [Nat.pow_succ]; omega)
      refine ⟨r, Ev.step (fun k => ?_) hr, h1, h2⟩
      simp only [cubbyref08_Number.l0]
      rw [if_pos (by omega), if_pos (by omega), hb, if_neg (by omega), if_neg (by omega), hwr, hw1, hw2]
    · have hdv : Lib.digitVal c = none := by unfold Lib.digitVal; rw [if_neg hdg]
      rw [hdv]
      refine ⟨(0, false), Ev.step (f := fun _ => some (0, false)) (fun k => ?_) (Ev.now _), fun v hv => (by cases hv), fun _ => rfl⟩
      simp only [cubbyref08_Number.l0]
      rw [if_pos (by omega), if_pos (by omega), hb]
      split
      · rfl
      · rw [if_pos (by omega)]
/-- A number, to both. -/
theorem refNumber (t : ByteArray) : ∃ r, Ev (fun k => cubbyref08_Number.f k t) r ∧ (∀ v, num t = some v → r = (v, true)) ∧ (num t = none → r.2 = false) := by
  unfold cubbyref08_Number.f
  have no : Ev (fun k => cubbyref08_Number.j0 k t true) (0, false) := Ev.step (f := fun _ => some (0, false)) (fun k => by simp [cubbyref08_Number.j0]) (Ev.now _)
  cases hl : L t with
  | nil =>
    have hsz : t.size = 0 := by rw [size_L, hl]; rfl
    refine ⟨_, Ev.congr (fun k => by rw [if_pos (by omega)]) no, fun v hv => ?_, fun _ => rfl⟩
    have := ((num_dg t v).1 hv).2
    rw [hl] at this
    exact absurd this.symm (dec_ne v.toNat)
  | cons c l =>
    have hsz : t.size = l.length + 1 := by rw [size_L, hl]; rfl
    by_cases h10 : t.size > 10
    · refine ⟨_, Ev.congr (fun k => by rw [if_neg (by omega), if_pos (by omega)]) no, fun v hv => ?_, fun _ => rfl⟩
      obtain ⟨h1, h2⟩ := (num_dg t v).1 hv
      have := dg_len h1
      rw [← h2, ← size_L] at this
      omega
    · obtain ⟨r, hr, q1, q2⟩ := refNumber_from t (by omega) t.size 0 0 (by omega) (by decide)
      rw [List.drop_zero, hl] at q1 q2
      have yes : Ev (fun k => cubbyref08_Number.j0 k t false) r := Ev.step (fun k => by simp only [cubbyref08_Number.j0]; rw [if_neg (by simp)]; rfl) hr
      obtain ⟨c', hc, hb⟩ := bt_L t 0 (by omega)
      rw [hl] at hc
      obtain rfl : c = c' := by simpa using hc
      have hb : bt t 0 = (c.toNat : Int) := hb
      have good : (∀ v, num t = some v → r = (v, true)) := fun v hv => by
        obtain ⟨h1, h2⟩ := (num_dg t v).1 hv
        obtain ⟨h3, h4⟩ := (okN_iff v).1 h1
        have := q1 v.toNat (by rw [← hl, h2]; exact decFrom_dec _)
        rw [this]
        congr 1
        · omega
        · simp; omega
      have bad : (c ≠ 48 ∨ l = []) → num t = none → r.2 = false := fun h0 hn => by
        cases hx : Lib.decFrom 0 (c :: l) with
        | none => exact q2 hx
        | some v =>
          rw [q1 v hx]
          have hcan := dec_canon h0 hx
          by_cases hle : (v : Int) ≤ 2147483647
          · have := (num_dg t v).2 ⟨(okN_iff _).2 ⟨by omega, by omega⟩, by rw [hl]; unfold dg; rw [Int.toNat_natCast, hcan]⟩
            rw [hn] at this
            cases this
          · simpa using hle
      by_cases h48 : c.toNat = 48
      · obtain rfl : c = 48 := UInt8.toNat_inj.1 (by simp [h48])
        by_cases hs1 : t.size > 1
        · refine ⟨_, Ev.congr (fun k => by rw [if_neg (by omega), if_neg (by omega), if_pos (by omega), if_pos (by omega), decide_eq_true (by omega : (t.size : Int) > 1)]) no, fun v hv => ?_, fun _ => rfl⟩
          exfalso
          have h2 := ((num_dg t v).1 hv).2
          rw [hl] at h2
          have := dec_head0 _ _ h2.symm
          rw [this] at hsz
          simp at hsz
          omega
        · exact ⟨r, Ev.congr (fun k => by rw [if_neg (by omega), if_neg (by omega), if_pos (by omega), if_pos (by omega), decide_eq_false (by omega : ¬ (t.size : Int) > 1)]) yes, good, bad (.inr (List.eq_nil_of_length_eq_zero (by omega)))⟩
      · exact ⟨r, Ev.congr (fun k => by rw [if_neg (by omega), if_neg (by omega), if_pos (by omega), if_neg (by omega)]) yes, good, bad (.inl (fun e => h48 (by rw [e]; rfl)))⟩

/-! ### words -/
theorem extract_take {s : ByteArray} {a b : Nat} (hb : b ≤ s.size) : L (s.extract a b) = ((L s).take b).drop a := by
  show (s.extract a b).data.toList = _
  rw [ByteArray.data_extract, Array.toList_extract, List.extract_eq_take_drop, List.drop_take]
theorem refWords_from (s : ByteArray) (hs : s.size ≤ 4096) : ∀ (d i a : Nat) (ws : List ByteArray), i + d = s.size + 1 → a ≤ i → ws.length ≤ i → (∀ j, a ≤ j → j < i → (L s)[j]? ≠ some 32) →
    ∃ vs, Ev (fun k => cubbyref08_words.l0 k s ws a i) (ws ++ vs) ∧ vs.map L = (if i = s.size + 1 then [] else sp ((L s).drop a))
  | 0, i, a, ws, hd, ha, hw, hno => by
    refine ⟨[], ?_, by rw [if_pos (by omega)]; rfl⟩
    rw [List.append_nil]
    exact Ev.step (f := fun _ => some ws) (fun k => by simp only [cubbyref08_words.l0]; rw [if_neg (by omega)]) (Ev.now _)
  | d + 1, i, a, ws, hd, ha, hw, hno => by
    have hwr : wrap64 ((i : Int) + 1) = ((i + 1 : Nat) : Int) := by rw [w64 (by omega) (by omega)]; omega
    rw [if_neg (by omega)]
    by_cases he : i = s.size
    · obtain ⟨vs, hv, hm⟩ := refWords_from s hs d (i + 1) (i + 1) (ws ++ [s.extract a i]) (by omega) (by omega) (by simp; omega) (fun j h1 h2 => by omega)
      rw [if_pos (by omega)] at hm
      have hvs : vs = [] := by simpa using hm
      subst hvs
      refine ⟨[s.extract a i], ?_, ?_⟩
      · rw [List.append_nil] at hv
        refine Ev.step (fun k => ?_) hv
        simp only [cubbyref08_words.l0]
        rw [if_pos (by omega), if_pos (by omega), if_pos (by omega), if_pos (by omega), if_pos (by omega), hwr]
        simp only [Int.toNat_natCast]
      · have hn : 32 ∉ (L s).drop a := fun h => by
          obtain ⟨j, hj⟩ := List.mem_iff_getElem?.1 h
          rw [List.getElem?_drop] at hj
          have hl := (List.getElem?_eq_some_iff.1 hj).1
          rw [← size_L] at hl
          exact hno (a + j) (by omega) (by omega) hj
        rw [sp_none hn]
        simp only [List.map_cons, List.map_nil]
        rw [extract_take (by omega), he, List.take_of_length_le (by rw [← size_L]; omega)]
    · have hlt : i < s.size := by omega
      obtain ⟨c, hc, hb⟩ := bt_L s i hlt
      by_cases h32 : c = 32
      · subst h32
        obtain ⟨vs, hv, hm⟩ := refWords_from s hs d (i + 1) (i + 1) (ws ++ [s.extract a i]) (by omega) (by omega) (by simp; omega) (fun j h1 h2 => by omega)
        rw [if_neg (by omega)] at hm
        refine ⟨s.extract a i :: vs, ?_, ?_⟩
        · rw [show ws ++ s.extract a i :: vs = (ws ++ [s.extract a i]) ++ vs by simp]
          refine Ev.step (fun k => ?_) hv
          simp only [cubbyref08_words.l0]
          rw [if_pos (by omega), if_neg (by omega), if_pos (by omega), if_pos (by omega), if_pos (by rw [hb]; rfl), if_pos (by omega), if_pos (by omega), if_pos (by omega), hwr]
          simp only [Int.toNat_natCast]
        · have hlen : i < (L s).length := by rw [← size_L]; exact hlt
          have hsplit : (L s).drop a = ((L s).take i).drop a ++ 32 :: (L s).drop (i + 1) := by
            have h1 : (L s).drop i = 32 :: (L s).drop (i + 1) := by
              rw [List.drop_eq_getElem_cons hlen]
              congr 1
              exact (List.getElem?_eq_some_iff.1 hc).2
            rw [← h1]
            conv => lhs; rw [← List.take_append_drop i (L s)]
            rw [List.drop_append_of_le_length (by rw [List.length_take]; omega)]
          have hn : 32 ∉ ((L s).take i).drop a := fun h => by
            obtain ⟨j, hj⟩ := List.mem_iff_getElem?.1 h
            rw [List.getElem?_drop] at hj
            have hl := (List.getElem?_eq_some_iff.1 hj).1
            rw [List.length_take] at hl
            rw [List.getElem?_take_of_lt (by omega)] at hj
            exact hno (a + j) (by omega) (by omega) hj
          rw [hsplit, sp_hit _ hn, List.map_cons, hm, extract_take (by omega)]
      · obtain ⟨vs, hv, hm⟩ := refWords_from s hs d (i + 1) a ws (by omega) (by omega) (by omega) (fun j h1 h2 => by
          by_cases e : j = i
          · subst e; rw [hc]; intro h; exact h32 (Option.some.inj h)
          · exact hno j h1 (by omega))
        rw [if_neg (by omega)] at hm
        refine ⟨vs, Ev.step (fun k => ?_) hv, hm⟩
        simp only [cubbyref08_words.l0]
        rw [if_pos (by omega), if_neg (by omega), if_pos (by omega), if_pos (by omega), if_neg (by rw [hb]; intro h; exact h32 (UInt8.toNat_inj.1 (by simp; omega))), hwr]
theorem refWords (s : ByteArray) (hs : s.size ≤ 4096) : ∃ vs, Ev (fun k => cubbyref08_words.f k s) vs ∧ vs.map L = sp (L s) := by
  obtain ⟨vs, hv, hm⟩ := refWords_from s hs (s.size + 1) 0 0 [] (by omega) (by omega) (by simp) (fun j h1 h2 => by omega)
  rw [if_neg (by omega), List.drop_zero] at hm
  exact ⟨vs, hv, hm⟩


theorem map_L_inj {a b : List ByteArray} (h : a.map L = b.map L) : a = b := by
  induction a generalizing b with
  | nil => cases b with
    | nil => rfl
    | cons x r => cases h
  | cons x r ih => cases b with
    | nil => cases h
    | cons y q =>
      simp only [List.map_cons, List.cons.injEq] at h
      rw [ext_L h.1, ih h.2]
theorem refWords_eq (s : ByteArray) (hs : s.size ≤ 4096) : Ev (fun k => cubbyref08_words.f k s) (words s) := by
  obtain ⟨vs, hv, hm⟩ := refWords s hs
  rw [← words_sp] at hm
  rw [← map_L_inj hm]
  exact hv
end Go.Proofs.YtfibkajflenekaaDoor.G
