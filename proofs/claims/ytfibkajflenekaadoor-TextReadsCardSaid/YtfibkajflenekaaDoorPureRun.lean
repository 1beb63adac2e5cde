/-
  The reference's parse comes to what the program's comes to, line by line; two like functions are alike to the reference's test. No program in sight: the printed functions alone; texts of at most 4096 bytes.
-/
import Derived.Test.YtfibkajflenekaaDoorPureIns
import Derived.Test.YtfibkajflenekaaDoorPTxx8
namespace Go.Proofs.YtfibkajflenekaaDoor.G
set_option linter.unusedVariables false
set_option linter.unusedSimpArgs false
open Go.RowKit Go.Proofs.YtfibkajflenekaaDoorW.PrintWords Go.Proofs.YtfibkajflenekaaDoorW.PrintLast Go.Proofs.YtfibkajflenekaaDoor.PTx

theorem top_read {first : ByteArray} {heads : Nat} {t0 : ByteArray} {r : List ByteArray} (h0 : t0.toList = first.toList) :
    topF nmL first heads (t0 :: r) = if (readR (t0 :: r) (heads + 1) 0).2.2 = 0 then (0, (readR (t0 :: r) (heads + 1) 0).2.1, (readR (t0 :: r) (heads + 1) 0).1) else ((readR (t0 :: r) (heads + 1) 0).2.2, ⟨#[]⟩, []) := by
  simp only [topF]
  rw [if_neg (by simpa using h0)]
  by_cases hl : r.length = heads + 1
  · have hR : readR (t0 :: r) (heads + 1) 0 = readG nmL 0 0 r [] ⟨#[]⟩ := by unfold readR; rw [if_pos (by rw [List.length_cons, hl])]; rfl
    rw [hR, if_neg (by simpa using hl)]
    cases r with
    | nil => simp at hl
    | cons t1 r2 =>
      have hG : readG nmL 0 0 (t1 :: r2) [] ⟨#[]⟩ = if nmL t1 = true then readG nmL (0 + 1) 0 r2 [] t1 else ([], ⟨#[]⟩, 80) := by rw [readG, if_pos (by rfl)]
      rw [hG]
      by_cases hn : nmL t1 = true
      · simp only [if_pos hn]
        rw [readG_nums nmL 0 r2 (0 + 1) [] t1 (by decide)]
        cases hx : nums r2 with
        | none => rfl
        | some l => simp
      · simp only [if_neg hn]
        rfl
  · have hR : readR (t0 :: r) (heads + 1) 0 = ([], ⟨#[]⟩, 80) := by unfold readR; rw [if_neg (by rw [List.length_cons]; omega)]
    rw [hR, if_pos (by simpa using hl)]
    rfl
theorem any_ins {code : Bool} {t0 : ByteArray} {r : List ByteArray} {blocks : List (List S72)} (h0 : t0.toList ≠ lBlock) (hb : blocks.length ≠ 0) :
    anyF nmL (fo code) blocks (t0 :: r) = if (insAll code t0 r).2 = 0 then (0, addLast blocks (insAll code t0 r).1) else ((insAll code t0 r).2, []) := by
  simp only [anyF]
  rw [if_neg (fun h => h0 h.1)]
  unfold insAll
  cases hx : opOf code (L t0) with
  | none =>
    rw [fo_none hx]
    unfold lineF
    rw [if_pos (.inl rfl)]
    rfl
  | some o =>
    rw [fo_some hx]
    exact prog_ins code o (op_mem (opOf_spec hx).2) t0 r blocks hb
theorem any_bad {code : Bool} {t0 : ByteArray} {r : List ByteArray} {blocks : List (List S72)} (h : (t0.toList = lBlock ∧ r ≠ []) ∨ (t0.toList ≠ lBlock ∧ blocks.length = 0)) : anyF nmL (fo code) blocks (t0 :: r) = (80, []) := by
  simp only [anyF]
  rcases h with ⟨h1, h2⟩ | ⟨h1, h2⟩
  · rw [if_neg (fun h => h2 h.2)]
    have hx : opOf code (L t0) = none := by
      rw [← toList_L, h1]
      cases code <;> decide
    rw [fo_none hx]
    unfold lineF
    rw [if_pos (.inl rfl)]
  · rw [if_neg (fun h => h1 h.1)]
    unfold lineF
    rw [if_pos (.inr h2)]

abbrev PT := ByteArray × List Int × List (List S72) × Int × Int
def ansR (a : Int × Int × St) : PT := if a.2.1 = 0 then (a.2.2.name, a.2.2.head, a.2.2.blocks, 0, 0) else (⟨#[]⟩, [], [], a.1, a.2.1)
theorem ansR_bad {m e : Int} {st : St} (h : e ≠ 0) : ansR (m, e, st) = (⟨#[]⟩, [], [], m, e) := by unfold ansR; rw [if_neg h]
theorem blockW_L : blockW.toList = lBlock := blockW_list
theorem ref_run (code : Bool) (first : ByteArray) (heads : Nat) (hh : heads ≤ 100) : ∀ (k n : Nat) (s : ByteArray) (st : St), s.size ≤ k → n + s.size ≤ 4096 → (n = 0 → st = st0 ∧ 0 < s.size) → st.blocks.length ≤ n → (st.blocks.getLast?.getD []).length ≤ n →
    Ev (fun j => cubbyref08_parse.l0 j first ((heads + 1 : Nat) : Int) code s st.name st.head st.blocks (n : Int)) (ansR (runF nmL (fo code) first heads k n s st))
  | 0, n, s, st, hk, hn, h0, hb1, hb2 => by
    have hz : s.size = 0 := by omega
    have hs : s.toList = [] := by rw [toList_L]; exact List.eq_nil_of_length_eq_zero (by rw [← size_L]; exact hz)
    have hn0 : n ≠ 0 := fun e => by have := (h0 e).2; omega
    exact Ev.step (f := fun _ => some (st.name, st.head, st.blocks, 0, 0)) (fun j => by simp only [cubbyref08_parse.l0]; rw [if_pos ⟨hs, by omega⟩]) (Ev.now _)
  | k + 1, n, s, st, hk, hn, h0, hb1, hb2 => by
    by_cases hz : s.size = 0
    · have hs : s.toList = [] := by rw [toList_L]; exact List.eq_nil_of_length_eq_zero (by rw [← size_L]; exact hz)
      have hn0 : n ≠ 0 := fun e => by have := (h0 e).2; omega
      rw [runF_end hz]
      exact Ev.step (f := fun _ => some (st.name, st.head, st.blocks, 0, 0)) (fun j => by simp only [cubbyref08_parse.l0]; rw [if_pos ⟨hs, by omega⟩]) (Ev.now _)
    · have hs : ¬ s.toList = [] := fun h => by rw [toList_L] at h; have := size_L s; rw [h] at this; exact hz this
      have hle := nl_le s
      rw [runF, if_neg hz]
      by_cases hl : nl s < s.size
      · rw [if_pos hl]
        have hts : (s.extract 0 (nl s)).size ≤ 4096 := by rw [ByteArray.size_extract]; omega
        have hrs : (s.extract (nl s + 1) s.size).size = s.size - (nl s + 1) := by rw [ByteArray.size_extract]; omega
        have hW := refWords_eq _ hts
        have hwl := words_le (s.extract 0 (nl s))
        have hwz : ∀ t ∈ words (s.extract 0 (nl s)), t.size ≤ 4096 := fun t ht => by
          obtain ⟨i, hi⟩ := List.getElem?_of_mem ht
          exact Nat.le_trans (words_size _ t i hi) hts
        obtain ⟨t0, r, hws⟩ : ∃ t0 r, words (s.extract 0 (nl s)) = t0 :: r := by
          cases hx : words (s.extract 0 (nl s)) with
          | nil => exact absurd hx (words_ne _)
          | cons a b => exact ⟨a, b, rfl⟩
        have hrd : rdOf ByteArray.empty (t0 :: r) 0 = t0 := rdW (i := 0) rfl
        rw [hws] at hW hwl hwz ⊢
        have hlen : (t0 :: r).length ≤ 4097 := by omega
        -- the step of the reference, its words known
        refine Ev.step (f := fun j => (cubbyref08_words.f j (s.extract 0 (nl s))).bind fun ws => if 0 < ws.length then
            (if (n : Int) = 0 then (if (rdOf ByteArray.empty ws 0).toList = first.toList then (cubbyref08_read.f j ws ((heads + 1 : Nat) : Int) 0).bind fun t =>
              if t.2.2 = 0 then cubbyref08_parse.l0 j first ((heads + 1 : Nat) : Int) code (s.extract (nl s + 1) s.size) t.2.1 t.1 st.blocks ((n : Int) + 1) else wrongAt ((n : Int) + 1) t.2.2 else wrongAt ((n : Int) + 1) 80)
             else if (rdOf ByteArray.empty ws 0).toList = blockW.toList then (if ws.length = 1 then (if st.blocks.length < 1099511627776 then cubbyref08_parse.l0 j first ((heads + 1 : Nat) : Int) code (s.extract (nl s + 1) s.size) st.name st.head (st.blocks ++ [[]]) ((n : Int) + 1) else none) else wrongAt ((n : Int) + 1) 80)
             else if st.blocks.length = 0 then wrongAt ((n : Int) + 1) 80
             else (cubbyref08_ins.f j ws code).bind fun t => if t.2.2.2.2.2.2 = 0 then (if st.blocks.length < 1099511627776 ∧ (st.blocks.getLast?.getD []).length < 1099511627776 then cubbyref08_parse.l0 j first ((heads + 1 : Nat) : Int) code (s.extract (nl s + 1) s.size) st.name st.head (addLast st.blocks ⟨t.1, t.2.1, t.2.2.1, t.2.2.2.1, t.2.2.2.2.1, t.2.2.2.2.2.1⟩) ((n : Int) + 1) else none) else wrongAt ((n : Int) + 1) t.2.2.2.2.2.2) else none) (fun j => ?_) (Ev.bind hW ?_)
        · simp only [cubbyref08_parse.l0]
          rw [if_neg (fun h => hs h.1), if_pos ⟨by omega, by omega, by omega⟩, if_neg (by omega)]
        · rw [show (t0 :: r : List ByteArray).length = r.length + 1 from rfl, hrd]
          by_cases hn0 : n = 0
          · subst hn0
            obtain ⟨rfl, _⟩ := h0 rfl
            have hst : stepF nmL (fo code) first heads (0 + 1) (t0 :: r) st0 = ((topF nmL first heads (t0 :: r)).1, ⟨(topF nmL first heads (t0 :: r)).2.1, (topF nmL first heads (t0 :: r)).2.2, []⟩) := by unfold stepF; rw [if_pos rfl]
            by_cases hf : t0.toList = first.toList
            · have hR := read_ev (t0 :: r) (heads + 1) 0 (by omega) hwz
              rw [hst, top_read hf]
              refine Ev.congr (f := fun j => (cubbyref08_read.f j (t0 :: r) ((heads + 1 : Nat) : Int) 0).bind fun t => if t.2.2 = 0 then cubbyref08_parse.l0 j first ((heads + 1 : Nat) : Int) code (s.extract (nl s + 1) s.size) t.2.1 t.1 st0.blocks (((0 : Nat) : Int) + 1) else wrongAt (((0 : Nat) : Int) + 1) t.2.2) (fun j => by rw [if_pos (by omega), if_pos (by omega), if_pos hf]) (Ev.bind hR ?_)
              by_cases he : (readR (t0 :: r) (heads + 1) 0).2.2 = 0
              · simp only [if_pos he, if_true]
                exact ref_run code first heads hh k 1 (s.extract (nl s + 1) s.size) ⟨(readR (t0 :: r) (heads + 1) 0).2.1, (readR (t0 :: r) (heads + 1) 0).1, []⟩ (by omega) (by omega) (fun h => by omega) (by simp) (by simp)
              · simp only [if_neg he]
                rw [ansR_bad he]
                exact Ev.now _
            · have htf : topF nmL first heads (t0 :: r) = (80, ⟨#[]⟩, []) := by simp only [topF]; rw [if_pos (by simpa using hf)]
              rw [hst, htf]
              simp only [show ¬ ((80 : Int) = 0) by decide, if_false]
              rw [ansR_bad (by decide)]
              exact Ev.congr (f := fun _ => wrongAt (((0 : Nat) : Int) + 1) 80) (fun j => by rw [if_pos (by omega), if_pos (by omega), if_neg hf]) (Ev.now _)
          · have hst : stepF nmL (fo code) first heads (n + 1) (t0 :: r) st = ((anyF nmL (fo code) st.blocks (t0 :: r)).1, ⟨st.name, st.head, (anyF nmL (fo code) st.blocks (t0 :: r)).2⟩) := by unfold stepF; rw [if_neg (by omega)]
            have hbd := fun h => stepF_bounds (nm := nmL) (fo := fo code) (first := first) (heads := heads) (ws := t0 :: r) (st := st) (m := n) h hb1 hb2
            rw [hst] at hbd ⊢
            by_cases hbk : t0.toList = lBlock
            · by_cases hr1 : r = []
              · subst hr1
                have ha : anyF nmL (fo code) st.blocks [t0] = (0, st.blocks ++ [[]]) := by simp only [anyF]; rw [if_pos ⟨hbk, trivial⟩]
                rw [ha] at hbd ⊢
                have hb := hbd rfl
                have ih := ref_run code first heads hh k (n + 1) (s.extract (nl s + 1) s.size) ⟨st.name, st.head, st.blocks ++ [[]]⟩ (by omega) (by omega) (fun h => by omega) hb.1 hb.2
                simp only [if_true]
                refine Ev.congr (fun j => ?_) ih
                rw [if_pos (by simp), if_neg (by omega), blockW_L, if_pos hbk, if_pos (by simp), if_pos (by omega)]
                rfl
              · rw [any_bad (.inl ⟨hbk, hr1⟩)]
                simp only [show ¬ ((80 : Int) = 0) by decide, if_false]
                rw [ansR_bad (by decide)]
                have hr2 : r.length ≠ 0 := fun e => hr1 (List.eq_nil_of_length_eq_zero e)
                exact Ev.congr (f := fun _ => wrongAt ((n : Int) + 1) 80) (fun j => by rw [if_pos (by omega), if_neg (by omega), blockW_L, if_pos hbk, if_neg (by omega)]) (Ev.now _)
            · by_cases hb0 : st.blocks.length = 0
              · rw [any_bad (.inr ⟨hbk, hb0⟩)]
                simp only [show ¬ ((80 : Int) = 0) by decide, if_false]
                rw [ansR_bad (by decide)]
                exact Ev.congr (f := fun _ => wrongAt ((n : Int) + 1) 80) (fun j => by rw [if_pos (by omega), if_neg (by omega), blockW_L, if_neg hbk, if_pos hb0]) (Ev.now _)
              · have hI := ins_ev code t0 r hlen hwz
                rw [any_ins hbk hb0] at hbd ⊢
                refine Ev.congr (f := fun j => (cubbyref08_ins.f j (t0 :: r) code).bind fun t => if t.2.2.2.2.2.2 = 0 then (if st.blocks.length < 1099511627776 ∧ (st.blocks.getLast?.getD []).length < 1099511627776 then cubbyref08_parse.l0 j first ((heads + 1 : Nat) : Int) code (s.extract (nl s + 1) s.size) st.name st.head (addLast st.blocks ⟨t.1, t.2.1, t.2.2.1, t.2.2.2.1, t.2.2.2.2.1, t.2.2.2.2.2.1⟩) ((n : Int) + 1) else none) else wrongAt ((n : Int) + 1) t.2.2.2.2.2.2) (fun j => by rw [if_pos (by omega), if_neg (by omega), blockW_L, if_neg hbk, if_neg hb0]) (Ev.bind hI ?_)
                by_cases he : (insAll code t0 r).2 = 0
                · simp only [if_pos he] at hbd ⊢
                  have hb := hbd trivial
                  have ih := ref_run code first heads hh k (n + 1) (s.extract (nl s + 1) s.size) ⟨st.name, st.head, addLast st.blocks (insAll code t0 r).1⟩ (by omega) (by omega) (fun h => by omega) hb.1 hb.2
                  have ht : tupE (insAll code t0 r) = tup (insAll code t0 r).1 := by unfold tupE; rw [if_pos he]
                  rw [ht]
                  simp only [if_true]
                  refine Ev.congr (fun j => ?_) ih
                  simp only [tup, if_true]
                  rw [if_pos ⟨by omega, by omega⟩]
                  rfl
                · simp only [if_neg he]
                  rw [ansR_bad he]
                  have ht : tupE (insAll code t0 r) = (0, 0, 0, 0, ⟨#[]⟩, [], (insAll code t0 r).2) := by unfold tupE; rw [if_neg he]
                  rw [ht]
                  simp only [if_neg he]
                  exact Ev.now _
      · rw [if_neg hl, ansR_bad (by decide)]
        refine Ev.step (f := fun _ => wrongAt ((n : Int) + 1) 80) (fun j => ?_) (Ev.now _)
        simp only [cubbyref08_parse.l0]
        rw [if_neg (fun h => hs h.1), if_pos ⟨by omega, by omega, by omega⟩, if_pos (by omega)]
theorem ref_parse (code : Bool) (first : ByteArray) (heads : Nat) (hh : heads ≤ 100) (s : ByteArray) (hs : s.size ≤ 4096) : Ev (fun j => cubbyref08_parse.f j s first ((heads + 1 : Nat) : Int) code) (ansR (parseAns code first heads s)) := by
  unfold cubbyref08_parse.f parseAns
  by_cases hz : s.size = 0
  · rw [if_pos hz, ansR_bad (by decide)]
    have hle := nl_le s
    refine Ev.step (f := fun _ => some ((⟨#[]⟩, [], [], 1, 80) : PT)) (fun j => ?_) (Ev.now _)
    simp only [cubbyref08_parse.l0]
    rw [if_neg (fun h => h.2 rfl), if_pos ⟨by omega, by omega, by omega⟩, if_pos (by omega)]
    rfl
  · rw [if_neg hz]
    exact ref_run code first heads hh s.size 0 s st0 (Nat.le_refl _) (by omega) (fun _ => ⟨rfl, by omega⟩) (Nat.le_refl _) (Nat.le_refl _)
end Go.Proofs.YtfibkajflenekaaDoor.G
