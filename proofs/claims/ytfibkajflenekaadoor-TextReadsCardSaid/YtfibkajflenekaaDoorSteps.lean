/-
  What the parser does with one line: its first line and any other one, each as one contract; the text's lines, one by one. Conditions: the package variables hold what they hold (GW); the words are shorter than 4294967281 bytes.
-/
import Derived.Test.YtfibkajflenekaaDoorRange
import Derived.Test.YtfibkajflenekaaDoorLine
namespace Go.Proofs.YtfibkajflenekaaDoor.G
set_option linter.unusedVariables false
set_option linter.unusedSimpArgs false
open Go.RowKit Go.Proofs.YtfibkajflenekaaDoorW.PrintWords Go.Proofs.YtfibkajflenekaaDoorW.PrintLast Go.Proofs.YtfibkajflenekaaDoor.PTx

/-! ### the first line -/
def topF (nm : ByteArray → Bool) (first : ByteArray) (heads : Nat) (ws : List ByteArray) : Int × ByteArray × List Int :=
  match ws with
  | [] => (80, ⟨#[]⟩, [])
  | t0 :: r =>
    if t0.toList ≠ first.toList then (80, ⟨#[]⟩, []) else if r.length ≠ heads + 1 then (80, ⟨#[]⟩, []) else
    match r with
    | [] => (80, ⟨#[]⟩, [])
    | t1 :: r2 => if nm t1 = true then (match nums r2 with | none => (81, ⟨#[]⟩, []) | some l => (0, t1, l)) else (80, ⟨#[]⟩, [])
theorem top_any (nm : ByteArray → Bool) (P B tb : Nat) (code : Bool) (first : ByteArray) (heads : Nat) (ws : List ByteArray) (W w0 : World) (hG0 : GW w0) (hP0 : w0.heap.size ≤ P) (hb0 : Below w0.heap.size w0 W) (hPB : P < B) (hB : B ≤ tb)
    (hsz : ∀ (i : Nat) (t : ByteArray), ws[i]? = some t → t.size < 4294967281) (hP : PS P B W code first heads ⟨#[]⟩ [] [] (.slice none 0 0) (.slice none 0 0)) (hW : WordsAt W tb ws) (hbig : ws.length < 4611686018427387904) (hne : ws ≠ [])
    (hh1 : 1 ≤ heads) (hh : heads < 1000) (hnm : ∀ (i : Nat) (t : ByteArray), ws[i]? = some t → ir_Name.f t = some (nm t)) :
    Calls Tryd.prog 50 #[.pointer (some ⟨P, 0, none⟩), .slice (some ⟨tb, 0, none⟩) ws.length ws.length] W fun e W' => e = .returned (.int .i64 (topF nm first heads ws).1) ∧ Soft B (· = P) W W' ∧
      ((topF nm first heads ws).1 = 0 → ∃ vh, PS P B W' code first heads (topF nm first heads ws).2.1 (topF nm first heads ws).2.2 [] vh (.slice none 0 0)) := by
  have hBs : B ≤ W.heap.size := by have := hW.lt; omega
  cases ws with
  | nil => exact absurd rfl hne
  | cons t0 r =>
    by_cases h1 : t0.toList ≠ first.toList
    · have hf : topF nm first heads (t0 :: r) = (80, ⟨#[]⟩, []) := by simp only [topF]; rw [if_pos h1]
      rw [hf]
      exact (top_first P tb code first heads (t0 :: r) W _ _ _ t0 hP.cells hW hbig rfl h1).mono fun e W' ⟨h1, h2⟩ => ⟨h1, .of_below hBs h2, fun h => by cases h⟩
    · have h1' : t0.toList = first.toList := Classical.not_not.1 h1
      by_cases h2 : r.length ≠ heads + 1
      · have hf : topF nm first heads (t0 :: r) = (80, ⟨#[]⟩, []) := by simp only [topF]; rw [if_neg h1, if_pos h2]
        rw [hf]
        exact (top_len P tb code first heads (t0 :: r) W _ _ _ t0 hP.cells hW hbig rfl h1' hh (by simp only [List.length_cons]; omega)).mono fun e W' ⟨h1, h2⟩ => ⟨h1, .of_below hBs h2, fun h => by cases h⟩
      · have h2' : r.length = heads + 1 := Classical.not_not.1 h2
        cases r with
        | nil => simp at h2'
        | cons t1 r2 =>
          have hn := hnm 1 t1 rfl
          by_cases h3 : nm t1 = true
          · rw [h3] at hn
            rcases hx : nums r2 with _ | l
            · have hf : topF nm first heads (t0 :: t1 :: r2) = (81, ⟨#[]⟩, []) := by simp only [topF]; rw [if_neg h1, if_neg h2, if_pos h3, hx]
              rw [hf]
              exact (top_run P B tb code first heads (t0 :: t1 :: r2) W w0 hG0 hP0 hb0 t0 t1 hPB hB hsz hP hW hbig rfl h1' hh1 hh (by simp only [List.length_cons] at *; omega) rfl hn none hx).mono fun e W' ⟨h1, h2, _⟩ => ⟨h1, h2, fun h => by cases h⟩
            · have hf : topF nm first heads (t0 :: t1 :: r2) = (0, t1, l) := by simp only [topF]; rw [if_neg h1, if_neg h2, if_pos h3, hx]
              rw [hf]
              exact (top_run P B tb code first heads (t0 :: t1 :: r2) W w0 hG0 hP0 hb0 t0 t1 hPB hB hsz hP hW hbig rfl h1' hh1 hh (by simp only [List.length_cons] at *; omega) rfl hn (some l) hx).mono fun e W' ⟨h1, h2, h3⟩ => ⟨h1, h2, fun _ => h3 l rfl⟩
          · have hn' : ir_Name.f t1 = some false := by rw [hn]; simpa using h3
            have hf : topF nm first heads (t0 :: t1 :: r2) = (80, ⟨#[]⟩, []) := by simp only [topF]; rw [if_neg h1, if_neg h2, if_neg h3]
            rw [hf]
            exact (top_name P tb code first heads (t0 :: t1 :: r2) W (GW_below hG0 hb0) _ _ _ t0 t1 hP.cells hW hbig rfl h1' hh (by simp only [List.length_cons] at *; omega) rfl hn').mono fun e W' ⟨h1, h2⟩ => ⟨h1, .of_below hBs h2, fun h => by cases h⟩

/-! ### any other one -/
abbrev FormT := Int × ByteArray × ByteArray × Bool
structure FormOk (code : Bool) (t : ByteArray) (f : FormT) : Prop where
  run : ∃ k, text_by.f k t code = some (f.1, f.2.1, f.2.2.1, f.2.2.2)
  size : f.2.2.1.size < 1000
  form : f.2.2.2 = true → (∀ c ∈ f.2.2.1.data.toList, c = 68 ∨ c = 65 ∨ c = 66 ∨ c = 78 ∨ c = 76) ∧ need f.2.2.1.data.toList = (if Lib.hasSuffix f.2.2.1.data.toList [76] = true then f.2.2.1.size - 1 else f.2.2.1.size) ∧ 1 ≤ need f.2.2.1.data.toList
def anyF (nm : ByteArray → Bool) (fo : ByteArray → FormT) (blocks : List (List S72)) (ws : List ByteArray) : Int × List (List S72) :=
  match ws with
  | [] => (80, [])
  | t0 :: r => if t0.toList = lBlock ∧ r = [] then (0, blocks ++ [[]]) else lineF nm (fo t0).1 (fo t0).2.2.1 (fo t0).2.2.2 blocks r r.length
theorem line_any (nm : ByteArray → Bool) (fo : ByteArray → FormT) (P B tb : Nat) (code : Bool) (first : ByteArray) (heads : Nat) (name : ByteArray) (head : List Int) (blocks : List (List S72)) (ws : List ByteArray) (W : World) (hG : GW W) (vh vb : Value) (hPB : P < B) (hB : B ≤ W.heap.size)
    (hP : PS P B W code first heads name head blocks vh vb) (hW : WordsAt W tb ws) (hne : ws ≠ []) (hbig : ws.length < 1073741824) (hbl : blocks.length < 1099511627776) (hlx : (blocks.getLast?.getD []).length < 1099511627776)
    (hfo : ∀ (i : Nat) (t : ByteArray), ws[i]? = some t → FormOk code t (fo t)) (hsz : ∀ (i : Nat) (t : ByteArray), ws[i]? = some t → t.size < 4294967281) (hnm : ∀ (i : Nat) (t : ByteArray), ws[i]? = some t → ir_Name.f t = some (nm t)) :
    Calls Tryd.prog 51 #[.pointer (some ⟨P, 0, none⟩), .slice (some ⟨tb, 0, none⟩) ws.length ws.length] W fun e W' => e = .returned (.int .i64 (anyF nm fo blocks ws).1) ∧ Soft B (· = P) W W' ∧
      ((anyF nm fo blocks ws).1 = 0 → ∃ vb', PS P B W' code first heads name head (anyF nm fo blocks ws).2 vh vb') := by
  cases ws with
  | nil => exact absurd rfl hne
  | cons t0 r =>
    by_cases h1 : t0.toList = lBlock ∧ r = []
    · obtain ⟨h1a, rfl⟩ := h1
      have hf : anyF nm fo blocks [t0] = (0, blocks ++ [[]]) := by simp only [anyF]; rw [if_pos ⟨h1a, trivial⟩]
      rw [hf]
      exact (line_block P B tb code first heads name head blocks [t0] W vh vb t0 hPB hB hP hW rfl h1a rfl hbl).mono fun e W' ⟨h1, h2, h3⟩ => ⟨h1, h2, fun _ => h3⟩
    · have hf : anyF nm fo blocks (t0 :: r) = lineF nm (fo t0).1 (fo t0).2.2.1 (fo t0).2.2.2 blocks r r.length := by simp only [anyF]; rw [if_neg h1]
      rw [hf]
      obtain ⟨k, hk⟩ := (hfo 0 t0 rfl).run
      exact line_else nm k P B tb r.length code first heads name head blocks (t0 :: r) W hG vh vb t0 hPB hB hP hW rfl (by simp only [List.length_cons] at hbig; omega) rfl (fun ⟨ha, hb⟩ => h1 ⟨ha, by simpa using hb⟩) _ _ _ _ hk hbl hlx (hfo 0 t0 rfl).size (hfo 0 t0 rfl).form hsz hnm _ rfl

/-! ### a line's text -/
theorem split_words (s : ByteArray) (w : World) (hG : GW w) (hs : s.size < 4294967281) :
    Calls Tryd.prog 40 #[.string s, .string ⟨#[32]⟩] w fun e w' => e = .returned (.slice (some ⟨w.heap.size, 0, none⟩) (words s).length (words s).length) ∧ WordsAt w' w.heap.size (words s) ∧ Below w.heap.size w w' := by
  obtain ⟨m, hm⟩ := hG.mlen
  refine (Tryd.strings_Split s ⟨#[32]⟩ m w hs hm (by decide)).mono ?_
  rintro e w' ⟨rfl, rfl⟩
  have ho := own_lit_of (enc := Value.string) w w.heap.size 9 (words s) (Nat.le_refl _) (by have := words_le s; omega)
  refine ⟨by rw [words_length], ⟨_, World.alloc_heap_new _ _, fun i t hi => ?_⟩, below_alloc (Below.refl _ _) _⟩
  have hc := ho.cells (g := w.heap.size) rfl i (.string t) (by simp [encs, hi])
  rw [add_plain] at hc
  exact (blk_cell (World.alloc_heap_new _ _) i).symm.trans hc
theorem words_ne (s : ByteArray) : words s ≠ [] := fun h => by have := words_length s; rw [h] at this; simp at this
theorem cut_hit' (r : ByteArray) (V : World) (h : nl r < r.size) (hs : r.size ≤ 9223372036854775807) :
    Calls Tryd.prog 49 #[.string (lineOf r), .string ⟨#[10]⟩] V fun e V' => e = .returned (.tuple #[.string (r.extract 0 (nl r)), .bool true]) ∧ V' = V := by
  have hl : lineOf r = r.extract 0 (nl r + 1) := if_pos h
  have hd : (lineOf r).data.toList = r.data.toList.take (nl r) ++ [10] := by
    rw [hl, Lib.extract_from_zero, List.take_succ_eq_append_getElem (by simpa using h)]
    have h1 : nl r < r.data.toList.length := by simpa using h
    have h2 : (r.data.toList[nl r] == 10) = true := List.findIdx_getElem (w := h1)
    rw [beq_iff_eq.1 h2]
  refine (Tryd.strings_CutSuffix (lineOf r) ⟨#[10]⟩ V (by rw [hl, ByteArray.size_extract]; omega)).mono ?_
  rintro e V' ⟨rfl, rfl⟩
  have h3 : Lib.hasSuffix (lineOf r).data.toList [10] = true := by
    unfold Lib.hasSuffix
    rw [hd]
    simp
  refine ⟨?_, rfl⟩
  show Ending.returned (.tuple #[.string ⟨(Lib.trimSuffix (lineOf r).data.toList [10]).toArray⟩, .bool (Lib.hasSuffix (lineOf r).data.toList [10])]) = _
  rw [h3]
  have h4 : (⟨(Lib.trimSuffix (lineOf r).data.toList [10]).toArray⟩ : ByteArray) = r.extract 0 (nl r) := by
    apply WideShapes.bytes_inj
    rw [Lib.extract_from_zero]
    unfold Lib.trimSuffix
    rw [if_pos h3, hd]
    have h1 : nl r < r.data.toList.length := by simpa using h
    simp [List.length_take]
  rw [h4]
theorem cut_miss' (r : ByteArray) (V : World) (h : ¬ nl r < r.size) (hs : r.size ≤ 9223372036854775807) :
    Calls Tryd.prog 49 #[.string (lineOf r), .string ⟨#[10]⟩] V fun e V' => ∃ t, e = .returned (.tuple #[.string t, .bool false]) ∧ V' = V := by
  have hl : lineOf r = r := if_neg h
  rw [hl]
  refine (Tryd.strings_CutSuffix r ⟨#[10]⟩ V hs).mono ?_
  rintro e V' ⟨rfl, rfl⟩
  have h3 : Lib.hasSuffix r.data.toList [10] = false := by
    cases hx : Lib.hasSuffix r.data.toList [10] with
    | false => rfl
    | true =>
      exfalso
      unfold Lib.hasSuffix at hx
      obtain ⟨t, ht⟩ := List.isSuffixOf_iff_suffix.1 hx
      have h1 := nl_le r
      have h2 : nl r = r.size := by omega
      unfold nl at h2
      have hsz : r.data.toList.length = r.size := by simp
      rw [← hsz, List.findIdx_eq_length] at h2
      have := h2 10 (by rw [← ht]; simp)
      simp at this
  exact ⟨_, by rw [show (⟨#[10]⟩ : ByteArray).data.toList = [10] from rfl, h3], rfl⟩

/-! ### the text's lines -/
structure St where
  name : ByteArray
  head : List Int
  blocks : List (List S72)
def stepF (nm : ByteArray → Bool) (fo : ByteArray → FormT) (first : ByteArray) (heads : Nat) (n : Nat) (ws : List ByteArray) (st : St) : Int × St :=
  if n = 1 then ((topF nm first heads ws).1, ⟨(topF nm first heads ws).2.1, (topF nm first heads ws).2.2, []⟩)
  else ((anyF nm fo st.blocks ws).1, ⟨st.name, st.head, (anyF nm fo st.blocks ws).2⟩)
def runF (nm : ByteArray → Bool) (fo : ByteArray → FormT) (first : ByteArray) (heads : Nat) : Nat → Nat → ByteArray → St → Int × Int × St
  | 0, _, _, st => (0, 0, st)
  | k + 1, n, s, st =>
    if s.size = 0 then (0, 0, st) else if nl s < s.size then
      (if (stepF nm fo first heads (n + 1) (words (s.extract 0 (nl s))) st).1 = 0 then runF nm fo first heads k (n + 1) (s.extract (nl s + 1) s.size) (stepF nm fo first heads (n + 1) (words (s.extract 0 (nl s))) st).2
       else ((n : Int) + 1, (stepF nm fo first heads (n + 1) (words (s.extract 0 (nl s))) st).1, st))
    else ((n : Int) + 1, 80, st)
theorem runF_end {nm : ByteArray → Bool} {fo : ByteArray → FormT} {first : ByteArray} {heads k n : Nat} {s : ByteArray} {st : St} (h : s.size = 0) : runF nm fo first heads k n s st = (0, 0, st) := by
  cases k with
  | zero => rfl
  | succ k => simp only [runF]; rw [if_pos h]
end Go.Proofs.YtfibkajflenekaaDoor.G
