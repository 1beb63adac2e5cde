/-
  What the parse gives is alike to itself, to the law's test of likeness. No program in sight: the printed functions alone; texts of at most 4096 bytes.
-/
import Derived.Test.YtfibkajflenekaaDoorPureRun
namespace Go.Proofs.YtfibkajflenekaaDoor.G
set_option linter.unusedVariables false
set_option linter.unusedSimpArgs false
open Go.RowKit Go.Proofs.YtfibkajflenekaaDoorW.PrintWords Go.Proofs.YtfibkajflenekaaDoorW.PrintLast Go.Proofs.YtfibkajflenekaaDoor.PTx

/-! ### bounds -/
structure Bnd (N : Nat) (bs : List (List S72)) : Prop where
  len : bs.length ≤ N
  rows : ∀ b ∈ bs, b.length ≤ N
  args : ∀ b ∈ bs, ∀ x ∈ b, x.f5.length ≤ 5000
theorem Bnd.nil (N : Nat) : Bnd N [] := ⟨Nat.zero_le _, fun _ h => by simp at h, fun _ h => by simp at h⟩
theorem Bnd.push {N : Nat} {bs : List (List S72)} (h : Bnd N bs) : Bnd (N + 1) (bs ++ [[]]) := by
  refine ⟨by have := h.len; simp; omega, fun b hb => ?_, fun b hb x hx => ?_⟩
  · rcases List.mem_append.1 hb with hb | hb
    · have := h.rows b hb; omega
    · obtain rfl := List.mem_singleton.1 hb; simp
  · rcases List.mem_append.1 hb with hb | hb
    · exact h.args b hb x hx
    · obtain rfl := List.mem_singleton.1 hb; simp at hx
theorem last_mem {bs : List (List S72)} (h : bs.length ≠ 0) : bs.getLast?.getD [] ∈ bs := by
  cases bs with
  | nil => exact absurd rfl h
  | cons a l => rw [List.getLast?_eq_some_getLast (by simp)]; exact List.getLast_mem _
theorem Bnd.add {N : Nat} {bs : List (List S72)} (h : Bnd N bs) (h0 : bs.length ≠ 0) {x : S72} (hx : x.f5.length ≤ 5000) : Bnd (N + 1) (addLast bs x) := by
  have hl := last_mem h0
  refine ⟨by rw [addLast_length h0]; have := h.len; omega, fun b hb => ?_, fun b hb y hy => ?_⟩
  · unfold addLast at hb
    rcases List.mem_append.1 hb with hb | hb
    · have := h.rows b (List.dropLast_subset _ hb); omega
    · obtain rfl := List.mem_singleton.1 hb
      have := h.rows _ hl
      simp; omega
  · unfold addLast at hb
    rcases List.mem_append.1 hb with hb | hb
    · exact h.args b (List.dropLast_subset _ hb) y hy
    · obtain rfl := List.mem_singleton.1 hb
      rcases List.mem_append.1 hy with hy | hy
      · exact h.args _ hl y hy
      · obtain rfl := List.mem_singleton.1 hy; exact hx
theorem asg_f5 (code : Bool) (o : Nat) (l : List Int) (s : ByteArray) : (asg code o l s).f5.length ≤ l.length := by
  unfold asg
  repeat' split
  all_goals simp
theorem insAll_f5 {code : Bool} {t0 : ByteArray} {r : List ByteArray} (hw : (t0 :: r).length ≤ 4097) : (insAll code t0 r).1.f5.length ≤ 5000 := by
  unfold insAll
  cases opOf code (L t0) with
  | none => show z72.f5.length ≤ 5000; decide
  | some o =>
    show (insO code o (t0 :: r)).1.f5.length ≤ 5000
    unfold insO
    split
    · exact Nat.le_trans (asg_f5 _ _ _ _) (readR_le _ _ _ hw)
    · show z72.f5.length ≤ 5000; decide
theorem anyF_bnd {code : Bool} {t0 : ByteArray} {r : List ByteArray} {bs : List (List S72)} {N : Nat} (hw : (t0 :: r).length ≤ 4097) (h : Bnd N bs) (h0 : (anyF nmL (fo code) bs (t0 :: r)).1 = 0) : Bnd (N + 1) (anyF nmL (fo code) bs (t0 :: r)).2 := by
  by_cases hbk : t0.toList = lBlock
  · by_cases hr : r = []
    · subst hr
      have ha : anyF nmL (fo code) bs [t0] = (0, bs ++ [[]]) := by simp only [anyF]; rw [if_pos ⟨hbk, trivial⟩]
      rw [ha]
      exact h.push
    · rw [any_bad (.inl ⟨hbk, hr⟩)] at h0; cases h0
  · by_cases hb : bs.length = 0
    · rw [any_bad (.inr ⟨hbk, hb⟩)] at h0; cases h0
    · rw [any_ins hbk hb] at h0 ⊢
      by_cases he : (insAll code t0 r).2 = 0
      · rw [if_pos he]
        exact h.add hb (insAll_f5 hw)
      · rw [if_neg he] at h0
        exact absurd h0 he
theorem runF_bnd (code : Bool) (first : ByteArray) (heads : Nat) : ∀ (k n : Nat) (s : ByteArray) (st : St), n + s.size ≤ 4096 → Bnd n st.blocks → (runF nmL (fo code) first heads k n s st).2.1 = 0 → Bnd 4096 (runF nmL (fo code) first heads k n s st).2.2.blocks
  | 0, n, s, st, hn, hb, h => ⟨by have := hb.len; show st.blocks.length ≤ 4096; omega, fun b hm => by have := hb.rows b hm; omega, hb.args⟩
  | k + 1, n, s, st, hn, hb, h => by
    have hup : Bnd 4096 st.blocks := ⟨by have := hb.len; omega, fun b hm => by have := hb.rows b hm; omega, hb.args⟩
    rw [runF] at h ⊢
    by_cases hz : s.size = 0
    · rw [if_pos hz]; exact hup
    · rw [if_neg hz] at h ⊢
      by_cases hl : nl s < s.size
      · rw [if_pos hl] at h ⊢
        by_cases hs : (stepF nmL (fo code) first heads (n + 1) (words (s.extract 0 (nl s))) st).1 = 0
        · rw [if_pos hs] at h ⊢
          refine runF_bnd code first heads k (n + 1) _ _ (by rw [ByteArray.size_extract]; omega) ?_ h
          have hwl := words_le (s.extract 0 (nl s))
          have hts : (s.extract 0 (nl s)).size ≤ 4096 := by rw [ByteArray.size_extract]; omega
          unfold stepF at hs ⊢
          by_cases h1 : n + 1 = 1
          · rw [if_pos h1]; exact Bnd.nil _
          · rw [if_neg h1] at hs ⊢
            cases hx : words (s.extract 0 (nl s)) with
            | nil => exact absurd hx (words_ne _)
            | cons t0 r =>
              rw [hx] at hs hwl
              exact anyF_bnd (by omega) hb hs
        · rw [if_neg hs] at h
          exact absurd h hs
      · rw [if_neg hl] at h
        cases h
theorem parseAns_bnd {code : Bool} {first : ByteArray} {heads : Nat} {s : ByteArray} (hs : s.size ≤ 4096) (h : (parseAns code first heads s).2.1 = 0) : Bnd 4096 (parseAns code first heads s).2.2.blocks := by
  unfold parseAns at h ⊢
  by_cases hz : s.size = 0
  · rw [if_pos hz] at h; cases h
  · rw [if_neg hz] at h ⊢
    exact runF_bnd code first heads s.size 0 s st0 (by omega) (Bnd.nil _) h

/-! ### likeness -/
theorem same_l0 (x : S72) (hx : x.f5.length ≤ 5000) : ∀ (d i : Nat), i + d = x.f5.length → Ev (fun k => cubbyref07_Same.l0 k (i : Int) x.f0 x.f1 x.f2 x.f3 x.f4 x.f5 x.f0 x.f1 x.f2 x.f3 x.f4 x.f5) true
  | 0, i, hd => Ev.step (f := fun _ => some true) (fun k => by simp only [cubbyref07_Same.l0]; rw [if_neg (by omega)]) (Ev.now _)
  | d + 1, i, hd => by
    have hwr : wrap64 ((i : Int) + 1) = ((i + 1 : Nat) : Int) := by rw [w64 (by omega) (by omega)]; omega
    exact Ev.step (fun k => by simp only [cubbyref07_Same.l0]; rw [if_pos (by omega), if_pos (by omega), if_pos (by omega), if_pos trivial, hwr]) (same_l0 x hx d (i + 1) (by omega))
theorem same_ev (x : S72) (hx : x.f5.length ≤ 5000) : Ev (fun k => cubbyref07_Same.f k x.f0 x.f1 x.f2 x.f3 x.f4 x.f5 x.f0 x.f1 x.f2 x.f3 x.f4 x.f5) true := by
  unfold cubbyref07_Same.f
  refine Ev.congr (f := fun k => cubbyref07_Same.j0 k false x.f0 x.f1 x.f2 x.f3 x.f4 x.f5 x.f0 x.f1 x.f2 x.f3 x.f4 x.f5) (fun k => by rw [if_pos rfl, if_pos rfl, if_pos rfl, if_pos rfl, if_pos rfl, bne_self_eq_false]) ?_
  exact Ev.step (fun k => by simp only [cubbyref07_Same.j0]; rw [if_neg (by decide)]; rfl) (same_l0 x hx x.f5.length 0 (by omega))
theorem rd5_mem {bs : List (List S72)} {i : Nat} (h : i < bs.length) : rd_L5 bs (i : Int) ∈ bs := by
  unfold rd_L5
  rw [Int.toNat_natCast, List.getD_eq_getElem?_getD, List.getElem?_eq_getElem h]
  exact List.getElem_mem h
theorem rd72_mem {b : List S72} {i : Nat} (h : i < b.length) : rd_T72 b (i : Int) ∈ b := by
  unfold rd_T72
  rw [Int.toNat_natCast, List.getD_eq_getElem?_getD, List.getElem?_eq_getElem h]
  exact List.getElem_mem h
theorem blocks_l1 (bs : List (List S72)) (hb : Bnd 4096 bs) (i : Nat) (hi : i < bs.length) (next : Ev (fun k => cubbyref07_Blocks.l0 k bs bs ((i + 1 : Nat) : Int)) true) : ∀ (d j : Nat), j + d = (rd_L5 bs (i : Int)).length → Ev (fun k => cubbyref07_Blocks.l1 k bs bs (i : Int) (j : Int)) true
  | 0, j, hd => by
    have hl := hb.len
    have hwr : wrap64 ((i : Int) + 1) = ((i + 1 : Nat) : Int) := by rw [w64 (by omega) (by omega)]; omega
    exact Ev.step (fun k => by simp only [cubbyref07_Blocks.l1]; rw [if_pos (by omega), if_pos (by omega), if_neg (by omega), hwr]) next
  | d + 1, j, hd => by
    have hl := hb.len
    have hr := hb.rows _ (rd5_mem hi)
    have hwr : wrap64 ((j : Int) + 1) = ((j + 1 : Nat) : Int) := by rw [w64 (by omega) (by omega)]; omega
    have hs := same_ev (rd_T72 (rd_L5 bs (i : Int)) (j : Int)) (hb.args _ (rd5_mem hi) _ (rd72_mem (by omega)))
    refine Ev.step (fun k => ?_) (Ev.bind (f := fun k t => if t = true then cubbyref07_Blocks.l1 k bs bs (i : Int) ((j + 1 : Nat) : Int) else some false) hs ?_)
    · simp only [cubbyref07_Blocks.l1]
      rw [if_pos (by omega), if_pos (by omega), if_pos (by omega), if_pos (by omega), if_pos (by omega), if_pos (by omega), hwr]
    · simp only [if_true]
      exact blocks_l1 bs hb i hi next d (j + 1) (by omega)
theorem blocks_l0 (bs : List (List S72)) (hb : Bnd 4096 bs) : ∀ (d i : Nat), i + d = bs.length → Ev (fun k => cubbyref07_Blocks.l0 k bs bs (i : Int)) true
  | 0, i, hd => Ev.step (f := fun _ => some true) (fun k => by simp only [cubbyref07_Blocks.l0]; rw [if_neg (by omega)]) (Ev.now _)
  | d + 1, i, hd => by
    have h1 := blocks_l1 bs hb i (by omega) (blocks_l0 bs hb d (i + 1) (by omega)) (rd_L5 bs (i : Int)).length 0 (by omega)
    exact Ev.step (fun k => by simp only [cubbyref07_Blocks.l0]; rw [if_pos (by omega), if_pos (by omega), if_pos (by omega), if_pos trivial]; rfl) h1
theorem blocks_ev (bs : List (List S72)) (hb : Bnd 4096 bs) : Ev (fun k => cubbyref07_Blocks.f k bs bs) true := by
  unfold cubbyref07_Blocks.f
  exact Ev.congr (fun k => by rw [if_pos rfl]; rfl) (blocks_l0 bs hb bs.length 0 (by omega))
end Go.Proofs.YtfibkajflenekaaDoor.G
