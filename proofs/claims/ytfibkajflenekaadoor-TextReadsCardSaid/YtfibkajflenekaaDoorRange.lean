/-
  'for l := range strings.Lines(s)': the statement's law over the iterator's contract: an invariant that names what is still to come. Conditions: the invariant abides the iterator's stores into its captured variable, and the turns of the loop's own record.
-/
import Derived.Test.YtfibkajflenekaaDoorLines
namespace Go.Proofs.YtfibkajflenekaaDoor.G
set_option linter.unusedVariables false
set_option linter.unusedSimpArgs false
open Go.RowKit Go.Proofs.YtfibkajflenekaaDoorW.PrintWords Go.Proofs.YtfibkajflenekaaDoorW.PrintLast Go.Proofs.YtfibkajflenekaaDoor.PTx

/-- How the body of a round may be left. -/
def linePost (B C : Nat) (I : ByteArray → World → Prop) (Ix : World → Prop) (r : ByteArray) (V : World) : Exit → Act → World → Prop
  | .normal, _, V' => KeepsFrom B V V' ∧ V'.heap[C]? = V.heap[C]? ∧ I (restOf r) V'
  | .ret, _, V' => KeepsFrom B V V' ∧ Ix V'
  | .exit _, _, _ => False
  | .goto _, _, _ => False
  | .panic _, _, _ => False
  | .outgrown, _, _ => False

theorem wpIn_rangeFunc_lines {n : Nat} {g : Operand} {ps : Array Tmp} {assign body : Code} {Q : Exit → Act → World → Prop} {a : Act} {w : World} (hn : 2 ≤ n) (C : Nat) (s : ByteArray) (hg : a.eval g = .func (.func 69) #[] #[.pointer (some ⟨C, 0, none⟩)])
    (hs : s.size < 4611686018427387904) (hps : ps.size = 1) (hC : w.heap[C]? = some (.cells #[.string s] 9 (0, 0))) (I : ByteArray → World → Prop) (Ix : World → Prop)
    (hIs : ∀ r V u u0, I r V → V.heap[C]? = some (.cells #[u0] 9 (0, 0)) → I r (V.setCell ⟨C, 0, none⟩ u)) (hId : ∀ r V, I r V → I r V.drew)
    (hIo : ∀ r V o, I r V → w.heap.size + 1 < V.heap.size → I r (V.putObj (w.heap.size + 1) o)) (hXo : ∀ V o, Ix V → w.heap.size + 1 < V.heap.size → Ix (V.putObj (w.heap.size + 1) o))
    (h0 : ∀ rec, I s ((w.alloc (.deferred (some []))).alloc (.loop rec))) (a₁ : ByteArray → Act)
    (hassign : ∀ (l : Nat) (x : ByteArray) (V : World) (K : Act → World → Prop), K (a₁ x) V →
      assign.wpIn (Fence.wide.inRound l) (n - 1 - 1) Tryd.prog (Exit.then K (fun _ _ _ => False)) { tmps := (ps.zip #[.string x]).foldl (fun t (p, v) => t.setIfInBounds p v) a.tmps, defers := [] } V)
    (hbody : ∀ (l : Nat) (r : ByteArray) (V : World), I r V → 0 < r.size → body.wpIn (Fence.wide.inRound l) (n - 1 - 1) Tryd.prog (linePost w.heap.size C I Ix r V) (a₁ (lineOf r)) V)
    (hdone : ∀ (D : Nat) (r : ByteArray) (V : World), D = w.heap.size → r.size = 0 → I r V → V.heap[D]? = some (.deferred (some [])) → Q .normal { a with defers := { target := .collected D, args := #[] } :: a.defers } V)
    (hstop : ∀ (D : Nat) (V : World), D = w.heap.size → Ix V → V.heap[D]? = some (.deferred (some [])) → Code.ret.wpIn Fence.wide n Tryd.prog Q { a with defers := { target := .collected D, args := #[] } :: a.defers } V) :
    (Code.rangeFunc g ps assign body).wpIn Fence.wide n Tryd.prog Q a w := by
  refine wpIn_rangeFunc ?_
  intro fn hfn
  obtain ⟨rec, hrec⟩ : ∃ rec : LoopState → Option Code → Loop, rec = fun st pe => { state := st, pending := pe, fn, tmps := a.tmps, params := ps, assign, body, defers := w.heap.size } := ⟨_, rfl⟩
  obtain ⟨W1, hW1⟩ : ∃ W1, (w.alloc (.deferred (some []))).alloc (.loop (rec .ready none)) = W1 := ⟨_, rfl⟩
  have hCl := blk_lt hC
  have hL1 : W1.heap[w.heap.size + 1]? = some (.loop (rec .ready none)) := by
    rw [← hW1]; have := World.alloc_heap_new (w.alloc (.deferred (some []))) (.loop (rec .ready none)); rwa [World.size_alloc] at this
  have hK1 : W1.heap[w.heap.size]? = some (.deferred (some [])) := by
    rw [← hW1]; exact (Below.heap_alloc _ _ _ (by simp)).trans (World.alloc_heap_new w _)
  have hC1 : W1.heap[C]? = some (.cells #[.string s] 9 (0, 0)) := by
    rw [← hW1]; exact (Below.heap_alloc _ _ _ (by simp; omega)).trans ((Below.heap_alloc _ _ _ hCl).trans hC)
  have hI1 : I s W1 := by rw [← hW1]; exact h0 _
  refine ⟨w.heap.size + 1, [{ target := .collected w.heap.size, args := #[] }], W1, { target := .fn (.func 69) #[.pointer (some ⟨C, 0, none⟩)], args := #[.func (.yield (w.heap.size + 1)) #[] #[]] }, W1, 69,
    #[.func (.yield (w.heap.size + 1)) #[] #[]] ++ #[.pointer (some ⟨C, 0, none⟩)], W1, ?_, ?_, ?_, ?_, fun _ => by omega, ?_⟩
  · rw [← hW1, hrec]; exact run_enterLoop_outer _ _ _ _ _
  · simp only [resolve, hg]
    simp [go_sem]
  · intro f' hf'; exact trivial
  · have eg : ∀ args w, (callFunc 69 args).run Tryd.prog w = .ok (.enter 69 args) w := enters_of Tryd.func69 (by kernel_rfl) rfl
    simp [invoke, go_sem, eg]
  · refine (iter_run (n - 1) (w.heap.size + 1) C (by omega)
      (fun r W => I r W ∧ W.heap[w.heap.size + 1]? = some (.loop (rec .ready none)) ∧ W.heap[w.heap.size]? = some (.deferred (some [])))
      (fun W => Ix W ∧ W.heap[w.heap.size + 1]? = some (.loop (rec .done (some .ret))) ∧ W.heap[w.heap.size]? = some (.deferred (some [])))
      s W1 hs (fun r V u u0 hv hc => ⟨hIs r V u u0 hv.1 hc, (Below.heap_setCell _ _ _ _ (by show w.heap.size + 1 ≠ C; omega)).trans hv.2.1, (Below.heap_setCell _ _ _ _ (by show w.heap.size ≠ C; omega)).trans hv.2.2⟩)
      (fun r V hv => ⟨hId r V hv.1, hv.2.1, hv.2.2⟩) ?_ ⟨hI1, hL1, hK1⟩ hC1).mono ?_
    · rintro r W ⟨hi, hl, hk⟩ hpos
      have hlt : w.heap.size + 1 < W.heap.size := (Array.getElem?_eq_some_iff.1 hl).1
      have hy := run_yield (P := Tryd.prog) (args := #[.string (lineOf r)]) hl (by rw [hrec]; simp [hps])
      rw [hrec] at hy
      refine ⟨fn, _, assign, body, hy, roundIn_of_wpIn hfn (hassign _ (lineOf r) W _ ⟨_, run_beginRound hl (by rw [hrec]), ?_⟩)⟩
      have hl2 : (W.putObj (w.heap.size + 1) (.loop { rec .ready none with state := .busy })).heap[w.heap.size + 1]? = some (.loop { rec .ready none with state := .busy }) := World.putObj_heap_same hlt
      have hk2 : (W.putObj (w.heap.size + 1) (.loop { rec .ready none with state := .busy })).heap[w.heap.size]? = some (.deferred (some [])) := (World.putObj_heap_other (by omega)).trans hk
      have hc2 : (W.putObj (w.heap.size + 1) (.loop { rec .ready none with state := .busy })).heap[C]? = W.heap[C]? := World.putObj_heap_other (by omega)
      refine wpIn_mono (hbody _ r _ (hIo _ _ _ hi hlt) hpos) ?_
      have fin : ∀ (jump : Option Code) (W3 : World), KeepsFrom w.heap.size (W.putObj (w.heap.size + 1) (.loop { rec .ready none with state := .busy })) W3 →
          (Instr.endRound (w.heap.size + 1) jump).run Tryd.prog W3 = .ok (.bool jump.isNone) (W3.putObj (w.heap.size + 1) (.loop (rec (if jump.isNone then .ready else .done) jump))) ∧
          w.heap.size + 1 < W3.heap.size ∧
          (W3.putObj (w.heap.size + 1) (.loop (rec (if jump.isNone then .ready else .done) jump))).heap[w.heap.size + 1]? = some (.loop (rec (if jump.isNone then .ready else .done) jump)) ∧
          (W3.putObj (w.heap.size + 1) (.loop (rec (if jump.isNone then .ready else .done) jump))).heap[w.heap.size]? = some (.deferred (some [])) := fun jump W3 hk3 => by
        have hl3 := hk3.same _ _ (by omega) hl2 rfl
        have := run_endRound (P := Tryd.prog) jump hl3
        rw [hrec] at this ⊢
        exact ⟨this, (Array.getElem?_eq_some_iff.1 hl3).1, World.putObj_heap_same (Array.getElem?_eq_some_iff.1 hl3).1, (World.putObj_heap_other (by omega)).trans (hk3.same _ _ (Nat.le_refl _) hk2 rfl)⟩
      rintro e a3 W3 hp
      cases e with
      | normal =>
        obtain ⟨hk3, hc3, hi3⟩ := hp
        obtain ⟨hr, hl3, hl4, hk4⟩ := fin none W3 hk3
        exact ⟨_, _, hr, .inl ⟨rfl, ⟨hIo _ _ _ hi3 hl3, hl4, hk4⟩, (World.putObj_heap_other (by omega)).trans (hc3.trans hc2)⟩⟩
      | ret =>
        obtain ⟨hk3, hi3⟩ := hp
        obtain ⟨hr, hl3, hl4, hk4⟩ := fin (some .ret) W3 hk3
        exact ⟨_, _, hr, .inr ⟨rfl, hXo _ _ hi3 hl3, hl4, hk4⟩⟩
      | exit id => exact hp.elim
      | goto t => exact hp.elim
      | panic ch => exact hp.elim
      | outgrown => exact hp.elim
    · rintro e W2 ⟨⟨v, rfl⟩, (⟨r, hS, hi, hl, hk⟩ | ⟨hi, hl, hk⟩)⟩
      · exact ⟨none, _, by have := run_endLoop (P := Tryd.prog) hl (by rw [hrec]; simp); rw [hrec] at this; exact this, hdone _ r _ rfl hS (hIo _ _ _ hi (Array.getElem?_eq_some_iff.1 hl).1) ((World.putObj_heap_other (by omega)).trans hk)⟩
      · exact ⟨some .ret, _, by have := run_endLoop (P := Tryd.prog) hl (by rw [hrec]; simp); rw [hrec] at this; exact this, hstop _ _ rfl (hXo _ _ hi (Array.getElem?_eq_some_iff.1 hl).1) ((World.putObj_heap_other (by omega)).trans hk)⟩
end Go.Proofs.YtfibkajflenekaaDoor.G
