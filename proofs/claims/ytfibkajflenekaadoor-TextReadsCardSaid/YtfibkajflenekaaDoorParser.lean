/-
  (*text.parser).parse: the parser's walk over a text's lines. Conditions: the package variables hold what they hold (GW); the text is shorter than 1000000000 bytes; each word's form, and whether it is a name, is what the printed functions say.
-/
import Derived.Test.YtfibkajflenekaaDoorSteps
import Derived.RangeFuncCalls
namespace Go.Proofs.YtfibkajflenekaaDoor.G
set_option linter.unusedVariables false
set_option linter.unusedSimpArgs false
open Go.RowKit Go.Proofs.YtfibkajflenekaaDoorW.PrintWords Go.Proofs.YtfibkajflenekaaDoorW.PrintLast Go.Proofs.YtfibkajflenekaaDoor.PTx

theorem BI.agree {w w1 : World} {base : Nat} {v : Value} {xs : List (List S72)} (h : BI k72 72 48 w base v xs) (hs : w.heap.size ≤ w1.heap.size) (ha : ∀ k, base ≤ k → k < w.heap.size → w1.heap[k]? = w.heap[k]?) : BI k72 72 48 w1 base v xs := by
  rcases h with ⟨h1, h2⟩ | ⟨ini, x, vs, u, N, h1, h2⟩
  · exact .inl ⟨h1, own_move h2 (fun k hk => ha k (own_base h2 k hk) (own_lt h2 k hk))⟩
  · refine .inr ⟨ini, x, vs, u, N, h1, own_move h2.own (fun k hk => ha k (own_base h2.own k hk) (own_lt h2.own k hk)), h2.rep.imp_ (fun y cs hp => ?_), ?_, Nat.le_trans h2.le hs⟩
    · exact (Kd.slice 72 k72).M_mono (fun k hk => hk.1) ((Kd.slice 72 k72).M_move (fun k hk => ha k hk.2.1 hk.2.2.1) ((Kd.slice 72 k72).M_bound hp))
    · exact Kd.R_mono (Kd.R_move (Kd.R_bound h2.last) (fun k hk => ha k hk.2.1 hk.2.2.1)) (fun _ hk => hk.1)
theorem PS.agree {P B : Nat} {W W1 : World} {code : Bool} {first name : ByteArray} {heads : Int} {head : List Int} {blocks : List (List S72)} {vh vb : Value} (h : PS P B W code first heads name head blocks vh vb) (hs : W.heap.size ≤ W1.heap.size) (hp : W1.heap[P]? = W.heap[P]?) (ha : ∀ k, B ≤ k → k < W.heap.size → W1.heap[k]? = W.heap[k]?) : PS P B W1 code first heads name head blocks vh vb :=
  ⟨hp.trans h.cells, Kd.R_mono (Kd.R_move (Kd.R_bound h.hd) (fun k hk => ha k hk.2.1 hk.2.2.1)) (fun _ hk => hk.1), h.bl.agree hs ha⟩

/-- Between two rounds: the boxes of the call (from block q on), the parser, and that nothing else has turned. -/
structure JS (P q : Nat) (w0 : World) (code : Bool) (first : ByteArray) (heads : Nat) (V : World) (n : Nat) (st : St) (vh vb : Value) : Prop where
  box : V.heap[q]? = some (.cells #[.pointer (some ⟨P, 0, none⟩)] 75 (0, 0))
  r1 : ∃ u, V.heap[q + 1]? = some (.cells #[u] 3 (0, 0))
  r2 : ∃ u, V.heap[q + 2]? = some (.cells #[u] 24 (0, 0))
  cn : V.heap[q + 3]? = some (.cells #[.int .i64 n] 3 (0, 0))
  ps : PS P (q + 7) V code first heads st.name st.head st.blocks vh vb
  below : Below w0.heap.size w0 V
  size : q + 7 ≤ V.heap.size
section
variable {P q : Nat} {w0 : World} {code : Bool} {first : ByteArray} {heads : Nat} {V V1 : World} {n : Nat} {st : St} {vh vb : Value}
theorem JS.agree (h : JS P q w0 code first heads V n st vh vb) (hPq : P < q) (b : Nat) (hb : b = q + 4 ∨ b = q + 5 ∨ b = q + 6) (hs : V.heap.size ≤ V1.heap.size) (hw : Below w0.heap.size w0 V1) (ha : ∀ k, k ≠ b → V1.heap[k]? = V.heap[k]?) : JS P q w0 code first heads V1 n st vh vb := by
  obtain ⟨u1, h1⟩ := h.r1
  obtain ⟨u2, h2⟩ := h.r2
  exact ⟨(ha _ (by omega)).trans h.box, ⟨u1, (ha _ (by omega)).trans h1⟩, ⟨u2, (ha _ (by omega)).trans h2⟩, (ha _ (by omega)).trans h.cn, h.ps.agree hs (ha _ (by omega)) (fun k hk _ => ha k (by omega)), hw, Nat.le_trans h.size hs⟩
theorem JS.below_of (h : JS P q w0 code first heads V n st vh vb) (hb : Below V.heap.size V V1) : JS P q w0 code first heads V1 n st vh vb := by
  obtain ⟨u1, h1⟩ := h.r1
  obtain ⟨u2, h2⟩ := h.r2
  exact ⟨(hb.block _ (blk_lt h.box)).trans h.box, ⟨u1, (hb.block _ (blk_lt h1)).trans h1⟩, ⟨u2, (hb.block _ (blk_lt h2)).trans h2⟩, (hb.block _ (blk_lt h.cn)).trans h.cn, h.ps.below hb, below_then h.below h.below.size hb, Nat.le_trans h.size hb.size⟩
theorem JS.tick (h : JS P q w0 code first heads V n st vh vb) (hPq : P < q) (hw : w0.heap.size ≤ q) : JS P q w0 code first heads (V.setCell ⟨q + 3, 0, none⟩ (.int .i64 ((n : Int) + 1))) (n + 1) st vh vb := by
  obtain ⟨u1, h1⟩ := h.r1
  obtain ⟨u2, h2⟩ := h.r2
  have ha : ∀ k, k ≠ q + 3 → (V.setCell ⟨q + 3, 0, none⟩ (.int .i64 ((n : Int) + 1))).heap[k]? = V.heap[k]? := fun k hk => Below.heap_setCell _ _ _ _ hk
  exact ⟨(ha _ (by omega)).trans h.box, ⟨u1, (ha _ (by omega)).trans h1⟩, ⟨u2, (ha _ (by omega)).trans h2⟩, blk_put h.cn 0 _ rfl, h.ps.agree (by simp) (ha _ (by omega)) (fun k hk _ => ha k (by omega)), h.below.setCell (p := ⟨q + 3, 0, none⟩) (by show w0.heap.size ≤ q + 3; omega) _, by simpa using h.size⟩
theorem JS.called {st1 : St} {vh1 vb1 : Value} (h : JS P q w0 code first heads V n st vh vb) (hP : w0.heap.size ≤ P) (hPq : P < q) (hs : Soft (q + 7) (· = P) V V1) (hp : PS P (q + 7) V1 code first heads st1.name st1.head st1.blocks vh1 vb1) : JS P q w0 code first heads V1 n st1 vh1 vb1 := by
  obtain ⟨u1, h1⟩ := h.r1
  obtain ⟨u2, h2⟩ := h.r2
  have ha : ∀ k, k < q + 7 → k ≠ P → V1.heap[k]? = V.heap[k]? := fun k h1 h2 => hs.low k h1 h2
  exact ⟨(ha _ (by omega) (by omega)).trans h.box, ⟨u1, (ha _ (by omega) (by omega)).trans h1⟩, ⟨u2, (ha _ (by omega) (by omega)).trans h2⟩, (ha _ (by omega) (by omega)).trans h.cn, hp, h.below.trans (hs.below (by omega) (fun k hk => by omega)), Nat.le_trans h.size hs.size⟩
end

theorem restOf_le (r : ByteArray) (h : 0 < r.size) : (restOf r).size + 1 ≤ r.size := restOf_lt r h

theorem boxes {W W5 : World} {o0 o1 o2 o3 o4 : Obj} (h : ((((W.alloc o0).alloc o1).alloc o2).alloc o3).alloc o4 = W5) :
    W5.heap.size = W.heap.size + 5 ∧ W5.heap[W.heap.size]? = some o0 ∧ W5.heap[W.heap.size + 1]? = some o1 ∧ W5.heap[W.heap.size + 2]? = some o2 ∧ W5.heap[W.heap.size + 3]? = some o3 ∧ W5.heap[W.heap.size + 4]? = some o4 ∧ Below W.heap.size W W5 := by
  subst h
  have b : ∀ (V : World) (o : Obj), W.heap.size ≤ V.heap.size → Below W.heap.size W V → Below W.heap.size W (V.alloc o) := fun V o h hb => hb.alloc h o
  have e1 := World.alloc_heap_new W o0
  have e2 := World.alloc_heap_new (W.alloc o0) o1
  have e3 := World.alloc_heap_new ((W.alloc o0).alloc o1) o2
  have e4 := World.alloc_heap_new (((W.alloc o0).alloc o1).alloc o2) o3
  have e5 := World.alloc_heap_new ((((W.alloc o0).alloc o1).alloc o2).alloc o3) o4
  have a : ∀ (V : World) (o : Obj) (k : Nat), k < V.heap.size → (V.alloc o).heap[k]? = V.heap[k]? := fun V o k hk => Below.heap_alloc V o k hk
  simp only [World.size_alloc] at e2 e3 e4 e5
  refine ⟨by simp, ?_, ?_, ?_, ?_, e5, ?_⟩
  · exact (a _ _ _ (by simp only [World.size_alloc]; omega)).trans ((a _ _ _ (by simp only [World.size_alloc]; omega)).trans ((a _ _ _ (by simp only [World.size_alloc]; omega)).trans ((a _ _ _ (by simp only [World.size_alloc]; omega)).trans e1)))
  · exact (a _ _ _ (by simp only [World.size_alloc]; omega)).trans ((a _ _ _ (by simp only [World.size_alloc]; omega)).trans ((a _ _ _ (by simp only [World.size_alloc]; omega)).trans e2))
  · exact (a _ _ _ (by simp only [World.size_alloc]; omega)).trans ((a _ _ _ (by simp only [World.size_alloc]; omega)).trans e3)
  · exact (a _ _ _ (by simp only [World.size_alloc]; omega)).trans e4
  · exact b _ _ (by simp only [World.size_alloc]; omega) (b _ _ (by simp only [World.size_alloc]; omega) (b _ _ (by simp only [World.size_alloc]; omega) (b _ _ (by simp) (b _ _ (by simp) (Below.refl _ _)))))

theorem addLast_length {bs : List (List S72)} (h : bs.length ≠ 0) (x : S72) : (addLast bs x).length = bs.length := by
  unfold addLast
  rw [List.length_append, List.length_dropLast]
  simp; omega
theorem addLast_last (bs : List (List S72)) (x : S72) : (addLast bs x).getLast?.getD [] = bs.getLast?.getD [] ++ [x] := by simp [addLast]
theorem anyF_bounds {nm : ByteArray → Bool} {fo : ByteArray → FormT} {bs : List (List S72)} {ws : List ByteArray} (h : (anyF nm fo bs ws).1 = 0) {m : Nat} (h1 : bs.length ≤ m) (h2 : (bs.getLast?.getD []).length ≤ m) : (anyF nm fo bs ws).2.length ≤ m + 1 ∧ ((anyF nm fo bs ws).2.getLast?.getD []).length ≤ m + 1 := by
  unfold anyF at h ⊢
  split at h
  · cases h
  · rename_i t0 r
    by_cases hb : t0.toList = lBlock ∧ r = []
    · simp only [if_pos hb]
      exact ⟨by simp; omega, by simp⟩
    · simp only [if_neg hb] at h ⊢
      unfold lineF at h ⊢
      split at h
      · cases h
      · rename_i hc
        rw [if_neg hc]
        split at h
        · cases h
        · rename_i hd
          rw [if_neg hd]
          split at h
          · rename_i he
            rw [if_pos he]
            refine ⟨by rw [addLast_length (fun e => hc (.inr e))]; omega, ?_⟩
            show ((addLast bs _).getLast?.getD []).length ≤ m + 1
            rw [addLast_last]
            simp; omega
          · rename_i he
            exact absurd h he
theorem stepF_bounds {nm : ByteArray → Bool} {fo : ByteArray → FormT} {first : ByteArray} {heads : Nat} {ws : List ByteArray} {st : St} {m : Nat} (h : (stepF nm fo first heads (m + 1) ws st).1 = 0) (h1 : st.blocks.length ≤ m) (h2 : (st.blocks.getLast?.getD []).length ≤ m) :
    (stepF nm fo first heads (m + 1) ws st).2.blocks.length ≤ m + 1 ∧ ((stepF nm fo first heads (m + 1) ws st).2.blocks.getLast?.getD []).length ≤ m + 1 := by
  unfold stepF at h ⊢
  split at h
  · rename_i hm
    rw [if_pos hm]
    exact ⟨by simp, by simp⟩
  · rename_i hm
    rw [if_neg hm]
    exact anyF_bounds h h1 h2

/-- What holds between two rounds, r still to come. -/
def IL (nm : ByteArray → Bool) (fo : ByteArray → FormT) (P q : Nat) (w0 : World) (code : Bool) (first : ByteArray) (heads N : Nat) (fin : Int × Int × St) (r : ByteArray) (V : World) : Prop :=
  ∃ (m k : Nat) (st : St) (vh vb : Value), JS P q w0 code first heads V m st vh vb ∧ (m = 0 → st = ⟨⟨#[]⟩, [], []⟩ ∧ vh = .slice none 0 0 ∧ vb = .slice none 0 0) ∧ r.size ≤ k ∧ runF nm fo first heads k m r st = fin ∧ m + r.size ≤ N ∧ st.blocks.length ≤ m ∧ (st.blocks.getLast?.getD []).length ≤ m
/-- A round has returned. -/
def XL (q : Nat) (w0 : World) (fin : Int × Int × St) (V : World) : Prop :=
  fin.2.1 ≠ 0 ∧ V.heap[q + 1]? = some (.cells #[.int .i64 fin.1] 3 (0, 0)) ∧ V.heap[q + 2]? = some (.cells #[.int .i64 fin.2.1] 24 (0, 0)) ∧ Below w0.heap.size w0 V

theorem step_call (nm : ByteArray → Bool) (fo : ByteArray → FormT) (P q tb m N : Nat) (w0 : World) (code : Bool) (first : ByteArray) (heads : Nat) (st : St) (vh vb : Value) (V : World) (t : ByteArray) (hG0 : GW w0) (hP0 : w0.heap.size ≤ P) (hPq : P < q) (hh1 : 1 ≤ heads) (hh : heads < 1000)
    (hJ : JS P q w0 code first heads V (m + 1) st vh vb) (hi : m = 0 → st = ⟨⟨#[]⟩, [], []⟩ ∧ vh = .slice none 0 0 ∧ vb = .slice none 0 0) (hW : WordsAt V tb (words t)) (hB : q + 7 ≤ tb) (ht : t.size ≤ N) (hN : N < 1000000000) (hm : m ≤ N) (h1 : st.blocks.length ≤ m) (h2 : (st.blocks.getLast?.getD []).length ≤ m)
    (hnm : ∀ t : ByteArray, t.size ≤ N → ir_Name.f t = some (nm t)) (hfo : ∀ t : ByteArray, t.size ≤ N → FormOk code t (fo t)) :
    Calls Tryd.prog (if m = 0 then 50 else 51) #[.pointer (some ⟨P, 0, none⟩), .slice (some ⟨tb, 0, none⟩) (words t).length (words t).length] V fun e V' =>
      e = .returned (.int .i64 (stepF nm fo first heads (m + 1) (words t) st).1) ∧ Soft (q + 7) (· = P) V V' ∧ ((stepF nm fo first heads (m + 1) (words t) st).1 = 0 → ∃ vh' vb', JS P q w0 code first heads V' (m + 1) (stepF nm fo first heads (m + 1) (words t) st).2 vh' vb') := by
  have hG := GW_below hG0 hJ.below
  have hle := words_le t
  have hsz : ∀ (i : Nat) (u : ByteArray), (words t)[i]? = some u → u.size ≤ N := fun i u hu => Nat.le_trans (words_size t u i hu) ht
  by_cases hm0 : m = 0
  · obtain ⟨rfl, rfl, rfl⟩ := hi hm0
    rw [if_pos hm0]
    have hst : stepF nm fo first heads (m + 1) (words t) ⟨⟨#[]⟩, [], []⟩ = ((topF nm first heads (words t)).1, ⟨(topF nm first heads (words t)).2.1, (topF nm first heads (words t)).2.2, []⟩) := by unfold stepF; rw [if_pos (by omega)]
    rw [hst]
    refine (top_any nm P (q + 7) tb code first heads (words t) V w0 hG0 hP0 hJ.below (by omega) hB (fun i u hu => by have := hsz i u hu; omega) hJ.ps hW (by omega) (words_ne t) hh1 hh (fun i u hu => hnm u (hsz i u hu))).mono ?_
    rintro e V' ⟨rfl, hs, hp⟩
    refine ⟨rfl, hs, fun h0 => ?_⟩
    obtain ⟨vh', hp'⟩ := hp h0
    exact ⟨vh', _, hJ.called hP0 hPq hs hp'⟩
  · rw [if_neg hm0]
    have hst : stepF nm fo first heads (m + 1) (words t) st = ((anyF nm fo st.blocks (words t)).1, ⟨st.name, st.head, (anyF nm fo st.blocks (words t)).2⟩) := by unfold stepF; rw [if_neg (by omega)]
    rw [hst]
    refine (line_any nm fo P (q + 7) tb code first heads st.name st.head st.blocks (words t) V hG vh vb (by omega) hJ.size hJ.ps hW (words_ne t) (by omega) (by omega) (by omega) (fun i u hu => hfo u (hsz i u hu)) (fun i u hu => by have := hsz i u hu; omega) (fun i u hu => hnm u (hsz i u hu))).mono ?_
    rintro e V' ⟨rfl, hs, hp⟩
    refine ⟨rfl, hs, fun h0 => ?_⟩
    obtain ⟨vb', hp'⟩ := hp h0
    exact ⟨vh, vb', hJ.called hP0 hPq hs hp'⟩

attribute [local go_sem] Oper.semAt_some
set_option maxHeartbeats 8000000 in
set_option maxRecDepth 100000 in
theorem parse_go (nm : ByteArray → Bool) (fo : ByteArray → FormT) (n P : Nat) (code : Bool) (first : ByteArray) (heads : Nat) (s : ByteArray) (W w0 : World) (hn : 6 ≤ n) (hG0 : GW w0) (hP0 : w0.heap.size ≤ P) (hb0 : Below w0.heap.size w0 W)
    (hP : W.heap[P]? = some (.cells #[.bool code, .string first, .int .i64 heads, .string ⟨#[]⟩, .slice none 0 0, .slice none 0 0] 77 (0, 0))) (hh1 : 1 ≤ heads) (hh : heads < 1000) (hs : s.size < 1000000000) (hpos : 0 < s.size)
    (hnm : ∀ t : ByteArray, t.size ≤ s.size → ir_Name.f t = some (nm t)) (hfo : ∀ t : ByteArray, t.size ≤ s.size → FormOk code t (fo t)) (fin : Int × Int × St) (hfin : runF nm fo first heads s.size 0 s ⟨⟨#[]⟩, [], []⟩ = fin) :
    CallsIn Fence.wide n Tryd.prog 34 #[.pointer (some ⟨P, 0, none⟩), .string s] W fun e W' => e = .returned (.tuple #[.int .i64 fin.1, .int .i64 fin.2.1]) ∧ Below w0.heap.size w0 W' ∧
      (fin.2.1 = 0 → ∃ vh vb, PS P (W.heap.size + 7) W' code first heads fin.2.2.name fin.2.2.head fin.2.2.blocks vh vb) := by
  refine callsIn_of_wp_marks Tryd.func34 rfl trivial ?_ rfl
  simp only [Tryd.ntmps34, List.size_toArray, List.length_cons, List.length_nil, Nat.reduceAdd, Nat.reduceSub, Array.replicate_succ, Array.replicate_zero, List.push_toArray, List.append_toArray, List.nil_append, List.cons_append]
  have hne : ¬ s.toList = [] := fun h => by rw [ByteArray.toList_eq] at h; have h1 : s.data.toList.length = s.size := (by simp); rw [h] at h1; simp at h1; omega
  have c1 : (s.toList == ([] : List UInt8)) = false := beq_eq_false_iff_ne.mpr hne
  have c2 : (s.toList != ([] : List UInt8)) = true := bne_iff_ne.mpr hne
  have HP := Lib.hid hP
  have HF := Lib.hid hfin
  have HB := Lib.hid hb0
  clear hP hfin hb0 hne
  gi_wp2
  refine ⟨trivial, fun _ => by omega, ((callsIn_wide (n := n - 1)).2 (Lines_calls _ _)).mono ?_⟩
  rintro e w' ⟨rfl, rfl⟩
  gi_wp2
  obtain ⟨W5, hW5⟩ : ∃ W5, ((((W.alloc (.cells #[.pointer (some ⟨P, 0, none⟩)] 75)).alloc (.cells #[.int .i64 0] 3)).alloc (.cells #[.int .i64 0] 24)).alloc (.cells #[.int .i64 0] 3)).alloc (.cells #[.string s] 9) = W5 := ⟨_, rfl⟩
  rw [hW5]
  obtain ⟨z5, b0, b1, b2, b3, b4, hb5⟩ := boxes hW5
  obtain ⟨q, hq⟩ : ∃ q, W.heap.size = q := ⟨_, rfl⟩
  have hPq : P < q := by rw [← hq]; exact blk_lt HP.out
  have HB5 := Lib.hid (below_then HB.out HB.out.size hb5)
  have HP5 := Lib.hid ((hb5.block P (blk_lt HP.out)).trans HP.out)
  clear hW5 hb5
  simp only [World.size_alloc, hq, Nat.add_assoc, Nat.reduceAdd] at z5 b0 b1 b2 b3 b4 ⊢
  have Hb0 := Lib.hid b0
  have Hb1 := Lib.hid b1
  have Hb2 := Lib.hid b2
  have Hb3 := Lib.hid b3
  clear b0 b1 b2 b3
  have hz0 : w0.heap.size ≤ q := by omega
  refine wpIn_rangeFunc_lines (by omega) (q + 4) s rfl (by omega) rfl b4 (IL nm fo P q w0 code first heads s.size fin) (XL q w0 fin) ?hIs ?hId ?hIo ?hXo ?h0
    (fun x => { tmps := #[.pointer (some ⟨P, 0, none⟩), .string s, .pointer (some ⟨q, 0, none⟩), undef, .pointer (some ⟨q + 1, 0, none⟩), .pointer (some ⟨q + 2, 0, none⟩), .pointer (some ⟨q + 3, 0, none⟩), .string x, undef, undef, undef, undef, .string s, .bool false, .string s, .func (.func 69) #[] #[.pointer (some ⟨q + 4, 0, none⟩)], .string x, undef, undef, undef, undef, undef, undef, undef, undef, undef, undef, undef, undef, undef, undef, undef, undef, undef, undef, undef, undef, undef, undef, undef, undef], defers := [] }) ?assign ?body ?done ?stop
  case hIs =>
    rintro r V u u0 ⟨m, k, st, vh, vb, hJ, hi⟩ hc
    exact ⟨m, k, st, vh, vb, hJ.agree hPq (q + 4) (.inl rfl) (by simp) (hJ.below.setCell (p := ⟨q + 4, 0, none⟩) (by show w0.heap.size ≤ q + 4; omega) u) (fun k hk => Below.heap_setCell _ _ _ _ hk), hi⟩
  case hId =>
    rintro r V ⟨m, k, st, vh, vb, hJ, hi⟩
    exact ⟨m, k, st, vh, vb, hJ.agree hPq (q + 4) (.inl rfl) (Nat.le_refl _) (below_drew hJ.below) (fun k hk => rfl), hi⟩
  case hIo =>
    rintro r V o ⟨m, k, st, vh, vb, hJ, hi⟩ hl
    rw [z5] at hl ⊢
    exact ⟨m, k, st, vh, vb, hJ.agree hPq (q + 6) (.inr (.inr rfl)) (by simp) (hJ.below.trans ((Below.refl _ V).grown (grownBy_putObj' V (q + 6) o) (by have := hJ.below.size; omega) (fun k e => by cases e; omega))) (fun k hk => World.putObj_heap_other hk), hi⟩
  case hXo =>
    rintro V o ⟨h1, h2, h3, h4⟩ hl
    rw [z5] at hl ⊢
    exact ⟨h1, (World.putObj_heap_other (by omega)).trans h2, (World.putObj_heap_other (by omega)).trans h3, h4.trans ((Below.refl _ V).grown (grownBy_putObj' V (q + 6) o) (by have := h4.size; omega) (fun k e => by cases e; omega))⟩
  case h0 =>
    intro rec
    have hbl : Below W5.heap.size W5 ((W5.alloc (.deferred (some []))).alloc (.loop rec)) := ((Below.refl _ W5).alloc (Nat.le_refl _) _).alloc (by simp) _
    refine ⟨0, s.size, ⟨⟨#[]⟩, [], []⟩, .slice none 0 0, .slice none 0 0, ?_, fun _ => ⟨rfl, rfl, rfl⟩, Nat.le_refl _, HF.out, by omega, Nat.le_refl _, Nat.le_refl _⟩
    exact ⟨(hbl.block _ (by omega)).trans Hb0.out, ⟨_, (hbl.block _ (by omega)).trans Hb1.out⟩, ⟨_, (hbl.block _ (by omega)).trans Hb2.out⟩, (hbl.block _ (by omega)).trans Hb3.out, ⟨(hbl.block _ (by omega)).trans HP5.out, Kd.R_nil _ _ _ _ _, .inl ⟨rfl, World.ownsRow_nil _ _ _ _⟩⟩, below_then HB5.out HB5.out.size hbl, by simp; omega⟩
  case assign =>
    intro l x V K hK
    gi_wp2
    exact hK
  case body =>
    rintro l r V ⟨m, k, st, vh, vb, hJ, hi, hk, hrun, hmr, hb1, hb2⟩ hrpos
    have hJ1 := hJ.tick hPq hz0
    have hc3 : V.cell? ⟨q + 3, 0, none⟩ = some (.int .i64 m) := (blk_cell hJ.cn 0).trans rfl
    have hf3 := blk_frozen hJ.cn 0
    obtain ⟨k0, rfl⟩ : ∃ k0, k = k0 + 1 := ⟨k - 1, by omega⟩
    have hrz : ¬ r.size = 0 := by omega
    simp only [runF] at hrun
    rw [if_neg hrz] at hrun
    by_cases hnl : nl r < r.size
    · rw [if_pos hnl] at hrun
      have hrest : restOf r = r.extract (nl r + 1) r.size := if_pos hnl
      have hrl := restOf_le r hrpos
      rw [hrest] at hrl
      have HRest := Lib.hid (And.intro hrest hrl)
      have hts : (r.extract 0 (nl r)).size ≤ s.size := by rw [ByteArray.size_extract]; omega
      have HC := Lib.hid (CallsIn.inRound l ((callsIn_wide (n := n - 1 - 1 - 1)).2 (cut_hit' r (V.setCell ⟨q + 3, 0, none⟩ (.int .i64 ((m : Int) + 1))) hnl (by omega))))
      have hsp := split_words (r.extract 0 (nl r)) (V.setCell ⟨q + 3, 0, none⟩ (.int .i64 ((m : Int) + 1))) (GW_below hG0 hJ1.below) (by omega)
      rw [show (V.setCell ⟨q + 3, 0, none⟩ (.int .i64 ((m : Int) + 1))).heap.size = V.heap.size by simp] at hsp
      have HSp := Lib.hid (CallsIn.inRound l ((callsIn_wide (n := n - 1 - 1 - 1)).2 hsp))
      obtain ⟨sr, hsr⟩ : ∃ sr, stepF nm fo first heads (m + 1) (words (r.extract 0 (nl r))) st = sr := ⟨_, rfl⟩
      rw [hsr] at hrun
      have Hsr := Lib.hid hsr
      have HRun := Lib.hid hrun
      have HJ1 := Lib.hid hJ1
      have HI := Lib.hid hi
      have HVz := Lib.hid hJ.size
      clear hJ hJ1 hi hrun hsp hsr hrest hnl hrz
      gi_wp2
      refine ⟨trivial, fun _ => by omega, HC.out.mono ?_⟩
      rintro e V2 ⟨rfl, rfl⟩
      gi_wp2
      refine ⟨trivial, fun _ => by omega, HSp.out.mono ?_⟩
      rintro e V2 ⟨rfl, hW, hb⟩
      have hb' : Below (V.setCell ⟨q + 3, 0, none⟩ (.int .i64 ((m : Int) + 1))).heap.size (V.setCell ⟨q + 3, 0, none⟩ (.int .i64 ((m : Int) + 1))) V2 := by simpa using hb
      have hJ2 := HJ1.out.below_of hb'
      have HKF := Lib.hid (((KeepsOthers.setCell V ⟨q + 3, 0, none⟩ (.int .i64 ((m : Int) + 1))).from W5.heap.size).trans ((Soft.of_below (S := fun _ => False) (Nat.le_refl _) hb').keepsFrom W5.heap.size))
      have HCC : Hid (V2.heap[q + 4]? = V.heap[q + 4]?) := Lib.hid ((hb.block (q + 4) (by have := HVz.out; omega)).trans (Below.heap_setCell _ _ _ _ (by show q + 4 ≠ q + 3; omega)))
      have hcb : V2.cell? ⟨q, 0, none⟩ = some (.pointer (some ⟨P, 0, none⟩)) := (blk_cell hJ2.box 0).trans rfl
      have hcn : V2.cell? ⟨q + 3, 0, none⟩ = some (.int .i64 ((m : Int) + 1)) := (blk_cell hJ2.cn 0).trans rfl
      have hst := step_call nm fo P q V.heap.size m s.size w0 code first heads st vh vb V2 (r.extract 0 (nl r)) hG0 hP0 hPq hh1 hh hJ2 HI.out hW HVz.out hts hs (by omega) hb1 hb2 hnm hfo
      rw [Hsr.out] at hst
      have HJ2 := Lib.hid hJ2
      clear hJ2 hb hb' hW hc3 hf3 HC HSp HJ1
      by_cases hm0 : m = 0
      · rw [if_pos hm0] at hst
        have HX := Lib.hid (CallsIn.inRound l ((callsIn_wide (n := n - 1 - 1 - 1)).2 hst))
        have q1 : ((m : Int) + 1 == 1) = true := beq_iff_eq.mpr (by omega)
        have Hm0 := Lib.hid hm0
        clear hst hm0
        gi_wp2
        refine ⟨trivial, fun _ => by omega, HX.out.mono ?_⟩
        rintro e V3 ⟨rfl, hS, hO⟩
        have HS3 := Lib.hid hS
        have HO3 := Lib.hid hO
        have hkf := Lib.hid ((HKF.out).trans (hS.keepsFrom W5.heap.size))
        have hcC := Lib.hid ((hS.low (q + 4) (by omega) (by omega)).trans HCC.out)
        obtain ⟨u1, e1⟩ := HJ2.out.r1
        obtain ⟨u2, e2⟩ := HJ2.out.r2
        have f1 := (hS.low (q + 1) (by omega) (by omega)).trans e1
        have f2 := (hS.low (q + 2) (by omega) (by omega)).trans e2
        have f3 := (hS.low (q + 3) (by omega) (by omega)).trans HJ2.out.cn
        have g1 : V3.cell? ⟨q + 1, 0, none⟩ = some u1 := (blk_cell f1 0).trans rfl
        have g1f := blk_frozen f1 0
        have g2 : V3.cell? ⟨q + 2, 0, none⟩ = some u2 := (blk_cell f2 0).trans rfl
        have g2f := blk_frozen f2 0
        have g3 : V3.cell? ⟨q + 3, 0, none⟩ = some (.int .i64 ((m : Int) + 1)) := (blk_cell f3 0).trans rfl
        have F1 := Lib.hid f1
        have F2 := Lib.hid f2
        have bS := Lib.hid (HJ2.out.below.trans (hS.below (b := w0.heap.size) (by omega) (fun k hk => by omega)))
        clear hS hO e1 e2 f1 f2 f3
        by_cases h0 : sr.1 = 0
        · have p1 : (sr.1 != 0) = false := bne_eq_false_iff_eq.mpr h0
          have p2 : (sr.1 == 0) = true := beq_iff_eq.mpr h0
          have H0 := Lib.hid h0
          clear h0
          gi_wp2
          have hrun := HRun.out
          rw [if_pos H0.out] at hrun
          obtain ⟨vh', vb', hJ3⟩ := HO3.out H0.out
          have hbb := stepF_bounds (nm := nm) (fo := fo) (first := first) (heads := heads) (ws := words (r.extract 0 (nl r))) (st := st) (m := m) (by rw [Hsr.out]; exact H0.out) hb1 hb2
          rw [Hsr.out] at hbb
          exact ⟨hkf.out, hcC.out, m + 1, k0, sr.2, vh', vb', hJ3, fun h => absurd h (by omega), by have := HRest.out; rw [this.1]; omega, by have := HRest.out; rw [this.1]; exact hrun, by have := HRest.out; rw [this.1]; omega, hbb.1, hbb.2⟩
        · have p1 : (sr.1 != 0) = true := bne_iff_ne.mpr h0
          have p2 : (sr.1 == 0) = false := beq_eq_false_iff_ne.mpr h0
          have H0 := Lib.hid h0
          clear h0
          gi_wp2
          have hrun := HRun.out
          rw [if_neg H0.out] at hrun
          refine ⟨(hkf.out.trans ((KeepsOthers.setCell _ _ _).from _)).trans ((KeepsOthers.setCell _ _ _).from _), ?_, ?_, ?_, ?_⟩
          · rw [← hrun]; exact H0.out
          · rw [← hrun]; exact (Below.heap_setCell _ _ _ _ (by show q + 1 ≠ q + 2; omega)).trans (blk_put F1.out 0 _ rfl)
          · rw [← hrun]; exact blk_put ((Below.heap_setCell _ _ _ _ (by show q + 2 ≠ q + 1; omega)).trans F2.out) 0 _ rfl
          · exact (bS.out.setCell (p := ⟨q + 1, 0, none⟩) (by show w0.heap.size ≤ q + 1; omega) _).setCell (p := ⟨q + 2, 0, none⟩) (by show w0.heap.size ≤ q + 2; omega) _
      · rw [if_neg hm0] at hst
        have HX := Lib.hid (CallsIn.inRound l ((callsIn_wide (n := n - 1 - 1 - 1)).2 hst))
        have q1 : ((m : Int) + 1 == 1) = false := beq_eq_false_iff_ne.mpr (by omega)
        have Hm0 := Lib.hid hm0
        clear hst hm0
        gi_wp2
        refine ⟨trivial, fun _ => by omega, HX.out.mono ?_⟩
        rintro e V3 ⟨rfl, hS, hO⟩
        have HS3 := Lib.hid hS
        have HO3 := Lib.hid hO
        have hkf := Lib.hid ((HKF.out).trans (hS.keepsFrom W5.heap.size))
        have hcC := Lib.hid ((hS.low (q + 4) (by omega) (by omega)).trans HCC.out)
        obtain ⟨u1, e1⟩ := HJ2.out.r1
        obtain ⟨u2, e2⟩ := HJ2.out.r2
        have f1 := (hS.low (q + 1) (by omega) (by omega)).trans e1
        have f2 := (hS.low (q + 2) (by omega) (by omega)).trans e2
        have f3 := (hS.low (q + 3) (by omega) (by omega)).trans HJ2.out.cn
        have g1 : V3.cell? ⟨q + 1, 0, none⟩ = some u1 := (blk_cell f1 0).trans rfl
        have g1f := blk_frozen f1 0
        have g2 : V3.cell? ⟨q + 2, 0, none⟩ = some u2 := (blk_cell f2 0).trans rfl
        have g2f := blk_frozen f2 0
        have g3 : V3.cell? ⟨q + 3, 0, none⟩ = some (.int .i64 ((m : Int) + 1)) := (blk_cell f3 0).trans rfl
        have F1 := Lib.hid f1
        have F2 := Lib.hid f2
        have bS := Lib.hid (HJ2.out.below.trans (hS.below (b := w0.heap.size) (by omega) (fun k hk => by omega)))
        clear hS hO e1 e2 f1 f2 f3
        by_cases h0 : sr.1 = 0
        · have p1 : (sr.1 != 0) = false := bne_eq_false_iff_eq.mpr h0
          have p2 : (sr.1 == 0) = true := beq_iff_eq.mpr h0
          have H0 := Lib.hid h0
          clear h0
          gi_wp2
          have hrun := HRun.out
          rw [if_pos H0.out] at hrun
          obtain ⟨vh', vb', hJ3⟩ := HO3.out H0.out
          have hbb := stepF_bounds (nm := nm) (fo := fo) (first := first) (heads := heads) (ws := words (r.extract 0 (nl r))) (st := st) (m := m) (by rw [Hsr.out]; exact H0.out) hb1 hb2
          rw [Hsr.out] at hbb
          exact ⟨hkf.out, hcC.out, m + 1, k0, sr.2, vh', vb', hJ3, fun h => absurd h (by omega), by have := HRest.out; rw [this.1]; omega, by have := HRest.out; rw [this.1]; exact hrun, by have := HRest.out; rw [this.1]; omega, hbb.1, hbb.2⟩
        · have p1 : (sr.1 != 0) = true := bne_iff_ne.mpr h0
          have p2 : (sr.1 == 0) = false := beq_eq_false_iff_ne.mpr h0
          have H0 := Lib.hid h0
          clear h0
          gi_wp2
          have hrun := HRun.out
          rw [if_neg H0.out] at hrun
          refine ⟨(hkf.out.trans ((KeepsOthers.setCell _ _ _).from _)).trans ((KeepsOthers.setCell _ _ _).from _), ?_, ?_, ?_, ?_⟩
          · rw [← hrun]; exact H0.out
          · rw [← hrun]; exact (Below.heap_setCell _ _ _ _ (by show q + 1 ≠ q + 2; omega)).trans (blk_put F1.out 0 _ rfl)
          · rw [← hrun]; exact blk_put ((Below.heap_setCell _ _ _ _ (by show q + 2 ≠ q + 1; omega)).trans F2.out) 0 _ rfl
          · exact (bS.out.setCell (p := ⟨q + 1, 0, none⟩) (by show w0.heap.size ≤ q + 1; omega) _).setCell (p := ⟨q + 2, 0, none⟩) (by show w0.heap.size ≤ q + 2; omega) _
    · rw [if_neg hnl] at hrun
      have HC := Lib.hid (CallsIn.inRound l ((callsIn_wide (n := n - 1 - 1 - 1)).2 (cut_miss' r (V.setCell ⟨q + 3, 0, none⟩ (.int .i64 ((m : Int) + 1))) hnl (by omega))))
      obtain ⟨u1, e1⟩ := hJ1.r1
      obtain ⟨u2, e2⟩ := hJ1.r2
      have g1 : (V.setCell ⟨q + 3, 0, none⟩ (.int .i64 ((m : Int) + 1))).cell? ⟨q + 1, 0, none⟩ = some u1 := (blk_cell e1 0).trans rfl
      have g1f := blk_frozen e1 0
      have g2 : (V.setCell ⟨q + 3, 0, none⟩ (.int .i64 ((m : Int) + 1))).cell? ⟨q + 2, 0, none⟩ = some u2 := (blk_cell e2 0).trans rfl
      have g2f := blk_frozen e2 0
      have g3 : (V.setCell ⟨q + 3, 0, none⟩ (.int .i64 ((m : Int) + 1))).cell? ⟨q + 3, 0, none⟩ = some (.int .i64 ((m : Int) + 1)) := (blk_cell hJ1.cn 0).trans rfl
      have F1 := Lib.hid e1
      have F2 := Lib.hid e2
      have HJ1 := Lib.hid hJ1
      have HRun := Lib.hid hrun
      clear e1 e2 hJ1 hJ hi hrun
      gi_wp2
      refine ⟨trivial, fun _ => by omega, HC.out.mono ?_⟩
      rintro e V2 ⟨t, rfl, rfl⟩
      gi_wp2
      have hrun := HRun.out
      refine ⟨(((KeepsOthers.setCell _ _ _).from _).trans ((KeepsOthers.setCell _ _ _).from _)).trans ((KeepsOthers.setCell _ _ _).from _), ?_, ?_, ?_, ?_⟩
      · rw [← hrun]; show (80 : Int) ≠ 0; decide
      · rw [← hrun]; exact (Below.heap_setCell _ _ _ _ (by show q + 1 ≠ q + 2; omega)).trans (blk_put F1.out 0 _ rfl)
      · rw [← hrun]; exact blk_put ((Below.heap_setCell _ _ _ _ (by show q + 2 ≠ q + 1; omega)).trans F2.out) 0 _ rfl
      · exact (HJ1.out.below.setCell (p := ⟨q + 1, 0, none⟩) (by show w0.heap.size ≤ q + 1; omega) _).setCell (p := ⟨q + 2, 0, none⟩) (by show w0.heap.size ≤ q + 2; omega) _
  case done =>
    rintro D r V hDe hr ⟨m, k, st, vh, vb, hJ, hi, hk, hrun, _⟩ hD
    rw [z5] at hDe
    subst hDe
    rw [runF_end hr] at hrun
    subst hrun
    obtain ⟨x1, h1⟩ := hJ.r1
    obtain ⟨x2, h2⟩ := hJ.r2
    have hD1 : q + 5 ≠ q + 1 := fun e => by rw [e, h1] at hD; cases hD
    have hD2 : q + 5 ≠ q + 2 := fun e => by rw [e, h2] at hD; cases hD
    have hDP : q + 5 ≠ P := fun e => by rw [e, hJ.ps.cells] at hD; cases hD
    have hf1 := blk_frozen h1 0
    have hf2 := blk_frozen h2 0
    have hc1 : V.cell? ⟨q + 1, 0, none⟩ = some x1 := (blk_cell h1 0).trans rfl
    have hc2 : V.cell? ⟨q + 2, 0, none⟩ = some x2 := (blk_cell h2 0).trans rfl
    have HJ := Lib.hid hJ
    have HD := Lib.hid hD
    have H1 := Lib.hid h1
    have H2 := Lib.hid h2
    clear hJ hD h1 h2
    gi_wp2
    have hD3 : ((V.setCell ⟨q + 1, 0, none⟩ (.int .i64 0)).setCell ⟨q + 2, 0, none⟩ (.int .i64 0)).heap[q + 5]? = some (.deferred (some [])) := (Below.heap_setCell _ _ _ _ hD2).trans ((Below.heap_setCell _ _ _ _ hD1).trans HD.out)
    refine ⟨by simp, .inl ⟨_, _, rfl, run_takeDeferred hD3, ?_⟩⟩
    have g1 : (((V.setCell ⟨q + 1, 0, none⟩ (.int .i64 0)).setCell ⟨q + 2, 0, none⟩ (.int .i64 0)).putObj (q + 5) (.deferred none)).heap[q + 1]? = some (.cells #[.int .i64 0] 3 (0, 0)) := (World.putObj_heap_other (Ne.symm hD1)).trans ((Below.heap_setCell _ _ _ _ (by show q + 1 ≠ q + 2; omega)).trans (blk_put H1.out 0 _ rfl))
    have g2 : (((V.setCell ⟨q + 1, 0, none⟩ (.int .i64 0)).setCell ⟨q + 2, 0, none⟩ (.int .i64 0)).putObj (q + 5) (.deferred none)).heap[q + 2]? = some (.cells #[.int .i64 0] 24 (0, 0)) := (World.putObj_heap_other (Ne.symm hD2)).trans (blk_put ((Below.heap_setCell _ _ _ _ (by show q + 2 ≠ q + 1; omega)).trans H2.out) 0 _ rfl)
    have g3 := (blk_cell g1 0).trans (show (#[Value.int .i64 0])[0]? = some (.int .i64 0) from rfl)
    have g4 := (blk_cell g2 0).trans (show (#[Value.int .i64 0])[0]? = some (.int .i64 0) from rfl)
    have bS : Below w0.heap.size w0 ((V.setCell ⟨q + 1, 0, none⟩ (.int .i64 0)).setCell ⟨q + 2, 0, none⟩ (.int .i64 0)) := (HJ.out.below.setCell (p := ⟨q + 1, 0, none⟩) (by show w0.heap.size ≤ q + 1; omega) _).setCell (p := ⟨q + 2, 0, none⟩) (by show w0.heap.size ≤ q + 2; omega) _
    have bD : Below w0.heap.size w0 (((V.setCell ⟨q + 1, 0, none⟩ (.int .i64 0)).setCell ⟨q + 2, 0, none⟩ (.int .i64 0)).putObj (q + 5) (.deferred none)) := bS.trans ((Below.refl _ _).grown (grownBy_putObj' _ (q + 5) _) (by have := bS.size; omega) (fun k e => by cases e; omega))
    have hag : ∀ k, k ≠ q + 1 → k ≠ q + 2 → k ≠ q + 5 → (((V.setCell ⟨q + 1, 0, none⟩ (.int .i64 0)).setCell ⟨q + 2, 0, none⟩ (.int .i64 0)).putObj (q + 5) (.deferred none)).heap[k]? = V.heap[k]? := fun k n1 n2 n3 => (World.putObj_heap_other n3).trans ((Below.heap_setCell _ _ _ _ n2).trans (Below.heap_setCell _ _ _ _ n1))
    refine ⟨.tuple #[.int .i64 0, .int .i64 0], by simp [results, Tryd.results34, go_sem, g3, g4], rfl, bD, vh, vb, ?_⟩
    exact HJ.out.ps.agree (by simp) (hag P (by omega) (by omega) (by omega)) (fun k hk _ => hag k (by omega) (by omega) (by omega))
  case stop =>
    rintro D V hDe ⟨h1, h2, h3, h4⟩ hD
    rw [z5] at hDe
    subst hDe
    gi_wp2
    refine ⟨by simp, .inl ⟨_, _, rfl, run_takeDeferred hD, ?_⟩⟩
    have hD1 : q + 5 ≠ q + 1 := fun e => by rw [e, h2] at hD; cases hD
    have hD2 : q + 5 ≠ q + 2 := fun e => by rw [e, h3] at hD; cases hD
    have g1 : (V.putObj (q + 5) (.deferred none)).heap[q + 1]? = some (.cells #[.int .i64 fin.1] 3 (0, 0)) := (World.putObj_heap_other (Ne.symm hD1)).trans h2
    have g2 : (V.putObj (q + 5) (.deferred none)).heap[q + 2]? = some (.cells #[.int .i64 fin.2.1] 24 (0, 0)) := (World.putObj_heap_other (Ne.symm hD2)).trans h3
    have g3 := (blk_cell g1 0).trans (show (#[Value.int .i64 fin.1])[0]? = some (.int .i64 fin.1) from rfl)
    have g4 := (blk_cell g2 0).trans (show (#[Value.int .i64 fin.2.1])[0]? = some (.int .i64 fin.2.1) from rfl)
    refine ⟨.tuple #[.int .i64 fin.1, .int .i64 fin.2.1], by simp [results, Tryd.results34, go_sem, g3, g4], rfl, h4.trans ((Below.refl _ _).grown (grownBy_putObj' _ (q + 5) _) (by have := h4.size; omega) (fun k e => by cases e; omega)), fun h => absurd h h1⟩
end Go.Proofs.YtfibkajflenekaaDoor.G
