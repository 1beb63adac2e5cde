/-
  text.fill: an instruction's fields out of a line's words, by a walk over its text. Conditions: the package variables hold what they hold (GW); the words are shorter than 4294967281 bytes; the form's letters are D, A, B, N, L, and there are words enough.
-/
import Derived.Test.YtfibkajflenekaaDoorTop
import Derived.Lib.OthersKept
namespace Go.Proofs.YtfibkajflenekaaDoor.G
set_option linter.unusedVariables false
set_option linter.unusedSimpArgs false
open Go.RowKit Go.Proofs.YtfibkajflenekaaDoorW.PrintWords Go.Proofs.YtfibkajflenekaaDoorW.PrintLast Go.Proofs.YtfibkajflenekaaDoor.PTx

def setF (c : UInt8) (n : Int) (x : S72) : S72 := if c = 68 then ⟨x.f0, n, x.f2, x.f3, x.f4, x.f5⟩ else if c = 65 then ⟨x.f0, x.f1, n, x.f3, x.f4, x.f5⟩ else if c = 66 then ⟨x.f0, x.f1, x.f2, n, x.f4, x.f5⟩ else x
/-- What the letters ask of the words (a name by nm). -/
def fillF (nm : ByteArray → Bool) : List UInt8 → List ByteArray → S72 → Int × S72
  | [], _, x => (0, x)
  | c :: cs, ws, x =>
    if c = 78 then
      match ws with
      | [] => (80, x)
      | t :: r => if nm t = true then fillF nm cs r ⟨x.f0, x.f1, x.f2, x.f3, t, x.f5⟩ else (80, x)
    else if c = 76 then
      match nums ws with
      | none => (81, x)
      | some l => fillF nm cs ws ⟨x.f0, x.f1, x.f2, x.f3, x.f4, x.f5 ++ l⟩
    else
      match ws with
      | [] => (81, x)
      | t :: r => match num t with
        | none => (81, x)
        | some n => fillF nm cs r (setF c n x)
def need (l : List UInt8) : Nat := (l.filter (· != 76)).length

structure FS (X it : Nat) (W0 : World) (fs : ByteArray) (wr : World) (p : Nat) (x : S72) : Prop where
  soft : Soft W0.heap.size (· = X) W0 wr
  iter : wr.heap[it]? = some (.stringIter fs p)
  cells : ∃ v5, wr.heap[X]? = some (.cells #[.int .i64 x.f0, .int .i64 x.f1, .int .i64 x.f2, .int .i64 x.f3, .string x.f4, v5] 72 (0, 0)) ∧ (Kd.int .i64).R 3 wr W0.heap.size (fun _ => True) v5 x.f5
section
variable {X it p : Nat} {W0 wr w1 : World} {fs : ByteArray} {x : S72}
theorem FS.below (h : FS X it W0 fs wr p x) (hb : Below wr.heap.size wr w1) : FS X it W0 fs w1 p x := by
  obtain ⟨v5, hc, hr⟩ := h.cells
  exact ⟨h.soft.then_below (Nat.le_refl _) hb, (hb.block it (Array.getElem?_eq_some_iff.1 h.iter).1).trans h.iter, v5, (hb.block X (blk_lt hc)).trans hc, Kd.R_below hr hb⟩
theorem FS.words {tb : Nat} {ws : List ByteArray} (h : FS X it W0 fs wr p x) (hw : WordsAt W0 tb ws) (hne : tb ≠ X) : WordsAt wr tb ws := by
  obtain ⟨cells, hc, hcw⟩ := hw
  exact ⟨cells, (h.soft.low tb (blk_lt hc) hne).trans hc, hcw⟩
theorem FS.next (h : FS X it W0 fs wr p x) (hi : W0.heap.size ≤ it) (p' : Nat) : FS X it W0 fs (wr.iterAt it fs p') p' x := by
  obtain ⟨v5, hc, hr⟩ := h.cells
  have hne : X ≠ it := fun e => by
    have := h.iter
    rw [← e, hc] at this
    cases this
  refine ⟨⟨h.soft.os, h.soft.tape, h.soft.output, by rw [Lib.iterAt_size]; exact h.soft.size, fun k hk hn => (Lib.iterAt_other _ _ _ _ _ (by omega)).trans (h.soft.low k hk hn), fun k o hk ho => (Lib.iterAt_other _ _ _ _ _ (by have := (Array.getElem?_eq_some_iff.1 hk).1; omega)).trans (h.soft.stiff k o hk ho)⟩,
    Lib.iterAt_heap _ _ _ _ _ h.iter, v5, (Lib.iterAt_other _ _ _ _ _ hne).trans hc, Kd.R_step (Kd.R_bound hr) (fun k hk _ => Lib.iterAt_other _ _ _ _ _ (fun e => by
      obtain ⟨_, _, _, q, _, cells, hk2⟩ := hk
      rw [e, h.iter] at hk2
      cases hk2)) |> fun h => Kd.R_mono h (fun _ _ => trivial)⟩
theorem FS.store (h : FS X it W0 fs wr p x) (j : Nat) (u : Value) (x' : S72) (hx : x'.f5 = x.f5) (he : ∀ v5 : Value, (#[.int .i64 x.f0, .int .i64 x.f1, .int .i64 x.f2, .int .i64 x.f3, .string x.f4, v5] : Array Value).setIfInBounds j u = #[.int .i64 x'.f0, .int .i64 x'.f1, .int .i64 x'.f2, .int .i64 x'.f3, .string x'.f4, v5]) :
    FS X it W0 fs (wr.setCell ⟨X, j, none⟩ u) p x' := by
  obtain ⟨v5, hc, hr⟩ := h.cells
  have hne : it ≠ X := fun e => by
    have := h.iter
    rw [e, hc] at this
    cases this
  refine ⟨h.soft.trans (Soft.setCell (S := (· = X)) wr (p := ⟨X, j, none⟩) (.inl rfl) u), (Below.heap_setCell _ _ _ _ hne).trans h.iter, v5, blk_put hc j u (he v5), ?_⟩
  rw [hx]
  exact Kd.R_set hr hc (fun q hq => by
    rcases List.mem_cons.1 hq with rfl | hq
    · decide
    · cases hq) j u
theorem FS.args {n : Int} {v5 v1 : Value} (h : FS X it W0 fs wr p x) (hc : wr.heap[X]? = some (.cells #[.int .i64 x.f0, .int .i64 x.f1, .int .i64 x.f2, .int .i64 x.f3, .string x.f4, v5] 72 (0, 0))) (hr0 : (Kd.int .i64).R 3 wr W0.heap.size (fun _ => True) v5 x.f5)
    (hr : (Kd.int .i64).R 3 w1 W0.heap.size (fun _ => True) v1 (x.f5 ++ [n])) (hg : wr.grownBy w1 v5.ownBlock) : w1.heap[X]? = some (.cells #[.int .i64 x.f0, .int .i64 x.f1, .int .i64 x.f2, .int .i64 x.f3, .string x.f4, v5] 72 (0, 0)) ∧ FS X it W0 fs (w1.setCell ⟨X, 5, none⟩ v1) p ⟨x.f0, x.f1, x.f2, x.f3, x.f4, x.f5 ++ [n]⟩ := by
  have hne : it ≠ X := fun e => by
    have := h.iter
    rw [e, hc] at this
    cases this
  obtain ⟨inner, hin⟩ := Kd.R_own hr0
  have hX := (hg.block X (blk_lt hc) (Kd.R_ne hr0 hc (by decide))).trans hc
  have hI : w1.heap[it]? = some (.stringIter fs p) := (hg.block it (Array.getElem?_eq_some_iff.1 h.iter).1 (fun e => by
    obtain ⟨cells, hk⟩ := own_typed hin it e.symm
    rw [h.iter] at hk
    cases hk)).trans h.iter
  refine ⟨hX, (h.soft.trans (Soft.own h.soft.size hg hin (Nat.le_refl _))).trans (Soft.setCell (S := (· = X)) w1 (p := ⟨X, 5, none⟩) (.inl rfl) v1), (Below.heap_setCell _ _ _ _ hne).trans hI, v1, blk_put hX 5 v1 rfl, ?_⟩
  exact Kd.R_set hr hX (fun q hq => by
    rcases List.mem_cons.1 hq with rfl | hq
    · decide
    · cases hq) 5 v1
end

theorem drop_at {fs : ByteArray} {p : Nat} (hp : p < fs.size) : ∃ c, fs.data.toList.drop p = c :: fs.data.toList.drop (p + 1) ∧ c ∈ fs.data.toList ∧ ∀ h : p < fs.size, fs[p]'h = c := by
  have h1 : p < fs.data.toList.length := by simpa using hp
  refine ⟨fs.data.toList[p], List.drop_eq_getElem_cons h1, List.getElem_mem h1, fun h => ?_⟩
  simp [ByteArray.getElem_eq_getElem_data]
theorem word_at {ws : List ByteArray} {a : Nat} {t : ByteArray} (h : ws[a + 1]? = some t) : ws.drop (a + 1) = t :: ws.drop (a + 1 + 1) := by
  obtain ⟨hlt, rfl⟩ := List.getElem?_eq_some_iff.1 h
  exact List.drop_eq_getElem_cons hlt
theorem setF_f5 (c : UInt8) (n : Int) (x : S72) : (setF c n x).f5 = x.f5 := by
  unfold setF
  repeat' split
  all_goals rfl
/-- How many numbers there may be. -/
def Cap (x : S72) (p : Nat) : Prop := x.f5.length ≤ p * 1073741824
theorem Cap.nil {x : S72} (h : x.f5 = []) (p : Nat) : Cap x p := by
  have h0 : x.f5.length = 0 := by rw [h]; rfl
  unfold Cap
  omega
theorem Cap.step {x x' : S72} {p : Nat} (h : Cap x p) (he : x'.f5 = x.f5) : Cap x' (p + 1) := by
  have h0 : x'.f5.length = x.f5.length := congrArg List.length he
  unfold Cap at *
  omega
theorem Cap.add {x x' : S72} {p n : Nat} {ys : List Int} (h : Cap x p) (he : x'.f5 = x.f5 ++ ys) (hy : ys.length ≤ n) (hn : n < 1073741824) : Cap x' (p + 1) := by
  have h0 : x'.f5.length = (x.f5 ++ ys).length := congrArg List.length he
  have h1 : (x.f5 ++ ys).length = x.f5.length + ys.length := List.length_append
  unfold Cap at *
  omega
theorem Cap.room {x : S72} {p n : Nat} {ys : List Int} (h : Cap x p) (hp : p < 1000) (hy : ys.length ≤ n) (hn : n < 1073741824) : ((x.f5 ++ ys).length + 1) * 8 ≤ 140737488355328 := by
  have h1 : (x.f5 ++ ys).length = x.f5.length + ys.length := List.length_append
  unfold Cap at h
  omega
theorem need_cons (c : UInt8) (l : List UInt8) (h : c ≠ 76) : need (c :: l) = need l + 1 := by
  unfold need
  rw [List.filter_cons, if_pos (by simpa using h)]
  rfl
theorem next_at {wr : World} {it p : Nat} {fs : ByteArray} {c : UInt8} {X : Nat} {W0 : World} {x : S72} (h : FS X it W0 fs wr p x) (hp : p < fs.size) (hc : ∀ h : p < fs.size, fs[p]'h = c) (ha : c.toNat < 128) (ty : TypeId) :
    (Instr.next (.pointer (some ⟨it, 0, none⟩)) true ty).run Tryd.prog wr = .ok (.tuple #[.bool true, .int .i64 p, .int .i32 c.toNat]) (wr.iterAt it fs (p + 1)) := by
  have := Lib.run_next_ascii_at (P := Tryd.prog) wr it fs p ty h.iter hp (by rw [hc hp]; exact ha)
  rw [hc hp] at this
  exact this

set_option maxHeartbeats 16000000 in
set_option maxRecDepth 100000 in
theorem fill_run (nm : ByteArray → Bool) (X tb : Nat) (fo : Int) (fw fs : ByteArray) (ws : List ByteArray) (n : Nat) (W w0 : World) (hG0 : GW w0) (hb0 : Below w0.heap.size w0 W) (hX0 : w0.heap.size ≤ X) (x0 : S72)
    (hlen : ws.length = n + 1) (hn1 : 1 ≤ n) (hn : n < 1073741824) (hW : WordsAt W tb ws) (hX : W.heap[X]? = some (.cells #[.int .i64 x0.f0, .int .i64 x0.f1, .int .i64 x0.f2, .int .i64 x0.f3, .string x0.f4, .slice none 0 0] 72 (0, 0))) (hx5 : x0.f5 = [])
    (hfz : fs.size < 1000) (hfs : ∀ c ∈ fs.data.toList, c = 68 ∨ c = 65 ∨ c = 66 ∨ c = 78 ∨ c = 76) (hneed : need fs.data.toList ≤ n) (hsz : ∀ (i : Nat) (t : ByteArray), ws[i]? = some t → t.size < 4294967281)
    (hnm : ∀ (i : Nat) (t : ByteArray), ws[i]? = some t → ir_Name.f t = some (nm t)) (r : Int × S72) (hr : fillF nm fs.data.toList (ws.drop 1) x0 = r) :
    Calls Tryd.prog 75 #[.pointer (some ⟨X, 0, none⟩), .agg #[.int .i64 fo, .string fw, .string fs], .slice (some ⟨tb, 1, none⟩) n n] W fun e W' => e = .returned (.int .i64 r.1) ∧ Soft W.heap.size (· = X) W W' ∧
      (r.1 = 0 → ∃ v5, W'.heap[X]? = some (.cells #[.int .i64 r.2.f0, .int .i64 r.2.f1, .int .i64 r.2.f2, .int .i64 r.2.f3, .string r.2.f4, v5] 72 (0, 0)) ∧ (Kd.int .i64).R 3 W' W.heap.size (fun _ => True) v5 r.2.f5) := by
  have hu115 := Tryd.underlying115
  have hne : tb ≠ X := fun e => by
    obtain ⟨cells, hc, _⟩ := hW
    rw [e, hX] at hc
    injection hc with hc
    injection hc with _ hc
    cases hc
  have HG0 := Lib.hid hG0
  have Hb0 := Lib.hid hb0
  have HX0 := Lib.hid hX0
  have HX := Lib.hid hX
  have Hx5 := Lib.hid hx5
  have HW := Lib.hid hW
  have Hne := Lib.hid hne
  have Hfs := Lib.hid hfs
  have Hneed := Lib.hid hneed
  have Hsz := Lib.hid hsz
  have Hnm := Lib.hid hnm
  have Hr := Lib.hid hr
  have Hlen := Lib.hid hlen
  clear hG0 hb0 hX0 hX hx5 hW hne hfs hneed hsz hnm hr hlen
  go_enter Tryd.func75, Tryd.ntmps75
  go_wp2
  have hF0 : FS X (W.heap.size + 1) W fs ((W.alloc (.cells #[.int .i64 fo, .string fw, .string fs] 115)).iter fs 0) 0 x0 := by
    have hb := below_alloc (below_alloc (Below.refl W.heap.size W) (.cells #[.int .i64 fo, .string fw, .string fs] 115)) (.stringIter fs 0)
    have hi := World.iter_heap (W.alloc (.cells #[.int .i64 fo, .string fw, .string fs] 115)) fs 0
    rw [World.size_alloc] at hi
    exact ⟨.of_below (Nat.le_refl _) hb, hi, _, (hb.block X (blk_lt HX.out)).trans HX.out, by rw [Hx5.out]; exact Kd.R_nil _ _ _ _ _⟩
  have hgw : ∀ w1, Soft W.heap.size (· = X) W w1 → GW w1 := fun w1 hs => GW_below HG0.out (Hb0.out.trans (hs.below (b := w0.heap.size) (Nat.le_trans HX0.out (Nat.le_of_lt (blk_lt HX.out))) (fun k hk => by subst hk; exact HX0.out)))
  have HGW := Lib.hid hgw
  have HF0 := Lib.hid hF0
  have Hit : Hid (W.heap.size ≤ W.heap.size + 1) := Lib.hid (by omega)
  clear hF0 hgw
  generalize World.iter _ fs 0 = W1 at *
  generalize W.heap.size + 1 = it at *
  go_loopg [7] fs.size (fun kq v7 wr => ∃ (a p : Nat) (x : S72), v7 = .int .i64 a ∧ Hid (kq + p = fs.size) ∧ Hid (FS X it W fs wr p x) ∧ Hid (fillF nm (fs.data.toList.drop p) (ws.drop (a + 1)) x = r ∧ need (fs.data.toList.drop p) + a ≤ n) ∧ Hid (Cap x p))
  case atStart => exact ⟨0, 0, x0, rfl, Lib.hid (by omega), HF0, Lib.hid ⟨Hr.out, Hneed.out⟩, Lib.hid (Cap.nil Hx5.out 0)⟩
  case round =>
    clear HF0
    obtain ⟨a, p, x, rfl, Hp, HF, HY, HL⟩ := hrel
    by_cases hp : p < fs.size
    · obtain ⟨c, hdr, hcm, hcc⟩ := drop_at hp
      cases gk with
      | zero => exfalso; have := Hp.out; omega
      | succ k1 =>
      have Hdr := Lib.hid hdr
      have Hcc := Lib.hid hcc
      have hY := HY.out
      rw [hdr] at hY
      have HY' := Lib.hid hY
      have han : a ≤ n := by have := hY.2; omega
      clear hdr hcc hY HY
      rcases Hfs.out c hcm with rfl | rfl | rfl | rfl | rfl
      · -- the letter 68
        have hnx := fun ty => next_at HF.out hp Hcc.out (by decide) ty
        simp only [show ((68 : UInt8).toNat : Int) = 68 from rfl] at hnx
        have hnd := HY'.out.2
        rw [need_cons _ _ (by decide)] at hnd
        have han1 : a < n := by omega
        obtain ⟨t, ht⟩ : ∃ t, ws[a + 1]? = some t := ⟨_, List.getElem?_eq_getElem (by have := Hlen.out; omega)⟩
        have hFn := HF.out.next Hit.out (p + 1)
        have hcw : (wr.iterAt it fs (p + 1)).cell? ⟨tb, 1 + a, none⟩ = some (.string t) := by
          rw [show 1 + a = a + 1 from Nat.add_comm 1 a]
          exact (hFn.words HW.out Hne.out).cell ht
        have hts := Hsz.out _ t ht
        have Ht := Lib.hid ht
        have HFn := Lib.hid hFn
        have q1 : ((a : Int) < n) = True := eq_true (by omega)
        have q2 : (a < n) = True := eq_true han1
        have hGn := Lib.hid (HGW.out _ hFn.soft)
        have hYF := HY'.out.1
        rw [word_at ht] at hYF
        simp only [fillF] at hYF
        have HND := Lib.hid hnd
        clear ht hFn HY' hnd HF
        rw [if_neg (by decide), if_neg (by decide)] at hYF
        rcases hnum : num t with _ | v
        · rw [hnum] at hYF
          simp only at hYF
          have HA := Lib.hid (fun V hV => number_no t V hV hts hnum)
          have HYF := Lib.hid hYF
          clear hnum hYF
          go_wp2_with fail
          refine (HA.out _ hGn.out).mono ?_
          rintro e w3 ⟨v, rfl, hb3⟩
          go_wp2
          go_ret
          exact ⟨by rw [← HYF.out]; first | done | rfl, HFn.out.soft.then_below (Nat.le_refl _) hb3, fun h => by rw [← HYF.out] at h; cases h⟩
        · rw [hnum] at hYF
          simp only at hYF
          have HA := Lib.hid (fun V hV => number_ok t v V hV hts hnum)
          have HYF := Lib.hid hYF
          clear hnum hYF
          go_wp2_with fail
          refine (HA.out _ hGn.out).mono ?_
          rintro e w3 ⟨rfl, hb3⟩
          have hF3 := HFn.out.below hb3
          obtain ⟨v5, hc3, _⟩ := hF3.cells
          have hci : w3.cell? ⟨X, 1, none⟩ = some (.int .i64 x.f1) := (blk_cell hc3 1).trans rfl
          have hcf := blk_frozen hc3 1
          have HF4 := Lib.hid (hF3.store 1 (.int .i64 v) (setF 68 v x) rfl (fun _ => rfl))
          clear hF3 hc3 hb3 HA hcw
          go_wp2
          go_roundg k1
          case measure => omega
          case rel => exact ⟨a + 1, p + 1, _, by go_num, Lib.hid (by have := Hp.out; omega), HF4, Lib.hid ⟨HYF.out, by have := HND.out; omega⟩, Lib.hid (HL.out.step (setF_f5 68 v x))⟩
      · -- the letter 65
        have hnx := fun ty => next_at HF.out hp Hcc.out (by decide) ty
        simp only [show ((65 : UInt8).toNat : Int) = 65 from rfl] at hnx
        have hnd := HY'.out.2
        rw [need_cons _ _ (by decide)] at hnd
        have han1 : a < n := by omega
        obtain ⟨t, ht⟩ : ∃ t, ws[a + 1]? = some t := ⟨_, List.getElem?_eq_getElem (by have := Hlen.out; omega)⟩
        have hFn := HF.out.next Hit.out (p + 1)
        have hcw : (wr.iterAt it fs (p + 1)).cell? ⟨tb, 1 + a, none⟩ = some (.string t) := by
          rw [show 1 + a = a + 1 from Nat.add_comm 1 a]
          exact (hFn.words HW.out Hne.out).cell ht
        have hts := Hsz.out _ t ht
        have Ht := Lib.hid ht
        have HFn := Lib.hid hFn
        have q1 : ((a : Int) < n) = True := eq_true (by omega)
        have q2 : (a < n) = True := eq_true han1
        have hGn := Lib.hid (HGW.out _ hFn.soft)
        have hYF := HY'.out.1
        rw [word_at ht] at hYF
        simp only [fillF] at hYF
        have HND := Lib.hid hnd
        clear ht hFn HY' hnd HF
        rw [if_neg (by decide), if_neg (by decide)] at hYF
        rcases hnum : num t with _ | v
        · rw [hnum] at hYF
          simp only at hYF
          have HA := Lib.hid (fun V hV => number_no t V hV hts hnum)
          have HYF := Lib.hid hYF
          clear hnum hYF
          go_wp2_with fail
          refine (HA.out _ hGn.out).mono ?_
          rintro e w3 ⟨v, rfl, hb3⟩
          go_wp2
          go_ret
          exact ⟨by rw [← HYF.out]; first | done | rfl, HFn.out.soft.then_below (Nat.le_refl _) hb3, fun h => by rw [← HYF.out] at h; cases h⟩
        · rw [hnum] at hYF
          simp only at hYF
          have HA := Lib.hid (fun V hV => number_ok t v V hV hts hnum)
          have HYF := Lib.hid hYF
          clear hnum hYF
          go_wp2_with fail
          refine (HA.out _ hGn.out).mono ?_
          rintro e w3 ⟨rfl, hb3⟩
          have hF3 := HFn.out.below hb3
          obtain ⟨v5, hc3, _⟩ := hF3.cells
          have hci : w3.cell? ⟨X, 2, none⟩ = some (.int .i64 x.f2) := (blk_cell hc3 2).trans rfl
          have hcf := blk_frozen hc3 2
          have HF4 := Lib.hid (hF3.store 2 (.int .i64 v) (setF 65 v x) rfl (fun _ => rfl))
          clear hF3 hc3 hb3 HA hcw
          go_wp2
          go_roundg k1
          case measure => omega
          case rel => exact ⟨a + 1, p + 1, _, by go_num, Lib.hid (by have := Hp.out; omega), HF4, Lib.hid ⟨HYF.out, by have := HND.out; omega⟩, Lib.hid (HL.out.step (setF_f5 65 v x))⟩
      · -- the letter 66
        have hnx := fun ty => next_at HF.out hp Hcc.out (by decide) ty
        simp only [show ((66 : UInt8).toNat : Int) = 66 from rfl] at hnx
        have hnd := HY'.out.2
        rw [need_cons _ _ (by decide)] at hnd
        have han1 : a < n := by omega
        obtain ⟨t, ht⟩ : ∃ t, ws[a + 1]? = some t := ⟨_, List.getElem?_eq_getElem (by have := Hlen.out; omega)⟩
        have hFn := HF.out.next Hit.out (p + 1)
        have hcw : (wr.iterAt it fs (p + 1)).cell? ⟨tb, 1 + a, none⟩ = some (.string t) := by
          rw [show 1 + a = a + 1 from Nat.add_comm 1 a]
          exact (hFn.words HW.out Hne.out).cell ht
        have hts := Hsz.out _ t ht
        have Ht := Lib.hid ht
        have HFn := Lib.hid hFn
        have q1 : ((a : Int) < n) = True := eq_true (by omega)
        have q2 : (a < n) = True := eq_true han1
        have hGn := Lib.hid (HGW.out _ hFn.soft)
        have hYF := HY'.out.1
        rw [word_at ht] at hYF
        simp only [fillF] at hYF
        have HND := Lib.hid hnd
        clear ht hFn HY' hnd HF
        rw [if_neg (by decide), if_neg (by decide)] at hYF
        rcases hnum : num t with _ | v
        · rw [hnum] at hYF
          simp only at hYF
          have HA := Lib.hid (fun V hV => number_no t V hV hts hnum)
          have HYF := Lib.hid hYF
          clear hnum hYF
          go_wp2_with fail
          refine (HA.out _ hGn.out).mono ?_
          rintro e w3 ⟨v, rfl, hb3⟩
          go_wp2
          go_ret
          exact ⟨by rw [← HYF.out]; first | done | rfl, HFn.out.soft.then_below (Nat.le_refl _) hb3, fun h => by rw [← HYF.out] at h; cases h⟩
        · rw [hnum] at hYF
          simp only at hYF
          have HA := Lib.hid (fun V hV => number_ok t v V hV hts hnum)
          have HYF := Lib.hid hYF
          clear hnum hYF
          go_wp2_with fail
          refine (HA.out _ hGn.out).mono ?_
          rintro e w3 ⟨rfl, hb3⟩
          have hF3 := HFn.out.below hb3
          obtain ⟨v5, hc3, _⟩ := hF3.cells
          have hci : w3.cell? ⟨X, 3, none⟩ = some (.int .i64 x.f3) := (blk_cell hc3 3).trans rfl
          have hcf := blk_frozen hc3 3
          have HF4 := Lib.hid (hF3.store 3 (.int .i64 v) (setF 66 v x) rfl (fun _ => rfl))
          clear hF3 hc3 hb3 HA hcw
          go_wp2
          go_roundg k1
          case measure => omega
          case rel => exact ⟨a + 1, p + 1, _, by go_num, Lib.hid (by have := Hp.out; omega), HF4, Lib.hid ⟨HYF.out, by have := HND.out; omega⟩, Lib.hid (HL.out.step (setF_f5 66 v x))⟩
      · -- the letter N
        have hnx := fun ty => next_at HF.out hp Hcc.out (by decide) ty
        simp only [show ((78 : UInt8).toNat : Int) = 78 from rfl] at hnx
        have hnd := HY'.out.2
        rw [need_cons _ _ (by decide)] at hnd
        have han1 : a < n := by omega
        obtain ⟨t, ht⟩ : ∃ t, ws[a + 1]? = some t := ⟨_, List.getElem?_eq_getElem (by have := Hlen.out; omega)⟩
        have hFn := HF.out.next Hit.out (p + 1)
        have hcw : (wr.iterAt it fs (p + 1)).cell? ⟨tb, 1 + a, none⟩ = some (.string t) := by
          rw [show 1 + a = a + 1 from Nat.add_comm 1 a]
          exact (hFn.words HW.out Hne.out).cell ht
        have hts := Hsz.out _ t ht
        have Ht := Lib.hid ht
        have HFn := Lib.hid hFn
        have q1 : ((a : Int) < n) = True := eq_true (by omega)
        have q2 : (a < n) = True := eq_true han1
        have hGn := Lib.hid (HGW.out _ hFn.soft)
        have hYF := HY'.out.1
        rw [word_at ht] at hYF
        simp only [fillF] at hYF
        have HND := Lib.hid hnd
        clear ht hFn HY' hnd HF
        first | rw [if_pos rfl] at hYF | rw [if_pos trivial] at hYF
        have hname := Hnm.out _ t Ht.out
        by_cases hnt : nm t = true
        · rw [if_pos hnt] at hYF
          rw [hnt] at hname
          have HA := Lib.hid (fun V hV => ir_Name.calls t true V hV hname)
          have HYF := Lib.hid hYF
          clear hYF hname hnt
          go_wp2_with fail
          refine (HA.out _ hGn.out).mono ?_
          rintro e w3 ⟨rfl, hb3⟩
          have hF3 := HFn.out.below hb3
          obtain ⟨v5, hc3, _⟩ := hF3.cells
          have hcw3 := pw_cell_below hb3 hcw
          have hci : w3.cell? ⟨X, 4, none⟩ = some (.string x.f4) := (blk_cell hc3 4).trans rfl
          have hcf := blk_frozen hc3 4
          have HF4 := Lib.hid (hF3.store 4 (.string t) ⟨x.f0, x.f1, x.f2, x.f3, t, x.f5⟩ rfl (fun _ => rfl))
          clear hF3 hc3 hb3 HA hcw
          go_wp2
          go_roundg k1
          case measure => omega
          case rel => exact ⟨a + 1, p + 1, _, by go_num, Lib.hid (by have := Hp.out; omega), HF4, Lib.hid ⟨HYF.out, by have := HND.out; omega⟩, Lib.hid (HL.out.step rfl)⟩
        · rw [if_neg hnt] at hYF
          rw [Bool.not_eq_true] at hnt
          rw [hnt] at hname
          have HA := Lib.hid (fun V hV => ir_Name.calls t false V hV hname)
          have HYF := Lib.hid hYF
          clear hYF hname hnt
          go_wp2_with fail
          refine (HA.out _ hGn.out).mono ?_
          rintro e w3 ⟨rfl, hb3⟩
          go_wp2
          go_ret
          exact ⟨by rw [← HYF.out]; first | done | rfl, HFn.out.soft.then_below (Nat.le_refl _) hb3, fun h => by rw [← HYF.out] at h; cases h⟩
      · -- the letter L
        have hnx := fun ty => next_at HF.out hp Hcc.out (by decide) ty
        simp only [show ((76 : UInt8).toNat : Int) = 76 from rfl] at hnx
        have hFn := HF.out.next Hit.out (p + 1)
        have HFn := Lib.hid hFn
        have hYF := HY'.out.1
        have hnd : need (fs.data.toList.drop (p + 1)) + a ≤ n := HY'.out.2
        simp only [fillF] at hYF
        rw [if_neg (by decide)] at hYF
        first | rw [if_pos rfl] at hYF | rw [if_pos trivial] at hYF
        have HND := Lib.hid hnd
        have HYF := Lib.hid hYF
        have p8 : ((a : Int) ≤ n) = True := eq_true (by omega)
        have p9 : (a ≤ n) = True := eq_true han
        have hps : p < 1000 := by omega
        clear hFn HY' hnd HF hYF
        by_cases hna : a = n
        · have HYF2 : Hid (fillF nm (fs.data.toList.drop (p + 1)) (ws.drop (a + 1)) x = r) := Lib.hid (by
            have h := HYF.out
            have hd : ws.drop (a + 1) = [] := List.drop_eq_nil_of_le (by have := Hlen.out; omega)
            rw [hd] at h ⊢
            simpa [nums] using h)
          have p10 : (n = a) = True := eq_true hna.symm
          have p11 : n - a = 0 := by omega
          subst hna
          go_wp2
          go_loopg [46] 0 (fun kq v46 wx => v46 = .int .i64 0 ∧ Hid (FS X it W fs wx (p + 1) x))
          case atStart => exact ⟨rfl, HFn⟩
          case round =>
            clear HFn
            obtain ⟨rfl, HFn⟩ := hrel
            go_wp2
            go_roundg k1
            case measure => omega
            case rel => exact ⟨a, p + 1, x, rfl, Lib.hid (by have := Hp.out; omega), HFn, Lib.hid ⟨HYF2.out, HND.out⟩, Lib.hid (HL.out.step rfl)⟩
        · have han1 : a < n := by omega
          have p10 : (n = a) = False := eq_false (by omega)
          have hcast : ((n : Int) - a) = ((n - a : Nat) : Int) := by omega
          go_wp2
          go_loopg [46] (n - a) (fun kq v46 wx => ∃ (j : Nat) (ys : List Int), v46 = .int .i64 j ∧ Hid (kq + j = n - a) ∧ Hid (FS X it W fs wx (p + 1) ⟨x.f0, x.f1, x.f2, x.f3, x.f4, x.f5 ++ ys⟩) ∧ Hid (ys.length = j ∧ nums (ws.drop (a + 1)) = (nums (ws.drop (a + 1 + j))).map (ys ++ ·)))
          case atStart => exact ⟨0, [], rfl, Lib.hid (by omega), by rw [List.append_nil]; exact HFn, Lib.hid ⟨rfl, by simp⟩⟩
          case round =>
            clear HFn
            obtain ⟨j, ys, rfl, Hj, HFn, Hys⟩ := hrel
            by_cases hlt : j < n - a
            · have i1 : decide ((j : Int) < (n - a : Nat)) = true := decide_eq_true (by omega)
              have i2 : ((j : Int) < (n - a : Nat)) = True := eq_true (by omega)
              have i3 : (j < n - a) = True := eq_true hlt
              obtain ⟨t, ht⟩ : ∃ t, ws[a + 1 + j]? = some t := ⟨_, List.getElem?_eq_getElem (by have := Hlen.out; omega)⟩
              have hts := Hsz.out _ t ht
              have hcw : wr.cell? ⟨tb, 1 + a + j, none⟩ = some (.string t) := by
                rw [show 1 + a + j = a + 1 + j by omega]
                exact (HFn.out.words HW.out Hne.out).cell ht
              have Ht := Lib.hid ht
              have hGn := Lib.hid (HGW.out _ HFn.out.soft)
              clear ht
              rcases hnum : num t with _ | v
              · have HA := Lib.hid (fun V hV => number_no t V hV hts hnum)
                have HYR : Hid (r.1 = 81) := Lib.hid (by
                  have h := HYF.out
                  rw [Hys.out.2, nums_drop Ht.out, hnum] at h
                  rw [← h]; rfl)
                clear hnum
                go_wp2_with fail
                refine (HA.out _ hGn.out).mono ?_
                rintro e w3 ⟨v, rfl, hb3⟩
                go_wp2
                go_ret
                exact ⟨by rw [HYR.out]; rfl, HFn.out.soft.then_below (Nat.le_refl _) hb3, fun h => by rw [HYR.out] at h; cases h⟩
              · have HA := Lib.hid (fun V hV => number_ok t v V hV hts hnum)
                have Hnum := Lib.hid hnum
                clear hnum
                cases gk with
                | zero => exfalso; have := Hj.out; omega
                | succ k2 =>
                go_wp2_with fail
                refine (HA.out _ hGn.out).mono ?_
                rintro e w3 ⟨rfl, hb3⟩
                have hF3 := HFn.out.below hb3
                obtain ⟨v5, hc3, hr3⟩ := hF3.cells
                have hc5 : w3.cell? ⟨X, 5, none⟩ = some v5 := (blk_cell hc3 5).trans rfl
                have HF3 := Lib.hid hF3
                have HC3 := Lib.hid hc3
                have HR3 := Lib.hid hr3
                have HSZ := Lib.hid hF3.soft.size
                have HROOM := Lib.hid (HL.out.room (ys := ys) (n := n) hps (by have := Hys.out.1; omega) hn)
                clear hF3 hc3 hr3 hb3 HA hcw HFn
                go_wp2_with (first | ((with_reducible refine gate_builtin (b := .append) (xs := #[.tmp 61, .tmp 63]) rfl ?_); at_builtin; refine Kd.R_append (Kd.int .i64) (w0 := w3) W.heap.size rfl (.tmp 61) (.tmp 63) 66 3 (.int .i64 0) 8 rfl Tryd.underlying66 info3 rfl (by decide) (by omega) v5 (x.f5 ++ ys) v [.int .i64 v] (fun _ => True) (fun _ => False) rfl rfl ?aP (fun _ hk => hk.elim) ?aF ?aO ?aB ?aS ?aL ?_; (case aP => exact rfl); (case aF => exact (fun _ _ => trivial)); (case aO => exact HR3.out); (case aB => exact Below.refl _ _); (case aS => exact HSZ.out); (case aL => exact HROOM.out); intro v1 w4 ho hb hg hat; obtain ⟨A1, c1, e1⟩ := Kd.R_slice ho; obtain ⟨N1, hN1⟩ : ∃ N1, (x.f5 ++ ys ++ [v]).length = N1 := ⟨_, rfl⟩; rw [hN1] at e1; subst e1; obtain ⟨hcX, hfs4⟩ := HF3.out.args HC3.out HR3.out ho hg; have hc41 : w4.cell? ⟨X, 5, none⟩ = some v5 := (blk_cell hcX 5).trans rfl; have hf41 := blk_frozen hcX 5; have HF4 := Lib.hid hfs4; clear ho hb hg hat hcX hfs4))
                have hY4 : (ys ++ [v]).length = j + 1 ∧ nums (ws.drop (a + 1)) = (nums (ws.drop (a + 1 + (j + 1)))).map ((ys ++ [v]) ++ ·) := by
                  refine ⟨by simp [Hys.out.1], ?_⟩
                  rw [Hys.out.2, nums_drop Ht.out, Hnum.out, show a + 1 + (j + 1) = a + 1 + j + 1 by omega]
                  cases nums (ws.drop (a + 1 + j + 1)) <;> simp
                have HY4 := Lib.hid hY4
                clear hY4
                go_roundg k2
                case measure => omega
                case rel => exact ⟨j + 1, ys ++ [v], by go_num, Lib.hid (by have := Hj.out; omega), by rw [← List.append_assoc]; exact HF4, HY4⟩
            · have i1 : decide ((j : Int) < (n - a : Nat)) = false := decide_eq_false (by omega)
              have hjn : j = n - a := by have := Hj.out; omega
              have HYF2 : Hid (fillF nm (fs.data.toList.drop (p + 1)) (ws.drop (a + 1)) ⟨x.f0, x.f1, x.f2, x.f3, x.f4, x.f5 ++ ys⟩ = r) := Lib.hid (by
                have h := HYF.out
                have hd : ws.drop (a + 1 + j) = [] := List.drop_eq_nil_of_le (by have := Hlen.out; omega)
                rw [Hys.out.2, hd] at h
                simpa [nums] using h)
              go_wp2
              go_roundg k1
              case measure => omega
              case rel => exact ⟨a, p + 1, _, rfl, Lib.hid (by have := Hp.out; omega), HFn, Lib.hid ⟨HYF2.out, HND.out⟩, Lib.hid (HL.out.add (n := n) rfl (by have := Hys.out.1; omega) hn)⟩
    · have hnx := fun ty => Lib.run_next_end_at (P := Tryd.prog) wr it fs p ty HF.out.iter hp
      have hY := HY.out.1
      rw [List.drop_eq_nil_of_le (by simpa using Nat.le_of_not_lt hp)] at hY
      simp only [fillF] at hY
      have HYF := Lib.hid hY
      clear hY HY
      go_wp2
      go_ret
      exact ⟨by rw [← HYF.out]; first | done | rfl, HF.out.soft, fun _ => by rw [← HYF.out]; exact HF.out.cells⟩
end Go.Proofs.YtfibkajflenekaaDoor.G
