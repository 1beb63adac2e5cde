/-
  (*text.parser).top: a first line's words, by a walk over its text. Conditions: the package variables hold what they hold (GW); the words are shorter than 4294967281 bytes.
-/
import Derived.Test.YtfibkajflenekaaDoorState
import Derived.Test.YtfibkajflenekaaDoorNumber
import Derived.Test.YtfibkajflenekaaDoorPTxx5
import Derived.Deep.RegionHeldLaw
import Derived.Deep.QuietTactic
import Derived.BigQuiet
namespace Go.Proofs.YtfibkajflenekaaDoor.G
set_option linter.unusedVariables false
set_option linter.unusedSimpArgs false
open Go.RowKit Go.Proofs.YtfibkajflenekaaDoorW.PrintWords Go.Proofs.YtfibkajflenekaaDoorW.PrintLast Go.Proofs.YtfibkajflenekaaDoor.PTx

/-- Words as strings.Split hands them over. -/
def WordsAt (W : World) (tb : Nat) (ws : List ByteArray) : Prop := ∃ cells, W.heap[tb]? = some (.cells cells 9 (0, 0)) ∧ ∀ (i : Nat) (t : ByteArray), ws[i]? = some t → cells[i]? = some (.string t)
theorem WordsAt.cell {W : World} {tb : Nat} {ws : List ByteArray} (h : WordsAt W tb ws) {i : Nat} {t : ByteArray} (hi : ws[i]? = some t) : W.cell? ⟨tb, i, none⟩ = some (.string t) := by
  obtain ⟨cells, hc, hw⟩ := h
  exact (blk_cell hc i).trans (hw i t hi)
theorem WordsAt.lt {W : World} {tb : Nat} {ws : List ByteArray} (h : WordsAt W tb ws) : tb < W.heap.size := by
  obtain ⟨cells, hc, hw⟩ := h
  exact blk_lt hc
theorem WordsAt.below {W W1 : World} {tb : Nat} {ws : List ByteArray} (h : WordsAt W tb ws) (hb : Below W.heap.size W W1) : WordsAt W1 tb ws := by
  obtain ⟨cells, hc, hw⟩ := h
  exact ⟨cells, (hb.block tb (blk_lt hc)).trans hc, hw⟩
theorem WordsAt.set {W : World} {tb : Nat} {ws : List ByteArray} (h : WordsAt W tb ws) {g t : Nat} {cs : Array Value} (hg : W.heap[g]? = some (.cells cs t (0, 0))) (ht : t ≠ 9) (j : Nat) (u : Value) : WordsAt (W.setCell ⟨g, j, none⟩ u) tb ws := by
  obtain ⟨cells, hc, hw⟩ := h
  refine ⟨cells, (Below.heap_setCell _ _ _ _ (fun e => ?_)).trans hc, hw⟩
  have e' : tb = g := e
  subst e'
  rw [hg] at hc
  injection hc with hc
  injection hc with _ hc
  exact ht hc
theorem WordsAt.grown {W W1 : World} {tb : Nat} {ws : List ByteArray} (h : WordsAt W tb ws) {v : Value} {b e sz n : Nat} {inner : List Value} (ho : W.ownsRow b e sz v n inner) (he : e ≠ 9) (hg : W.grownBy W1 v.ownBlock) : WordsAt W1 tb ws := by
  obtain ⟨cells, hc, hw⟩ := h
  refine ⟨cells, (hg.block tb (blk_lt hc) (fun e => ?_)).trans hc, hw⟩
  obtain ⟨c2, hx⟩ := own_typed ho tb e.symm
  rw [hx] at hc
  injection hc with hc
  injection hc with _ hc
  exact he hc
set_option maxHeartbeats 8000000 in
set_option maxRecDepth 100000 in
theorem top_first (P tb : Nat) (code : Bool) (first : ByteArray) (heads : Nat) (ws : List ByteArray) (W : World) (vh vb : Value) (name t0 : ByteArray) (hP : W.heap[P]? = some (.cells #[.bool code, .string first, .int .i64 heads, .string name, vh, vb] 77 (0, 0))) (hW : WordsAt W tb ws) (hbig : ws.length < 4611686018427387904) (h0 : ws[0]? = some t0) (hne : t0.toList ≠ first.toList) :
    Calls Tryd.prog 50 #[.pointer (some ⟨P, 0, none⟩), .slice (some ⟨tb, 0, none⟩) ws.length ws.length] W fun e W' => e = .returned (.int .i64 80) ∧ Below W.heap.size W W' := by
  have hb1 : (t0.toList != first.toList) = true := bne_iff_ne.mpr hne
  have hb1' : (t0.toList == first.toList) = false := beq_eq_false_iff_ne.mpr hne
  have hpos : 0 < ws.length := (List.getElem?_eq_some_iff.1 h0).1
  have p1 : ((0 : Int) < ws.length) = True := eq_true (by omega)
  have p2 : (0 < ws.length) = True := eq_true hpos
  have hcell := hW.cell h0
  have hf : W.cell? ⟨P, 1, none⟩ = some (.string first) := (blk_cell hP 1).trans rfl
  have hf2 : W.cell? ⟨P, 2, none⟩ = some (.int .i64 heads) := (blk_cell hP 2).trans rfl
  clear hP hW hne h0
  go_enter Tryd.func50, Tryd.ntmps50
  go_wp2
  go_quiet (fail)
  go_wp2
  go_ret
  exact ⟨rfl, pw_below_drewN (Below.refl _ _) _⟩
set_option maxHeartbeats 8000000 in
set_option maxRecDepth 100000 in
theorem top_len (P tb : Nat) (code : Bool) (first : ByteArray) (heads : Nat) (ws : List ByteArray) (W : World) (vh vb : Value) (name t0 : ByteArray) (hP : W.heap[P]? = some (.cells #[.bool code, .string first, .int .i64 heads, .string name, vh, vb] 77 (0, 0))) (hW : WordsAt W tb ws) (hbig : ws.length < 4611686018427387904) (h0 : ws[0]? = some t0) (he : t0.toList = first.toList) (hh : heads < 1000) (hl : ws.length ≠ heads + 2) :
    Calls Tryd.prog 50 #[.pointer (some ⟨P, 0, none⟩), .slice (some ⟨tb, 0, none⟩) ws.length ws.length] W fun e W' => e = .returned (.int .i64 80) ∧ Below W.heap.size W W' := by
  have hb1 : (t0.toList != first.toList) = false := bne_eq_false_iff_eq.mpr he
  have hb1' : (t0.toList == first.toList) = true := beq_iff_eq.mpr he
  have hb2 : ((ws.length : Int) != (heads : Int) + 2) = true := bne_iff_ne.mpr (by omega)
  have hb2' : ((ws.length : Int) == (heads : Int) + 2) = false := beq_eq_false_iff_ne.mpr (by omega)
  have hpos : 0 < ws.length := (List.getElem?_eq_some_iff.1 h0).1
  have p1 : ((0 : Int) < ws.length) = True := eq_true (by omega)
  have p2 : (0 < ws.length) = True := eq_true hpos
  have hcell := hW.cell h0
  have hf : W.cell? ⟨P, 1, none⟩ = some (.string first) := (blk_cell hP 1).trans rfl
  have hf2 : W.cell? ⟨P, 2, none⟩ = some (.int .i64 heads) := (blk_cell hP 2).trans rfl
  clear hP hW he h0 hl
  go_enter Tryd.func50, Tryd.ntmps50
  go_wp2
  go_quiet (fail)
  go_wp2
  go_ret
  exact ⟨rfl, pw_below_drewN (Below.refl _ _) _⟩
set_option maxHeartbeats 8000000 in
set_option maxRecDepth 100000 in
theorem top_name (P tb : Nat) (code : Bool) (first : ByteArray) (heads : Nat) (ws : List ByteArray) (W : World) (hG : GW W) (vh vb : Value) (name t0 t1 : ByteArray) (hP : W.heap[P]? = some (.cells #[.bool code, .string first, .int .i64 heads, .string name, vh, vb] 77 (0, 0))) (hW : WordsAt W tb ws) (hbig : ws.length < 4611686018427387904) (h0 : ws[0]? = some t0) (he : t0.toList = first.toList) (hh : heads < 1000) (hl : ws.length = heads + 2) (h1 : ws[1]? = some t1) (hn : ir_Name.f t1 = some false) :
    Calls Tryd.prog 50 #[.pointer (some ⟨P, 0, none⟩), .slice (some ⟨tb, 0, none⟩) ws.length ws.length] W fun e W' => e = .returned (.int .i64 80) ∧ Below W.heap.size W W' := by
  have hb1 : (t0.toList != first.toList) = false := bne_eq_false_iff_eq.mpr he
  have hb1' : (t0.toList == first.toList) = true := beq_iff_eq.mpr he
  have hb2 : ((ws.length : Int) != (heads : Int) + 2) = false := bne_eq_false_iff_eq.mpr (by omega)
  have hb2' : ((ws.length : Int) == (heads : Int) + 2) = true := beq_iff_eq.mpr (by omega)
  have hb2'' : ((ws.length : Int) != IntKind.i64.wrap ((heads : Int) + 2)) = false := by rw [IntKind.wrap_i64, show ((heads : Int) + 2 + 9223372036854775808) % 18446744073709551616 - 9223372036854775808 = (heads : Int) + 2 by omega]; exact hb2
  have hcell1 := hW.cell h1
  have p3 : ((1 : Int) < ws.length) = True := eq_true (by omega)
  have p4 : (1 < ws.length) = True := eq_true (by omega)
  have hpos : 0 < ws.length := (List.getElem?_eq_some_iff.1 h0).1
  have p1 : ((0 : Int) < ws.length) = True := eq_true (by omega)
  have p2 : (0 < ws.length) = True := eq_true hpos
  have hcell := hW.cell h0
  have hf : W.cell? ⟨P, 1, none⟩ = some (.string first) := (blk_cell hP 1).trans rfl
  have hf2 : W.cell? ⟨P, 2, none⟩ = some (.int .i64 heads) := (blk_cell hP 2).trans rfl
  have HN := Lib.hid (fun V hV => ir_Name.calls t1 false V hV hn)
  have HG := Lib.hid hG
  clear hP hW he h0 h1 hn hG hl
  go_enter Tryd.func50, Tryd.ntmps50
  go_wp2
  go_region_held_law (fun w' => w'.cell? ⟨tb, 0, none⟩ = some (.string t0) ∧ w'.cell? ⟨tb, 1, none⟩ = some (.string t1) ∧ w'.cell? ⟨P, 1, none⟩ = some (.string first) ∧ w'.cell? ⟨P, 2, none⟩ = some (.int .i64 heads))
    (first | exact ⟨hcell, hcell1, hf, hf2⟩ | exact ⟨pw_cell_below hb hcell, pw_cell_below hb hcell1, pw_cell_below hb hf, pw_cell_below hb hf2⟩)
    ((go_at_call 24; refine (HN.out _ (GW_drew HG.out)).mono ?_; rintro e w2 ⟨rfl, hb⟩))
  go_wp2
  go_ret
  exact ⟨rfl, (below_drew (Below.refl _ _)).trans hb⟩
/-- The first line's words, its name taken: the numbers behind. -/
def topAns (r : Option (List Int)) : Int := if r.isSome = true then 0 else 81
set_option maxHeartbeats 8000000 in
set_option maxRecDepth 100000 in
theorem top_run (P B tb : Nat) (code : Bool) (first : ByteArray) (heads : Nat) (ws : List ByteArray) (W : World) (w0 : World) (hG0 : GW w0) (hP0 : w0.heap.size ≤ P) (hb0 : Below w0.heap.size w0 W) (t0 t1 : ByteArray) (hPB : P < B) (hB : B ≤ tb)
    (hsz : ∀ (i : Nat) (t : ByteArray), ws[i]? = some t → t.size < 4294967281) (hP : PS P B W code first heads ⟨#[]⟩ [] [] (.slice none 0 0) (.slice none 0 0)) (hW : WordsAt W tb ws) (hbig : ws.length < 4611686018427387904) (h0 : ws[0]? = some t0) (he : t0.toList = first.toList) (hh1 : 1 ≤ heads) (hh : heads < 1000) (hl : ws.length = heads + 2) (h1 : ws[1]? = some t1) (hn : ir_Name.f t1 = some true)
    (r : Option (List Int)) (hr : nums (ws.drop 2) = r) :
    Calls Tryd.prog 50 #[.pointer (some ⟨P, 0, none⟩), .slice (some ⟨tb, 0, none⟩) ws.length ws.length] W fun e W' => e = .returned (.int .i64 (topAns r)) ∧ Soft B (· = P) W W' ∧ ∀ l, r = some l → ∃ vh, PS P B W' code first heads t1 l [] vh (.slice none 0 0) := by
  have hb1 : (t0.toList != first.toList) = false := bne_eq_false_iff_eq.mpr he
  have hb1' : (t0.toList == first.toList) = true := beq_iff_eq.mpr he
  have hb2 : ((ws.length : Int) != (heads : Int) + 2) = false := bne_eq_false_iff_eq.mpr (by omega)
  have hb2' : ((ws.length : Int) == (heads : Int) + 2) = true := beq_iff_eq.mpr (by omega)
  have hb2'' : ((ws.length : Int) != IntKind.i64.wrap ((heads : Int) + 2)) = false := by rw [IntKind.wrap_i64, show ((heads : Int) + 2 + 9223372036854775808) % 18446744073709551616 - 9223372036854775808 = (heads : Int) + 2 by omega]; exact hb2
  have hcell1 := hW.cell h1
  have p3 : ((1 : Int) < ws.length) = True := eq_true (by omega)
  have p4 : (1 < ws.length) = True := eq_true (by omega)
  have hpos : 0 < ws.length := (List.getElem?_eq_some_iff.1 h0).1
  have p1 : ((0 : Int) < ws.length) = True := eq_true (by omega)
  have p2 : (0 < ws.length) = True := eq_true hpos
  have hcell := hW.cell h0
  have hf : W.cell? ⟨P, 1, none⟩ = some (.string first) := (blk_cell hP.cells 1).trans rfl
  have hf2 : W.cell? ⟨P, 2, none⟩ = some (.int .i64 heads) := (blk_cell hP.cells 2).trans rfl
  have p5 : ((2 : Int) ≤ ws.length) = True := eq_true (by omega)
  have p6 : (2 ≤ ws.length) = True := eq_true (by omega)
  have hsub : ws.length - 2 = heads := by omega
  have p7 : (ws.length = 2) = False := eq_false (by omega)
  have HN := Lib.hid (fun V hV => ir_Name.calls t1 true V hV hn)
  have HG := Lib.hid (GW_below hG0 hb0)
  have HP := Lib.hid hP
  have HW := Lib.hid hW
  have Hl := Lib.hid hl
  have Hr := Lib.hid hr
  have Hsz := Lib.hid hsz
  have HPB := Lib.hid hPB
  have HBt := Lib.hid hB
  have Hb0 := Lib.hid hb0
  have HG0 := Lib.hid hG0
  have HP0 := Lib.hid hP0
  have HBs : Hid (B ≤ W.heap.size) := Lib.hid (by have := hW.lt; omega)
  clear hP hW he h0 h1 hn hl hr hsz hPB hB hb0 hG0 hP0 hbig
  go_enter Tryd.func50, Tryd.ntmps50
  go_wp2
  go_region_held_law (fun w' => w'.cell? ⟨tb, 0, none⟩ = some (.string t0) ∧ w'.cell? ⟨tb, 1, none⟩ = some (.string t1) ∧ w'.cell? ⟨P, 1, none⟩ = some (.string first) ∧ w'.cell? ⟨P, 2, none⟩ = some (.int .i64 heads))
    (first | exact ⟨hcell, hcell1, hf, hf2⟩ | exact ⟨pw_cell_below hb hcell, pw_cell_below hb hcell1, pw_cell_below hb hf, pw_cell_below hb hf2⟩)
    ((go_at_call 24; refine (HN.out _ (GW_drew HG.out)).mono ?_; rintro e w2 ⟨rfl, hb⟩))
  have hbw := (below_drew (Below.refl _ _)).trans hb
  have hP2 := HP.out.below hbw
  have hd1 := pw_cell_below hbw hcell1
  have hc3 : w2.cell? ⟨P, 3, none⟩ = some (.string ⟨#[]⟩) := (blk_cell hP2.cells 3).trans rfl
  have hf3 : w2.frozen? ⟨P, 3, none⟩ = false := blk_frozen hP2.cells 3
  have HP3 := Lib.hid (hP2.named t1)
  have HS3 : Hid (Soft B (· = P) W (w2.setCell ⟨P, 3, none⟩ (.string t1))) := Lib.hid ((Soft.of_below HBs.out hbw).trans (Soft.setCell (S := (· = P)) w2 (p := ⟨P, 3, none⟩) (.inl rfl) _))
  have HW3 := Lib.hid ((HW.out.below hbw).set hP2.cells (by decide) 3 (.string t1))
  clear hbw hP2 hb hcell hcell1 hf hf2
  go_wp2_with fail
  have hwr : IntKind.i64.wrap ((heads : Int) + 2) = (heads : Int) + 2 := by rw [IntKind.wrap_i64]; omega
  rw [hwr]
  go_loopg [43] heads (fun kq v43 wr => ∃ i : Nat, v43 = .int .i64 i ∧ Hid (kq + i = heads) ∧ Hid (Soft B (· = P) W wr) ∧ Hid (WordsAt wr tb ws) ∧ Hid (GW wr) ∧ Hid (∃ (ys : List Int) (vh : Value), ys.length = i ∧ r = (nums (ws.drop (i + 2))).map (ys ++ ·) ∧ PS P B wr code first heads t1 ys [] vh (.slice none 0 0)))
  case atStart =>
    exact ⟨0, rfl, Lib.hid (by omega), HS3, HW3, Lib.hid (GW_below HG0.out (Hb0.out.trans (HS3.out.below (by have := HP0.out; have := HPB.out; omega) (fun k hk => by subst hk; exact HP0.out)))), Lib.hid ⟨[], _, rfl, by rw [← Hr.out]; simp, HP3.out⟩⟩
  case round =>
    clear HP3 HS3 HW3
    obtain ⟨i, rfl, Hi, HS, HWr, HGr, HY⟩ := hrel
    by_cases hlt : i < heads
    · have hib : decide ((i : Int) < heads) = true := decide_eq_true (by omega)
      have q1 : ((i : Int) < heads) = True := eq_true (by omega)
      have q2 : (i < heads) = True := eq_true hlt
      obtain ⟨t, ht⟩ : ∃ t, ws[i + 2]? = some t := ⟨_, List.getElem?_eq_getElem (by have := Hl.out; omega)⟩
      have hts := Hsz.out _ t ht
      have hcw : wr.cell? ⟨tb, 2 + i, none⟩ = some (.string t) := by
        rw [Nat.add_comm]
        exact HWr.out.cell ht
      have Ht := Lib.hid ht
      clear ht
      rcases hnum : num t with _ | v
      · have HA := Lib.hid (fun V hV => number_no t V hV hts hnum)
        have hrn : r = none := by
          obtain ⟨ys, vh, hy, hr, hh⟩ := HY.out
          rw [hr, nums_drop Ht.out, hnum]; rfl
        have Hrn := Lib.hid hrn
        clear hnum hrn
        go_wp2_with fail
        refine (HA.out _ HGr.out).mono ?_
        rintro e w3 ⟨v, rfl, hb3⟩
        go_wp2
        go_ret
        exact ⟨by rw [Hrn.out]; rfl, HS.out.then_below HBs.out hb3, fun l hl => by rw [Hrn.out] at hl; cases hl⟩
      · have HA := Lib.hid (fun V hV => number_ok t v V hV hts hnum)
        have Hnum := Lib.hid hnum
        clear hnum
        cases gk with
        | zero => exfalso; have := Hi.out; omega
        | succ k1 =>
        obtain ⟨ys, vh, hy, hr, hps⟩ := HY.out
        go_wp2_with fail
        refine (HA.out _ HGr.out).mono ?_
        rintro e w3 ⟨rfl, hb3⟩
        have hps3 := hps.below hb3
        have hc4 : w3.cell? ⟨P, 4, none⟩ = some vh := (blk_cell hps3.cells 4).trans rfl
        have hsz3 : B ≤ w3.heap.size := by have := HBs.out; have := HS.out.size; have := hb3.size; omega
        have HPS := Lib.hid hps3
        have HSZ := Lib.hid hsz3
        have Hr3 := Lib.hid hr
        have Hy3 := Lib.hid hy
        have HB3 := Lib.hid hb3
        have hyl : ys.length ≤ 1000 := by omega
        clear hps3 hps hr hy HY hsz3 hb3 hcw HA
        go_wp2_with (first | ((with_reducible refine gate_builtin (b := .append) (xs := #[.tmp 58, .tmp 60]) rfl ?_); at_builtin; refine Kd.R_append (Kd.int .i64) (w0 := w3) B rfl (.tmp 58) (.tmp 60) 66 3 (.int .i64 0) 8 rfl Tryd.underlying66 info3 rfl (by decide) (by omega) vh ys v [.int .i64 v] (fun _ => True) (fun _ => False) rfl rfl ?aP (fun _ hk => hk.elim) ?aF ?aO ?aB ?aS ?aL ?_; (case aP => exact rfl); (case aF => exact (fun _ _ => trivial)); (case aO => exact HPS.out.hd); (case aB => exact Below.refl _ _); (case aS => exact HSZ.out); (case aL => omega); intro v1 w4 ho hb hg hat; obtain ⟨A1, c1, e1⟩ := Kd.R_slice ho; rw [List.length_append, List.length_singleton] at e1; subst e1; have hcP := (hg.block P (blk_lt HPS.out.cells) (Kd.R_ne HPS.out.hd HPS.out.cells (by decide))).trans HPS.out.cells; have hc41 : w4.cell? ⟨P, 4, none⟩ = some vh := (blk_cell hcP 4).trans rfl; have hf41 := blk_frozen hcP 4; have HPN := Lib.hid (HPS.out.headed ho hg); have HGN := Lib.hid hg; have HcP := Lib.hid hcP; clear ho hb hg hat hcP))
        obtain ⟨inner, hin⟩ := Kd.R_own HPS.out.hd
        have hS4 : Soft B (· = P) W (w4.setCell ⟨P, 4, none⟩ (.slice A1 (ys.length + 1) c1)) := ((HS.out.then_below HBs.out HB3.out).trans (Soft.own HSZ.out HGN.out hin (Nat.le_refl _))).trans (Soft.setCell (S := (· = P)) w4 (p := ⟨P, 4, none⟩) (.inl rfl) _)
        have hW4 := ((HWr.out.below HB3.out).grown hin (by decide) HGN.out).set HcP.out (by decide) 4 (.slice A1 (ys.length + 1) c1)
        have hG4 := GW_below HG0.out (Hb0.out.trans (hS4.below (b := w0.heap.size) (by have := HP0.out; have := HPB.out; omega) (fun k hk => by subst hk; exact HP0.out)))
        have hY4 : ∃ (ys' : List Int) (vh : Value), ys'.length = i + 1 ∧ r = (nums (ws.drop (i + 1 + 2))).map (ys' ++ ·) ∧ PS P B (w4.setCell ⟨P, 4, none⟩ (.slice A1 (ys.length + 1) c1)) code first heads t1 ys' [] vh (.slice none 0 0) := by
          refine ⟨ys ++ [v], _, by simp [Hy3.out], ?_, HPN.out⟩
          rw [Hr3.out, nums_drop Ht.out, Hnum.out, show i + 1 + 2 = i + 2 + 1 by omega]
          cases nums (ws.drop (i + 2 + 1)) <;> simp
        have HS4 := Lib.hid hS4
        have HW4 := Lib.hid hW4
        have HG4 := Lib.hid hG4
        have HY4 := Lib.hid hY4
        clear hS4 hW4 hG4 hY4 hin
        go_roundg k1
        case measure => omega
        case rel => exact ⟨i + 1, by go_num, Lib.hid (by have := Hi.out; omega), HS4, HW4, HG4, HY4⟩
    · have hib : decide ((i : Int) < heads) = false := decide_eq_false (by omega)
      have hih : i = heads := by have := Hi.out; omega
      obtain ⟨ys, vh, hy, hr, hps⟩ := HY.out
      have hfin : r = some ys := by
        rw [hr, List.drop_eq_nil_of_le (by have := Hl.out; omega)]
        simp [nums]
      have Hfin := Lib.hid hfin
      have HPS := Lib.hid hps
      clear hfin hr hy hps HY hih
      go_wp2
      go_ret
      exact ⟨by rw [Hfin.out]; rfl, HS.out, fun l hl => by rw [Hfin.out] at hl; obtain rfl := Option.some.inj hl; exact ⟨vh, HPS.out⟩⟩
end Go.Proofs.YtfibkajflenekaaDoor.G
