/-
  (*text.parser).line: any line but the first, by a walk over its text. Conditions: the package variables hold what they hold (GW); the words are shorter than 4294967281 bytes.
-/
import Derived.Test.YtfibkajflenekaaDoorFill
import Derived.Test.YtfibkajflenekaaDoorSuffix
import Derived.Test.YtfibkajflenekaaDoorTails
import Derived.Deep.RegionLaw
import Derived.Deep.DeepCutAuto
import Derived.Test.YtfibkajflenekaaDoorRegG
namespace Go.Proofs.YtfibkajflenekaaDoor.G
set_option linter.unusedVariables false
set_option linter.unusedSimpArgs false
open Go.RowKit Go.Proofs.YtfibkajflenekaaDoorW.PrintWords Go.Proofs.YtfibkajflenekaaDoorW.PrintLast Go.Proofs.YtfibkajflenekaaDoor.PTx

theorem below_grown_none {w w1 : World} (hg : w.grownBy w1 none) : Below w.heap.size w w1 := ⟨hg.os, hg.tape, hg.output, hg.size, fun k hk => hg.block k hk (by simp)⟩
theorem info48 : (Tryd.prog.info? 48).map (fun i => (i.zero, i.size, i.bytes)) = some (some (.slice none 0 0), 1, 24) := by kernel_rfl
theorem own_set {w : World} {base e sz n : Nat} {v : Value} {xs : List Value} (h : w.ownsRow base e sz v n xs) {g t : Nat} {cells : Array Value} (hb : w.heap[g]? = some (.cells cells t (0, 0))) (ht : e ≠ t) (j : Nat) (u : Value) : (w.setCell ⟨g, j, none⟩ u).ownsRow base e sz v n xs :=
  own_move h (fun k hk => Below.heap_setCell _ _ _ _ (fun e => by
    have e' : k = g := e
    subst e'
    obtain ⟨c, hc⟩ := own_typed h k hk
    rw [hb] at hc
    injection hc with hc
    injection hc with _ hc
    exact ht hc.symm))
theorem BI.set {w : World} {base : Nat} {v : Value} {xs : List (List S72)} (h : BI k72 72 48 w base v xs) {g : Nat} {cells : Array Value} (hb : w.heap[g]? = some (.cells cells 77 (0, 0))) (j : Nat) (u : Value) : BI k72 72 48 (w.setCell ⟨g, j, none⟩ u) base v xs := by
  rcases h with ⟨h1, h2⟩ | ⟨ini, x, vs, uu, N, h1, h2⟩
  · exact .inl ⟨h1, own_set h2 hb (by decide) j u⟩
  · refine .inr ⟨ini, x, vs, uu, N, h1, own_set h2.own hb (by decide) j u, h2.rep.imp_ (fun y cs hp => ?_), ?_, Nat.le_trans h2.le (by simp)⟩
    · have h3 := Kd.M_types (d := Kd.slice 72 k72) hp hb (fun q hq => by
        have : q ∈ [72, 3] := hq
        rcases List.mem_cons.1 this with rfl | hq
        · decide
        · rcases List.mem_cons.1 hq with rfl | hq
          · decide
          · cases hq)
      exact (Kd.slice 72 k72).M_mono (fun k hk => hk.1) (Kd.M_far (d := Kd.slice 72 k72) (p := ⟨g, j, none⟩) h3 (fun k hk => hk.2) u)
    · exact Kd.R_set h2.last hb (fun q hq => by
        have : q ∈ [72, 3] := hq
        rcases List.mem_cons.1 this with rfl | hq
        · decide
        · rcases List.mem_cons.1 hq with rfl | hq
          · decide
          · cases hq) j u
theorem ne_own {w : World} {b E sz n g t : Nat} {v : Value} {inner : List Value} {cells : Array Value} (ho : w.ownsRow b E sz v n inner) (hb : w.heap[g]? = some (.cells cells t (0, 0))) (ht : E ≠ t) : some g ≠ v.ownBlock := own_ne ho hb ht
/-- One more block in the parser: behind the append, and its store. -/
theorem PS.pushed {P B : Nat} {W w5 w6 : World} {code : Bool} {first name : ByteArray} {heads : Int} {head : List Int} {blocks : List (List S72)} {vh vb v1 u0 : Value} {inner : List Value} (h : PS P B W code first heads name head blocks vh vb) (hi : W.ownsRow B 48 1 vb blocks.length inner) (hb : Below W.heap.size W w5)
    (hu : k72.R 72 w5 B (fun k => W.heap.size ≤ k) u0 []) (ho : w6.ownsRow B 48 1 v1 (blocks.length + 1) (inner ++ [u0])) (hg : w5.grownBy w6 vb.ownBlock) (hat : v1.ownBlock = vb.ownBlock ∨ ∃ b, v1.ownBlock = some b ∧ w5.heap.size ≤ b) :
    w6.heap[P]? = some (.cells #[.bool code, .string first, .int .i64 heads, .string name, vh, vb] 77 (0, 0)) ∧ PS P B (w6.setCell ⟨P, 5, none⟩ v1) code first heads name head (blocks ++ [[]]) vh v1 := by
  have h5 := h.below hb
  have hP6 := (hg.block P (blk_lt h5.cells) (ne_own (pw_own_below hi hb) h5.cells (by decide))).trans h5.cells
  refine ⟨hP6, blk_put hP6 5 v1 rfl, Kd.R_set (int_push h5.hd (pw_own_below hi hb) (by decide) hg) hP6 (fun q hq => by
    rcases List.mem_cons.1 hq with rfl | hq
    · decide
    · cases hq) 5 v1, (h.bl.push hi hb hu ho hg hat).set hP6 5 v1⟩
/-- One more instruction in the last block: behind the append, and its store. -/
theorem line_fin {P B gr m c N : Nat} {W w1 : World} {code : Bool} {first name : ByteArray} {heads : Int} {head : List Int} {ini : List (List S72)} {xl : List S72} {vs : List Value} {uu vh u1 : Value} {p : S72}
    (hps : PS P B W code first heads name head (ini ++ [xl]) vh (.slice (some ⟨gr, 0, none⟩) (m + 1) c)) (ht : Tail k72 72 48 W B (.slice (some ⟨gr, 0, none⟩) (m + 1) c) ini xl vs uu N) (hm : ini.length = m)
    (hu : k72.R 72 w1 B (fun k => N ≤ k ∧ some k ≠ (Value.slice (some ⟨gr, 0, none⟩) (m + 1) c).ownBlock) u1 (xl ++ [p])) (hg : W.grownBy w1 uu.ownBlock) (hb1 : Below B W w1) (hbg : B ≤ gr) (hB : B ≤ W.heap.size) :
    PS P B (w1.setCell ⟨gr, m, none⟩ u1) code first heads name head (addLast (ini ++ [xl]) p) vh (.slice (some ⟨gr, 0, none⟩) (m + 1) c) ∧ Soft B (· = P) W (w1.setCell ⟨gr, m, none⟩ u1) := by
  obtain ⟨h1, h2, h3⟩ := ht.done hm hu hg hb1 hps.hd hbg
  have hne : some P ≠ uu.ownBlock := ne_own ht.last.2.choose_spec.1 hps.cells (by decide)
  have hPg : P ≠ gr := fun he => by
    obtain ⟨cells, hc⟩ := own_typed ht.own gr rfl
    rw [← he, hps.cells] at hc
    injection hc with hc
    injection hc with _ hc
    cases hc
  exact ⟨⟨(Below.heap_setCell _ _ _ _ hPg).trans ((hg.block P (blk_lt hps.cells) hne).trans hps.cells), h2, h1⟩, (Soft.own hB hg ht.last.2.choose_spec.1 (Nat.le_refl _)).trans (Soft.setCell (S := (· = P)) w1 (p := ⟨gr, m, none⟩) (.inr hbg) u1)⟩
def lBlock : List UInt8 := [98, 108, 111, 99, 107]

set_option maxHeartbeats 8000000 in
set_option maxRecDepth 100000 in
theorem line_block (P B tb : Nat) (code : Bool) (first : ByteArray) (heads : Nat) (name : ByteArray) (head : List Int) (blocks : List (List S72)) (ws : List ByteArray) (W : World) (vh vb : Value) (t0 : ByteArray) (hPB : P < B) (hB : B ≤ W.heap.size)
    (hP : PS P B W code first heads name head blocks vh vb) (hW : WordsAt W tb ws) (h0 : ws[0]? = some t0) (he : t0.toList = lBlock) (hl : ws.length = 1) (hbl : blocks.length < 1099511627776) :
    Calls Tryd.prog 51 #[.pointer (some ⟨P, 0, none⟩), .slice (some ⟨tb, 0, none⟩) ws.length ws.length] W fun e W' => e = .returned (.int .i64 0) ∧ Soft B (· = P) W W' ∧ ∃ vb', PS P B W' code first heads name head (blocks ++ [[]]) vh vb' := by
  have hb1 : (t0.toList == ([98, 108, 111, 99, 107] : List UInt8)) = true := beq_iff_eq.mpr he
  have hb1' : (t0.toList != ([98, 108, 111, 99, 107] : List UInt8)) = false := bne_eq_false_iff_eq.mpr he
  have hb2 : ((ws.length : Int) == 1) = true := beq_iff_eq.mpr (by omega)
  have hcell := hW.cell h0
  have p1 : ((0 : Int) < ws.length) = True := eq_true (by omega)
  have p2 : (0 < ws.length) = True := eq_true (by omega)
  have hc5 : W.cell? ⟨P, 5, none⟩ = some vb := (blk_cell hP.cells 5).trans rfl
  have hf5 := blk_frozen hP.cells 5
  have HP := Lib.hid hP
  have HBs := Lib.hid hB
  obtain ⟨inner, hin⟩ := hP.bl.own
  have HI := Lib.hid hin
  clear hP hW he h0 hl hin
  go_enter Tryd.func51, Tryd.ntmps51
  go_wp2_with (first
    | ((with_reducible refine gate_dst (N := 26) rfl ?_); refine Kd.R_lit k72 B 72 (w0 := W) ?hg (N := 26) ?hd (xs := ([] : List S72)) (inner := []) (ok := fun k => W.heap.size ≤ k) (okp := fun k => W.heap.size ≤ k) ?hr ?hp (fun _ hk => hk) (Nat.le_refl _) ?hB ?hz (by simp) ?_; (case hd => rfl); (case hg => rfl); (case hr => first | (go_simp; done) | (go_simp; rfl)); (case hp => exact (Reps.none _ _)); (case hB => exact Below.refl _ _); (case hz => exact HBs.out); intro v26 w5 ho hb hg_ hnew_; obtain ⟨A26, c26, e26⟩ := Kd.R_slice ho; subst e26; have n0_ := Lib.hid (below_grown_none hg_); have n4_ := Lib.hid ho; clear hb ho hg_ hnew_; have HU := n4_; have HB0 := n0_; clear n0_ n4_)
    | ((with_reducible refine gate_builtin (b := .append) (xs := #[.tmp 25, .tmp 27]) rfl ?_); at_builtin; refine print_append_cells (w0 := w5) B rfl (.tmp 25) (.tmp 27) 41 48 (.slice none 0 0) 1 24 rfl Tryd.underlying41 info48 rfl (by decide) (by omega) vb blocks.length inner [.slice A26 0 c26] rfl rfl rfl ?aO ?aH ?aB ?aS ?aL ?_; (case aO => simp [Value.oneCell']); (case aH => exact pw_own_below HI.out HB0.out); (case aB => exact Below.refl _ _); (case aS => exact Nat.le_trans HBs.out HB0.out.size); (case aL => omega); intro v1 w6 ho hb hg hat; obtain ⟨A1, c1, e1⟩ := own_slice ho; subst e1; obtain ⟨hP6, hps⟩ := HP.out.pushed HI.out HB0.out HU.out ho hg hat; have hc51 : w6.cell? ⟨P, 5, none⟩ = some vb := (blk_cell hP6 5).trans rfl; have hf51 := blk_frozen hP6 5; have HPS := Lib.hid hps; have HS := Lib.hid (((Soft.of_below (S := (· = P)) HBs.out HB0.out).trans (Soft.own (Nat.le_trans HBs.out HB0.out.size) hg (pw_own_below HI.out HB0.out) (Nat.le_refl _))).trans (Soft.setCell (S := (· = P)) w6 (p := ⟨P, 5, none⟩) (.inl rfl) (.slice A1 (blocks.length + 1) c1))); clear ho hb hg hat hP6 hps))
  go_ret
  exact ⟨rfl, HS.out, _, HPS.out⟩
/-- Whether a line has another number of words than its form asks. -/
def lineBad (fs : ByteArray) (n : Nat) : Bool := if Lib.hasSuffix fs.data.toList [76] = true then decide (n + 1 < fs.size) else decide (n ≠ fs.size)
/-- What a line that is no block's comes to. -/
def lineF (nm : ByteArray → Bool) (op : Int) (fs : ByteArray) (is : Bool) (blocks : List (List S72)) (wl : List ByteArray) (n : Nat) : Int × List (List S72) :=
  if is = false ∨ blocks.length = 0 then (80, []) else if lineBad fs n = true then (80, []) else
  if (fillF nm fs.data.toList wl ⟨op, 0, 0, 0, ⟨#[]⟩, []⟩).1 = 0 then (0, addLast blocks (fillF nm fs.data.toList wl ⟨op, 0, 0, 0, ⟨#[]⟩, []⟩).2) else ((fillF nm fs.data.toList wl ⟨op, 0, 0, 0, ⟨#[]⟩, []⟩).1, [])
set_option maxHeartbeats 16000000 in
set_option maxRecDepth 100000 in
theorem line_else (nm : ByteArray → Bool) (k : Nat) (P B tb n : Nat) (code : Bool) (first : ByteArray) (heads : Nat) (name : ByteArray) (head : List Int) (blocks : List (List S72)) (ws : List ByteArray) (W : World) (hG : GW W) (vh vb : Value) (t0 : ByteArray) (hPB : P < B) (hB : B ≤ W.heap.size)
    (hP : PS P B W code first heads name head blocks vh vb) (hW : WordsAt W tb ws) (hlen : ws.length = n + 1) (hn : n < 1073741824) (h0 : ws[0]? = some t0) (hnb : ¬ (t0.toList = lBlock ∧ ws.length = 1)) (op : Int) (fw fs : ByteArray) (is : Bool) (hby : text_by.f k t0 code = some (op, fw, fs, is)) (hbl : blocks.length < 1099511627776) (hlx : (blocks.getLast?.getD []).length < 1099511627776) (hfz : fs.size < 1000)
    (hform : is = true → (∀ c ∈ fs.data.toList, c = 68 ∨ c = 65 ∨ c = 66 ∨ c = 78 ∨ c = 76) ∧ need fs.data.toList = (if Lib.hasSuffix fs.data.toList [76] = true then fs.size - 1 else fs.size) ∧ 1 ≤ need fs.data.toList) (hsz : ∀ (i : Nat) (t : ByteArray), ws[i]? = some t → t.size < 4294967281) (hnm : ∀ (i : Nat) (t : ByteArray), ws[i]? = some t → ir_Name.f t = some (nm t)) (r : Int × List (List S72)) (hr : lineF nm op fs is blocks (ws.drop 1) n = r) :
    Calls Tryd.prog 51 #[.pointer (some ⟨P, 0, none⟩), .slice (some ⟨tb, 0, none⟩) ws.length ws.length] W fun e W' => e = .returned (.int .i64 r.1) ∧ Soft B (· = P) W W' ∧ (r.1 = 0 → ∃ vb', PS P B W' code first heads name head r.2 vh vb') := by
  have hu115 := Tryd.underlying115
  have hpos : 0 < ws.length := (List.getElem?_eq_some_iff.1 h0).1
  have hcell := hW.cell h0
  have p1 : ((0 : Int) < ws.length) = True := eq_true (by omega)
  have p2 : (0 < ws.length) = True := eq_true (by omega)
  have hc0 : W.cell? ⟨P, 0, none⟩ = some (.bool code) := (blk_cell hP.cells 0).trans rfl
  have HBY := Lib.hid (fun V hV => text_by.calls k t0 code op fw fs is V hV hby)
  have HG := Lib.hid hG
  have HP := Lib.hid hP
  have HW := Lib.hid hW
  have HBs := Lib.hid hB
  have H0 := Lib.hid h0
  have Hlen := Lib.hid hlen
  have hcond : (t0.toList == ([98, 108, 111, 99, 107] : List UInt8)) = false ∨ ((t0.toList == ([98, 108, 111, 99, 107] : List UInt8)) = true ∧ ((ws.length : Int) == 1) = false) := by
    by_cases h : t0.toList = lBlock
    · exact .inr ⟨beq_iff_eq.mpr h, beq_eq_false_iff_ne.mpr (fun h2 => hnb ⟨h, by omega⟩)⟩
    · exact .inl (beq_eq_false_iff_ne.mpr h)
  have HCO := Lib.hid hcond
  have Hr := Lib.hid hr
  have Hform := Lib.hid hform
  have Hsz := Lib.hid hsz
  have Hnm := Lib.hid hnm
  clear hP hW h0 hnb hby hG hcond hB hlen hr hform hsz hnm
  go_enter Tryd.func51, Tryd.ntmps51
  go_upto_region 1 with fail
  go_cut [20] (fun v20 wx => v20 = .bool false ∧ wx = W)
  case first =>
    rcases HCO.out with hq1 | ⟨hq1, hq2⟩
    · go_wp2
      go_meet
      case rel => exact ⟨rfl, rfl⟩
    · go_wp2
      go_meet
      case rel => exact ⟨rfl, rfl⟩
  case rest =>
    obtain ⟨rfl, rfl⟩ := hcut
    go_upto_region 4 with fail
    go_cut [5, 6] (fun v5 v6 wx => ∃ g : Nat, v5 = .pointer (some ⟨g, 0, none⟩) ∧ v6 = .bool is ∧ Hid (wc.heap.size ≤ g) ∧ Hid (wx.heap[g]? = some (.cells #[.int .i64 op, .string fw, .string fs] 115 (0, 0))) ∧ Hid (Below wc.heap.size wc wx))
    case first =>
      have hcell := HW.out.cell H0.out
      have hc0 : wc.cell? ⟨P, 0, none⟩ = some (.bool code) := (blk_cell HP.out.cells 0).trans rfl
      have hcellA := pw_cell_below (below_alloc (Below.refl wc.heap.size wc) (.cells #[.int .i64 0, .string ⟨#[]⟩, .string ⟨#[]⟩] 115)) hcell
      have hc0A := pw_cell_below (below_alloc (Below.refl wc.heap.size wc) (.cells #[.int .i64 0, .string ⟨#[]⟩, .string ⟨#[]⟩] 115)) hc0
      go_region_law
        (first
          | (go_simp; go_at_call 73; refine (HBY.out (wc.alloc (.cells #[.int .i64 0, .string ⟨#[]⟩, .string ⟨#[]⟩] 115)).drew (GW_below HG.out (below_drew (below_alloc (Below.refl _ _) _)))).mono ?_; rintro e w2 ⟨rfl, hb⟩; have hbk := (hb.block wc.heap.size (blk_lt (blk_drew (blk_new wc (.cells #[.int .i64 0, .string ⟨#[]⟩, .string ⟨#[]⟩] 115))))).trans (blk_drew (blk_new wc (.cells #[.int .i64 0, .string ⟨#[]⟩, .string ⟨#[]⟩] 115))); have z0 : w2.cell? ⟨wc.heap.size, 0, none⟩ = some (.int .i64 0) := (blk_cell hbk 0).trans rfl; have z1 : w2.cell? ⟨wc.heap.size, 1, none⟩ = some (.string ⟨#[]⟩) := (blk_cell hbk 1).trans rfl; have z2 : w2.cell? ⟨wc.heap.size, 2, none⟩ = some (.string ⟨#[]⟩) := (blk_cell hbk 2).trans rfl; have y0 := blk_frozen hbk 0; have y1 := blk_frozen hbk 1; have y2 := blk_frozen hbk 2)
          | (go_simp; go_at_call 73; refine (HBY.out _ (GW_drew HG.out)).mono ?_; rintro e w2 ⟨rfl, hb⟩))
      all_goals go_wp2
      all_goals (try simp only [Act.put, List.setIfInBounds_toArray, List.set_cons_zero, List.set_cons_succ])
      all_goals go_meet
      all_goals first
        | exact ⟨_, rfl, rfl, Lib.hid hb.size, Lib.hid (blk_new w2 _), Lib.hid (below_alloc ((below_drew (Below.refl _ _)).trans hb) _)⟩
        | exact ⟨wc.heap.size, rfl, rfl, Lib.hid (Nat.le_refl _), Lib.hid (blk_put (blk_put (blk_put hbk 0 (.int .i64 op) rfl) 1 (.string fw) rfl) 2 (.string fs) rfl), Lib.hid (((((below_drew (below_alloc (Below.refl wc.heap.size wc) _)).trans ⟨hb.os, hb.tape, hb.output, hb.size, fun i hi => hb.block i (by have := (below_drew (below_alloc (Below.refl wc.heap.size wc) (.cells #[.int .i64 0, .string ⟨#[]⟩, .string ⟨#[]⟩] 115))).size; omega)⟩).setCell (p := ⟨wc.heap.size, 0, none⟩) (Nat.le_refl _) _).setCell (p := ⟨wc.heap.size, 1, none⟩) (Nat.le_refl _) _).setCell (p := ⟨wc.heap.size, 2, none⟩) (Nat.le_refl _) _)⟩
    case rest =>
      obtain ⟨g, rfl, rfl, Hg, Hbg, Hbw⟩ := hcut
      have hPS := HP.out.below Hbw.out
      obtain ⟨Ab, cb, hvb⟩ := hPS.bl.form
      subst hvb
      have hc5 : wc.cell? ⟨P, 5, none⟩ = some (.slice Ab blocks.length cb) := (blk_cell hPS.cells 5).trans rfl
      have hg0 : wc.cell? ⟨g, 0, none⟩ = some (.int .i64 op) := (blk_cell Hbg.out 0).trans rfl
      have hg1 : wc.cell? ⟨g, 1, none⟩ = some (.string fw) := (blk_cell Hbg.out 1).trans rfl
      have hg2 : wc.cell? ⟨g, 2, none⟩ = some (.string fs) := (blk_cell Hbg.out 2).trans rfl
      have HPS := Lib.hid hPS
      clear hPS
      by_cases hbad : is = false ∨ blocks.length = 0
      · have hbt : (is = false) ∨ (is = true ∧ blocks.length = 0) := by
          cases is
          · exact .inl rfl
          · rcases hbad with h | h
            · cases h
            · exact .inr ⟨rfl, h⟩
        have hR : r = (80, []) := by rw [← Hr.out, lineF, if_pos hbad]
        have HR := Lib.hid hR
        have HS := Lib.hid (Soft.of_below (S := (· = P)) HBs.out Hbw.out)
        clear hR hbad
        rcases hbt with rfl | ⟨rfl, h0⟩
        · go_wp2
          go_ret
          exact ⟨by rw [HR.out]; rfl, HS.out, fun h => by rw [HR.out] at h; cases h⟩
        · rw [h0] at hc5
          go_wp2
          go_ret
          exact ⟨by rw [HR.out]; rfl, HS.out, fun h => by rw [HR.out] at h; cases h⟩
      · have his : is = true := by
          cases is
          · exact absurd (.inl rfl) hbad
          · rfl
        subst his
        have hb0 : blocks.length ≠ 0 := fun h => hbad (.inr h)
        have hkb : decide ((blocks.length : Int) - 1 < 0) = false := decide_eq_false (by omega)
        obtain ⟨sb, hsb⟩ : ∃ sb, Lib.hasSuffix fs.data.toList [76] = sb := ⟨_, rfl⟩
        have HSF := Lib.hid (fun V => Tryd.strings_HasSuffix fs ⟨#[76]⟩ V (by omega))
        have Hbad := Lib.hid hbad
        have hl1 : ((ws.length : Int) - 1) = n := by have := Hlen.out; omega
        by_cases hlb : lineBad fs n = true
        · have hR : r = (80, []) := by rw [← Hr.out, lineF, if_neg hbad, if_pos hlb]
          have HR := Lib.hid hR
          have HS := Lib.hid (Soft.of_below (S := (· = P)) HBs.out Hbw.out)
          cases sb
          · have hq : n ≠ fs.size := by
              unfold lineBad at hlb
              rw [hsb, if_neg (by decide)] at hlb
              simpa using hlb
            have hq1 : ((n : Int) != fs.size) = true := bne_iff_ne.mpr (by omega)
            have Hsb := Lib.hid hsb
            clear hR hbad hlb hsb
            go_wp2_with fail
            refine (HSF.out _).mono ?_
            rintro e w3 ⟨rfl, rfl⟩
            rw [Hsb.out]
            go_wp2
            go_ret
            exact ⟨by rw [HR.out]; rfl, HS.out, fun h => by rw [HR.out] at h; cases h⟩
          · have hq : n + 1 < fs.size := by
              unfold lineBad at hlb
              rw [if_pos hsb] at hlb
              simpa using hlb
            have hq1 : decide ((n : Int) < (fs.size : Int) - 1) = true := decide_eq_true (by omega)
            have Hsb := Lib.hid hsb
            clear hR hbad hlb hsb
            go_wp2_with fail
            refine (HSF.out _).mono ?_
            rintro e w3 ⟨rfl, rfl⟩
            rw [Hsb.out]
            go_wp2
            go_ret
            exact ⟨by rw [HR.out]; rfl, HS.out, fun h => by rw [HR.out] at h; cases h⟩
        · have hR : r = if (fillF nm fs.data.toList (ws.drop 1) ⟨op, 0, 0, 0, ⟨#[]⟩, []⟩).1 = 0 then (0, addLast blocks (fillF nm fs.data.toList (ws.drop 1) ⟨op, 0, 0, 0, ⟨#[]⟩, []⟩).2) else ((fillF nm fs.data.toList (ws.drop 1) ⟨op, 0, 0, 0, ⟨#[]⟩, []⟩).1, []) := by rw [← Hr.out, lineF, if_neg hbad, if_neg hlb]
          have HR := Lib.hid hR
          have hneed : need fs.data.toList ≤ n := by
            rw [(Hform.out rfl).2.1]
            unfold lineBad at hlb
            cases sb
            · rw [hsb, if_neg (by decide)] at hlb
              rw [hsb, if_neg (by decide)]
              have : n = fs.size := by simpa using hlb
              omega
            · rw [if_pos hsb] at hlb
              rw [if_pos hsb]
              have : fs.size ≤ n + 1 := by simpa using hlb
              omega
          have Hneed := Lib.hid hneed
          have Hlb := Lib.hid hlb
          have Hsb := Lib.hid hsb
          clear hR hneed hlb hbad hsb
          go_wp2_with fail
          refine (HSF.out _).mono ?_
          rintro e w3 ⟨rfl, rfl⟩
          rw [Hsb.out]
          go_upto_region 10 with fail
          go_cut [79] (fun v79 wx => v79 = .bool false ∧ wx = w3)
          case first =>
            have hlb := Hlb.out
            have hsb := Hsb.out
            cases sb
            · have hq : n = fs.size := by
                unfold lineBad at hlb
                rw [hsb, if_neg (by decide)] at hlb
                simpa using hlb
              have hq1 : ((n : Int) != fs.size) = false := bne_eq_false_iff_eq.mpr (by omega)
              clear hlb hsb hq
              go_wp2
              go_meet
              case rel => exact ⟨rfl, rfl⟩
            · have hq : fs.size ≤ n + 1 := by
                unfold lineBad at hlb
                rw [if_pos hsb] at hlb
                simpa using hlb
              have hq1 : decide ((n : Int) < (fs.size : Int) - 1) = false := decide_eq_false (by omega)
              clear hlb hsb hq
              go_wp2
              go_meet
              case rel => exact ⟨rfl, rfl⟩
          case rest =>
            obtain ⟨rfl, hcut⟩ := hcut
            subst hcut
            obtain ⟨w3, hw3⟩ : ∃ w3 : World, w3 = wc := ⟨_, rfl⟩
            subst hw3
            go_upto_region 13 with fail
            obtain ⟨rr, hrr⟩ : ∃ rr, fillF nm fs.data.toList (ws.drop 1) ⟨op, 0, 0, 0, ⟨#[]⟩, []⟩ = rr := ⟨_, rfl⟩
            obtain ⟨X, hX⟩ : ∃ X : Obj, X = .cells #[.int .i64 op, .int .i64 0, .int .i64 0, .int .i64 0, .string ⟨#[]⟩, .slice none 0 0] 72 := ⟨_, rfl⟩
            have hbX := blk_new w3 (.cells #[.int .i64 op, .int .i64 0, .int .i64 0, .int .i64 0, .string ⟨#[]⟩, .slice none 0 0] 72)
            have hbW := below_alloc (Below.refl w3.heap.size w3) (.cells #[.int .i64 op, .int .i64 0, .int .i64 0, .int .i64 0, .string ⟨#[]⟩, .slice none 0 0] 72)
            rw [hrr] at HR
            have HbX := Lib.hid hbX
            have HbW := Lib.hid hbW
            have Hrr := Lib.hid hrr
            clear hbX hbW hrr hX
            go_cut [11] (fun v11 wx => v11 = .int .i64 rr.1 ∧ Hid (Soft (w3.heap.size + 1) (· = w3.heap.size) (w3.alloc (.cells #[.int .i64 op, .int .i64 0, .int .i64 0, .int .i64 0, .string ⟨#[]⟩, .slice none 0 0] 72)) wx) ∧
              Hid (rr.1 = 0 → ∃ v5, wx.heap[w3.heap.size]? = some (.cells #[.int .i64 rr.2.f0, .int .i64 rr.2.f1, .int .i64 rr.2.f2, .int .i64 rr.2.f3, .string rr.2.f4, v5] 72 (0, 0)) ∧ (Kd.int .i64).R 3 wx (w3.heap.size + 1) (fun _ => True) v5 rr.2.f5))
            case first =>
              have hn1 : 1 ≤ n := Nat.le_trans (Hform.out trivial).2.2 Hneed.out
              have hlen3 : ws.length - 1 = n := by have := Hlen.out; omega
              have hw1 : (ws.length = 1) = False := eq_false (by have := Hlen.out; omega)
              have p11 : ((1 : Int) ≤ ws.length) = True := eq_true (by omega)
              have p12 : (1 ≤ ws.length) = True := eq_true (by omega)
              have ha0 := pw_cell_below HbW.out hg0
              have ha1 := pw_cell_below HbW.out hg1
              have ha2 := pw_cell_below HbW.out hg2
              have HBA := Lib.hid (below_drew (below_step Hbw.out HbW.out))
              have hfill := fill_run nm w3.heap.size tb op fw fs ws n (w3.alloc (.cells #[.int .i64 op, .int .i64 0, .int .i64 0, .int .i64 0, .string ⟨#[]⟩, .slice none 0 0] 72)).drew _ HG.out HBA.out Hbw.out.size ⟨op, 0, 0, 0, ⟨#[]⟩, []⟩ Hlen.out hn1 hn (HW.out.below HBA.out) (blk_drew HbX.out) rfl hfz (Hform.out trivial).1 Hneed.out Hsz.out Hnm.out rr Hrr.out
              have hz : (w3.alloc (.cells #[.int .i64 op, .int .i64 0, .int .i64 0, .int .i64 0, .string ⟨#[]⟩, .slice none 0 0] 72)).drew.heap.size = w3.heap.size + 1 := by simp
              simp only [hz] at hfill
              have HF := Lib.hid hfill
              clear hfill hz hn1
              go_region_law
                (first
                  | (go_simp; go_at_call 75; refine HF.out.mono ?_; rintro e w5 ⟨rfl, hS, hO⟩; have HS5 := Lib.hid hS; have HO5 := Lib.hid hO; clear hS hO))
              all_goals go_wp2
              all_goals (try simp only [Act.put, List.setIfInBounds_toArray, List.set_cons_zero, List.set_cons_succ])
              all_goals go_meet
              all_goals exact ⟨rfl, Lib.hid ((Soft.of_below (by simp) (below_drew (Below.refl _ _))).trans HS5.out), HO5⟩
            case rest =>
              obtain ⟨rfl, HS5, HO5⟩ := hcut
              have hbV := HbW.out.trans (HS5.out.below (b := w3.heap.size) (by omega) (fun k hk => by omega))
              have HBV := Lib.hid hbV
              have HSV := Lib.hid (Soft.of_below (S := (· = P)) HBs.out (below_step Hbw.out hbV))
              have hcV5 := pw_cell_below hbV hc5
              clear hbV
              by_cases h0 : rr.1 = 0
              · rw [if_pos h0] at HR
                have hq2 : (rr.1 != 0) = false := bne_eq_false_iff_eq.mpr h0
                have hq3 : (rr.1 == 0) = true := beq_iff_eq.mpr h0
                obtain ⟨v5, hX5, hR5⟩ := HO5.out h0
                rcases HPS.out.bl with ⟨he0, _⟩ | ⟨ini, xl, vs, uu, N, hbe, hT⟩
                · exact absurd (by rw [he0]; rfl) hb0
                subst hbe
                obtain ⟨gr, cr, hv, hcu, hfu, hgb, hgc, hcap⟩ := hT.form
                obtain ⟨m, hm⟩ : ∃ m, ini.length = m := ⟨_, rfl⟩
                have hm1 : (ini ++ [xl]).length = m + 1 := by rw [List.length_append, hm]; rfl
                rw [hm] at hv hcu hfu
                injection hv with hv1 hv2 hv3
                subst hv1 hv3
                rw [hm1] at hcV5 HPS hT
                have hkm : (((m + 1 : Nat) : Int) - 1) = (m : Int) := by omega
                rw [hm1, hkm]
                obtain ⟨Au, cu, hue⟩ := Kd.R_slice hT.last
                subst hue
                have hxl : xl.length < 1099511627776 := by simpa using hlx
                have hB3 : B ≤ w3.heap.size := Nat.le_trans HBs.out Hbw.out.size
                have hbD := below_drew HBV.out
                have hrd := hT.ready (p := rr.2) hbD hB3 (Kd.R_drew (Kd.R_mono (Kd.R_lower hR5 (Nat.le_succ _)) (fun _ _ => trivial)))
                have hTW := hT.below hbD
                have hPW := HPS.out.below hbD
                have hsW : B ≤ wc.drew.heap.size := Nat.le_trans hB3 hbD.size
                have hcW := pw_cell_below HBV.out hcu
                have hfW : wc.frozen? ⟨gr, m, none⟩ = false := by
                  obtain ⟨cells, hc⟩ := hgc
                  exact (World.frozen?_of_block (HBV.out.block gr (blk_lt hc))).trans hfu
                have hug := hT.ne.1
                have hgW : gr < wc.heap.size := by
                  obtain ⟨cells, hc⟩ := hgc
                  exact Nat.lt_of_lt_of_le (blk_lt hc) HBV.out.size
                have hgn : w3.heap.size ≠ gr := fun he => by
                  obtain ⟨cells, hc⟩ := hgc
                  have := blk_lt hc
                  omega
                have k0 : wc.cell? ⟨w3.heap.size, 0, none⟩ = some (.int .i64 rr.2.f0) := (blk_cell hX5 0).trans rfl
                have k1' : wc.cell? ⟨w3.heap.size, 1, none⟩ = some (.int .i64 rr.2.f1) := (blk_cell hX5 1).trans rfl
                have k2' : wc.cell? ⟨w3.heap.size, 2, none⟩ = some (.int .i64 rr.2.f2) := (blk_cell hX5 2).trans rfl
                have k3' : wc.cell? ⟨w3.heap.size, 3, none⟩ = some (.int .i64 rr.2.f3) := (blk_cell hX5 3).trans rfl
                have k4' : wc.cell? ⟨w3.heap.size, 4, none⟩ = some (.string rr.2.f4) := (blk_cell hX5 4).trans rfl
                have k5' : wc.cell? ⟨w3.heap.size, 5, none⟩ = some v5 := (blk_cell hX5 5).trans rfl
                have hA := below_alloc (Below.refl wc.heap.size wc) (.cells #[.int .i64 rr.2.f0, .int .i64 rr.2.f1, .int .i64 rr.2.f2, .int .i64 rr.2.f3, .string rr.2.f4, v5] 72)
                have hcA5 := pw_cell_below hA hcV5
                have hcAg := pw_cell_below hA hcW
                have hfA := (World.frozen?_of_block (a := ⟨gr, m, none⟩) (hA.block gr hgW)).trans hfW
                have hPne : some P ≠ (Value.slice Au xl.length cu).ownBlock := ne_own hTW.last.2.choose_spec.1 hPW.cells (by decide)
                have hub : some w3.heap.size ≠ (Value.slice Au xl.length cu).ownBlock := fun he => by have := hT.ne.2 _ he.symm; omega
                have HRD := Lib.hid hrd
                have HTW := Lib.hid hTW
                have HPW := Lib.hid hPW
                have HSW := Lib.hid hsW
                have HBW : Hid (Below B wc.drew wc.drew) := Lib.hid (Below.refl _ _)
                have Hm := Lib.hid hm
                have Hm1 := Lib.hid hm1
                have Hgb := Lib.hid hgb
                have HX5 := Lib.hid hX5
                have hmm : ((m : Int) < (m : Int) + 1) = True := eq_true (by omega)
                obtain ⟨gb, hgbe⟩ : ∃ gb, w3.heap.size = gb := ⟨_, rfl⟩
                have HCP := Lib.hid (fun (w1 : World) (hg1 : wc.drew.grownBy w1 (Value.slice Au xl.length cu).ownBlock) => (hg1.cell hcV5 hPne : w1.cell? ⟨P, 5, none⟩ = some (.slice (some ⟨gr, 0, none⟩) (m + 1) cb)))
                clear hrd hTW hPW hsW hX5 hR5 hT hcu hfu hm hm1 hgb hgc hkm hB3 hbD hv2 HO5 HbX HbW hPne hc5 hg0 hg1 hg2 Hbw Hbg HPS HBY HSF Hform
                rw [hgbe] at k0 k1' k2' k3' k4' k5' hgn hub ⊢
                go_wp2
                refine wp_region_G (z := 16) (S := fun w' => w'.cell? ⟨P, 5, none⟩ = some (.slice (some ⟨gr, 0, none⟩) (m + 1) cb) ∧ w'.cell? ⟨gr, m, none⟩ = some (.slice Au xl.length cu) ∧ w'.cell? ⟨gb, 0, none⟩ = some (.int .i64 rr.2.f0) ∧ w'.cell? ⟨gb, 1, none⟩ = some (.int .i64 rr.2.f1) ∧ w'.cell? ⟨gb, 2, none⟩ = some (.int .i64 rr.2.f2) ∧ w'.cell? ⟨gb, 3, none⟩ = some (.int .i64 rr.2.f3) ∧ w'.cell? ⟨gb, 4, none⟩ = some (.string rr.2.f4) ∧ w'.cell? ⟨gb, 5, none⟩ = some v5) (by kernel_rfl) ⟨hcV5, hcW, k0, k1', k2', k3', k4', k5'⟩ (fun hHeld => ?_)
                refine wpAnyG_take (i := 0) (v := ?v0) rfl (by kernel_rfl) (by kernel_rfl) (by kernel_rfl) (by kernel_rfl) (fun _ _ _ h => h) (Or.inl ⟨by rfl, ?hy0⟩) hHeld ?rest0
                case hy0 => (intro w hSw; (try dsimp only at hSw); go_simp; first | done | with_reducible rfl)
                try simp only [Act.put, List.setIfInBounds_toArray, List.set_cons_zero, List.set_cons_succ]
                refine wpAnyG_take (i := 1) (v := ?v1) rfl (by kernel_rfl) (by kernel_rfl) (by kernel_rfl) (by kernel_rfl) (fun _ _ _ h => h) (Or.inl ⟨by rfl, ?hy1⟩) hHeld ?rest1
                case hy1 => (intro w hSw; (try dsimp only at hSw); go_simp; first | done | with_reducible rfl)
                try simp only [Act.put, List.setIfInBounds_toArray, List.set_cons_zero, List.set_cons_succ]
                refine wpAnyG_take (i := 2) (v := ?v2) rfl (by kernel_rfl) (by kernel_rfl) (by kernel_rfl) (by kernel_rfl) (fun _ _ _ h => h) (Or.inl ⟨by rfl, ?hy2⟩) hHeld ?rest2
                case hy2 => (intro w hSw; (try dsimp only at hSw); go_simp; first | done | with_reducible rfl)
                try simp only [Act.put, List.setIfInBounds_toArray, List.set_cons_zero, List.set_cons_succ]
                refine wpAnyG_take (i := 3) (v := ?v3) rfl (by kernel_rfl) (by kernel_rfl) (by kernel_rfl) (by kernel_rfl) (fun _ _ _ h => h) (Or.inl ⟨by rfl, ?hy3⟩) hHeld ?rest3
                case hy3 => (intro w hSw; (try dsimp only at hSw); go_simp; first | done | with_reducible rfl)
                try simp only [Act.put, List.setIfInBounds_toArray, List.set_cons_zero, List.set_cons_succ]
                refine wpAnyG_take (i := 4) (v := ?v4) rfl (by kernel_rfl) (by kernel_rfl) (by kernel_rfl) (by kernel_rfl) (fun _ _ _ h => h) (Or.inl ⟨by rfl, ?hy4⟩) hHeld ?rest4
                case hy4 => (intro w hSw; (try dsimp only at hSw); go_simp; first | done | with_reducible rfl)
                try simp only [Act.put, List.setIfInBounds_toArray, List.set_cons_zero, List.set_cons_succ]
                refine wpAnyG_take (i := 5) (v := ?v5) rfl (by kernel_rfl) (by kernel_rfl) (by kernel_rfl) (by kernel_rfl) (fun _ _ _ h => h) (Or.inl ⟨by rfl, ?hy5⟩) hHeld ?rest5
                case hy5 => (intro w hSw; (try dsimp only at hSw); go_simp; first | done | with_reducible rfl)
                try simp only [Act.put, List.setIfInBounds_toArray, List.set_cons_zero, List.set_cons_succ]
                refine wpAnyG_take (i := 6) (v := ?v6) rfl (by kernel_rfl) (by kernel_rfl) (by kernel_rfl) (by kernel_rfl) (fun _ _ _ h => h) (Or.inl ⟨by rfl, ?hy6⟩) hHeld ?rest6
                case hy6 => (intro w hSw; (try dsimp only at hSw); go_simp; first | done | with_reducible rfl)
                try simp only [Act.put, List.setIfInBounds_toArray, List.set_cons_zero, List.set_cons_succ]
                refine wpAnyG_take (i := 7) (v := ?v7) rfl (by kernel_rfl) (by kernel_rfl) (by kernel_rfl) (by kernel_rfl) (fun _ _ _ h => h) (Or.inl ⟨by rfl, ?hy7⟩) hHeld ?rest7
                case hy7 => (intro w hSw; (try dsimp only at hSw); go_simp; first | done | with_reducible rfl)
                try simp only [Act.put, List.setIfInBounds_toArray, List.set_cons_zero, List.set_cons_succ]
                refine wpAnyG_take (i := 8) (v := ?v8) rfl (by kernel_rfl) (by kernel_rfl) (by kernel_rfl) (by kernel_rfl) (fun _ _ _ h => h) (Or.inl ⟨by rfl, ?hy8⟩) hHeld ?rest8
                case hy8 => (intro w hSw; (try dsimp only at hSw); go_simp; first | done | with_reducible rfl)
                try simp only [Act.put, List.setIfInBounds_toArray, List.set_cons_zero, List.set_cons_succ]
                refine wpAnyG_take (i := 9) (v := ?v9) rfl (by kernel_rfl) (by kernel_rfl) (by kernel_rfl) (by kernel_rfl) (fun _ _ _ h => h) (Or.inl ⟨by rfl, ?hy9⟩) hHeld ?rest9
                case hy9 => (intro w hSw; (try dsimp only at hSw); go_simp; first | done | with_reducible rfl)
                try simp only [Act.put, List.setIfInBounds_toArray, List.set_cons_zero, List.set_cons_succ]
                refine wpAnyG_take (i := 10) (v := ?v10) rfl (by kernel_rfl) (by kernel_rfl) (by kernel_rfl) (by kernel_rfl) (fun _ _ _ h => h) (Or.inl ⟨by rfl, ?hy10⟩) hHeld ?rest10
                case hy10 => (intro w hSw; (try dsimp only at hSw); go_simp; first | done | with_reducible rfl)
                try simp only [Act.put, List.setIfInBounds_toArray, List.set_cons_zero, List.set_cons_succ]
                refine wpAnyG_take (i := 11) (v := ?v11) rfl (by kernel_rfl) (by kernel_rfl) (by kernel_rfl) (by kernel_rfl) (fun _ _ _ h => h) (Or.inl ⟨by rfl, ?hy11⟩) hHeld ?rest11
                case hy11 => (intro w hSw; (try dsimp only at hSw); go_simp; first | done | with_reducible rfl)
                try simp only [Act.put, List.setIfInBounds_toArray, List.set_cons_zero, List.set_cons_succ]
                refine wpAnyG_take (i := 12) (v := ?v12) rfl (by kernel_rfl) (by kernel_rfl) (by kernel_rfl) (by kernel_rfl) (fun _ _ _ h => h) (Or.inl ⟨by rfl, ?hy12⟩) hHeld ?rest12
                case hy12 => (intro w hSw; (try dsimp only at hSw); go_simp; first | done | with_reducible rfl)
                try simp only [Act.put, List.setIfInBounds_toArray, List.set_cons_zero, List.set_cons_succ]
                refine wpAnyG_one (i := 13) (by kernel_rfl) rfl (fun K hK => ?_)
                go_simp
                refine hK.out _ _ (fun _ => ⟨hcA5, hcAg, pw_cell_below hA k0, pw_cell_below hA k1', pw_cell_below hA k2', pw_cell_below hA k3', pw_cell_below hA k4', pw_cell_below hA k5'⟩) (fun hHeld2 => ?_)
                clear hK K
                try simp only [Act.put, List.setIfInBounds_toArray, List.set_cons_zero, List.set_cons_succ]
                refine wpAnyG_one (i := 14) (by kernel_rfl) rfl (fun K hK => ?_)
                rw [show (wc.alloc (.cells #[.int .i64 rr.2.f0, .int .i64 rr.2.f1, .int .i64 rr.2.f2, .int .i64 rr.2.f3, .string rr.2.f4, v5] 72)).drew = wc.drew.alloc (.cells #[.int .i64 rr.2.f0, .int .i64 rr.2.f1, .int .i64 rr.2.f2, .int .i64 rr.2.f3, .string rr.2.f4, v5] 72) from rfl]
                refine Kd.R_append_step k72 (w0 := wc.drew) B (by rfl) (.tmp 101) (.tmp 103) 48 72 (.agg #[.int .i64 0, .int .i64 0, .int .i64 0, .int .i64 0, .string ⟨#[]⟩, .slice none 0 0]) 72 rfl Tryd.underlying48 info72 rfl (by decide) (by omega) (.slice Au xl.length cu) xl rr.2 _ _ _ (by simp [Act.eval, Act.put]) (by simp [Act.eval, Act.put]) HRD.out.1 HRD.out.2.1 HRD.out.2.2 HTW.out.last HBW.out HSW.out (by omega) ?_
                intro u1 w1 hu hb1 hg1 hat1
                obtain ⟨A1', c1', e1'⟩ := Kd.R_slice hu
                rw [List.length_append, List.length_singleton] at e1'
                subst e1'
                have hf1 := (World.frozen?_of_block (hg1.block gr hgW hug)).trans hfW
                have hc1 : w1.cell? ⟨gr, m, none⟩ = some (.slice Au xl.length cu) := hg1.cell hcW hug
                have hcP1 := HCP.out w1 hg1
                have HU := Lib.hid hu
                have HB1 := Lib.hid hb1
                have HG1 := Lib.hid hg1
                refine hK.out _ _ (fun _ => ⟨hcP1, hc1, hg1.cell k0 hub, hg1.cell k1' hub, hg1.cell k2' hub, hg1.cell k3' hub, hg1.cell k4' hub, hg1.cell k5' hub⟩) (fun hHeld3 => ?_)
                clear hK K hu hb1 hat1 hg1
                try simp only [Act.put, List.setIfInBounds_toArray, List.set_cons_zero, List.set_cons_succ]
                refine wpAnyG_take (i := 15) (v := ?v15) rfl (by kernel_rfl) (by kernel_rfl) (by kernel_rfl) (by kernel_rfl) (fun _ _ _ h => h) (Or.inl ⟨by rfl, ?hy15⟩) (hHeld3 (by decide)) ?rest15
                case hy15 => (intro w hSw; (try dsimp only at hSw); go_simp; first | done | with_reducible rfl)
                try simp only [Act.put, List.setIfInBounds_toArray, List.set_cons_zero, List.set_cons_succ]
                refine wpAnyG_one (i := 16) (by kernel_rfl) rfl (fun K hK => ?_)
                go_simp
                refine hK.out _ _ (fun h => absurd rfl h) (fun _ => ?_)
                clear hK K hHeld hHeld2 hHeld3
                refine wpAnyG_done (by kernel_rfl) ?_ _
                have hfin := line_fin HPW.out HTW.out Hm.out HU.out HG1.out HB1.out Hgb.out HSW.out
                have HF := Lib.hid hfin
                clear hfin
                go_wp2
                go_ret
                exact ⟨by rw [HR.out]; rfl, (HSV.out.trans (Soft.of_below (by have := HSV.out.size; have := HBs.out; omega) (below_drew (Below.refl _ _)))).trans HF.out.2, fun _ => by rw [HR.out]; exact ⟨_, HF.out.1⟩⟩
              · rw [if_neg h0] at HR
                have hq2 : (rr.1 != 0) = true := bne_iff_ne.mpr h0
                have hq3 : (rr.1 == 0) = false := beq_eq_false_iff_ne.mpr h0
                have H0' := Lib.hid h0
                clear h0
                go_wp2
                go_ret
                exact ⟨by rw [HR.out]; rfl, HSV.out, fun h => by rw [HR.out] at h; exact absurd h H0'.out⟩
end Go.Proofs.YtfibkajflenekaaDoor.G
