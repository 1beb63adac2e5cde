/-
  ask.Hear: what it comes to, by walks over its text. Conditions: the package variables hold what they hold (GW); the text is shorter than 4294967281 bytes.
-/
import Derived.Test.YtfibkajflenekaaDoorNumbers
namespace Go.Proofs.YtfibkajflenekaaDoor.G
set_option linter.unusedVariables false
set_option linter.unusedSimpArgs false
open Go.RowKit Go.Proofs.YtfibkajflenekaaDoorW.PrintWords Go.Proofs.YtfibkajflenekaaDoorW.PrintLast Go.Proofs.YtfibkajflenekaaDoor.PAsk


/-! ### ask.Hear -/
def lOk : ByteArray := ⟨#[111, 107]⟩
def lError : ByteArray := ⟨#[101, 114, 114, 111, 114]⟩
def lStats : ByteArray := ⟨#[115, 116, 97, 116, 115]⟩
def hearRest (a0 : ByteArray) : Int × Int × Int × Int × ByteArray × Int :=
  match heard a0 lOk 1 with
  | some l => (1, rd l 0, 0, 0, ⟨#[]⟩, 0)
  | none => match heard a0 lError 2 with
    | some l => (4, rd l 0, rd l 1, 0, ⟨#[]⟩, 0)
    | none => match heard a0 lStats 3 with
      | some l => (5, rd l 0, rd l 1, rd l 2, ⟨#[]⟩, 0)
      | none => (0, 0, 0, 0, ⟨#[]⟩, 210)
def ask_Hear.f (a0 : ByteArray) : Option (Int × Int × Int × Int × ByteArray × Int) :=
  if a0.size < 4294967281 then (strings_CutPrefix.f a0 ⟨#[99, 111, 100, 101, 10]⟩).bind fun p =>
    if p.2 = true then some (2, 0, 0, 0, p.1, 0) else if a0.toList = [109, 105, 115, 115] then some (3, 0, 0, 0, ⟨#[]⟩, 0) else some (hearRest a0)
  else none

def HearPost (w : World) (r : Int × Int × Int × Int × ByteArray × Int) (e : Ending) (w' : World) : Prop :=
  e = .returned (.tuple #[.agg #[.int .i64 r.1, .int .i64 r.2.1, .int .i64 r.2.2.1, .int .i64 r.2.2.2.1, .string r.2.2.2.2.1], .int .i64 r.2.2.2.2.2]) ∧ Below w.heap.size w w'
def c5 (a b c d : Int) (s : ByteArray) : Array Value := #[.int .i64 a, .int .i64 b, .int .i64 c, .int .i64 d, .string s]
theorem blk_put5 {w : World} {g : Nat} {a b c d : Int} {s : ByteArray} (h : w.heap[g]? = some (.cells (c5 a b c d s) 28 (0, 0))) (a' b' c' d' : Int) (s' : ByteArray) :
    (((((w.setCell ⟨g, 0, none⟩ (.int .i64 a')).setCell ⟨g, 1, none⟩ (.int .i64 b')).setCell ⟨g, 2, none⟩ (.int .i64 c')).setCell ⟨g, 3, none⟩ (.int .i64 d')).setCell ⟨g, 4, none⟩ (.string s')).heap[g]? = some (.cells (c5 a' b' c' d' s') 28 (0, 0)) := by
  refine blk_put (cs := c5 a' b' c' d' s) ?_ 4 _ rfl
  refine blk_put (cs := c5 a' b' c' d s) ?_ 3 _ rfl
  refine blk_put (cs := c5 a' b' c d s) ?_ 2 _ rfl
  refine blk_put (cs := c5 a' b c d s) ?_ 1 _ rfl
  exact blk_put h 0 _ rfl
theorem hear_code (a0 t : ByteArray) (w : World) (hG : GW w) (h : strings_CutPrefix.f a0 ⟨#[99, 111, 100, 101, 10]⟩ = some (t, true)) : Calls Tryd.prog 8 #[.string a0] w (HearPost w (2, 0, 0, 0, t, 0)) := by
  have HC := Lib.hid (fun W hGW => strings_CutPrefix.calls a0 _ t true W hGW h)
  clear h
  have hGA := Aside0.mk hG
  clear hG
  have HB := Aside0.mk (Below.refl w.heap.size w)
  go_enter Tryd.func8, Tryd.ntmps8
  go_wp2_with (first | ((with_reducible refine gate_dst (N := 2) rfl ?_); refine box_event ?hg (N := 2) ?hd (cs := #[.int .i64 0, .int .i64 0, .int .i64 0, .int .i64 0, .string (⟨#[]⟩ : ByteArray)]) (t := 28) ?hr ?_; (case hd => rfl); (case hg => rfl); (case hr => first | (go_simp; done) | (go_simp; rfl)); intro gb hg w4 hbox hb; have BK := Aside0.mk hbox; have GE := Aside0.mk (show w.heap.size ≤ gb by rw [hg]; exact Nat.le_refl _); have HB2 := Aside0.mk (below_step HB.out hb); clear HB; have HB := HB2; clear HB2 hg hbox hb) | fail)
  refine (HC.out _ (GW_below hGA.out HB.out)).mono ?_
  rintro e w5 ⟨rfl, n, rfl⟩
  have hcz0 : w4.cell? ⟨gb, 0, none⟩ = some (.int .i64 0) := (blk_cell BK.out 0).trans rfl
  have hcz1 : w4.cell? ⟨gb, 1, none⟩ = some (.int .i64 0) := (blk_cell BK.out 1).trans rfl
  have hcz2 : w4.cell? ⟨gb, 2, none⟩ = some (.int .i64 0) := (blk_cell BK.out 2).trans rfl
  have hcz3 : w4.cell? ⟨gb, 3, none⟩ = some (.int .i64 0) := (blk_cell BK.out 3).trans rfl
  have hcz4 : w4.cell? ⟨gb, 4, none⟩ = some (.string (⟨#[]⟩ : ByteArray)) := (blk_cell BK.out 4).trans rfl
  have hfz0 := blk_frozen BK.out 0
  have hfz1 := blk_frozen BK.out 1
  have hfz2 := blk_frozen BK.out 2
  have hfz3 := blk_frozen BK.out 3
  have hfz4 := blk_frozen BK.out 4
  go_wp2
  refine bodyPost_ret (results_ct rfl _ _ gb 28 (c5 2 0 0 0 t) (0, 0) _ rfl (by (with_reducible repeat (first | refine blk_drewN ?_ _ | refine blk_drew ?_ | refine blk_alloc ?_ _)); exact blk_put5 (a := 0) (b := 0) (c := 0) (d := 0) (s := ⟨#[]⟩) BK.out 2 0 0 0 t) Tryd.underlying28 rfl (by kernel_rfl)) rfl ?_
  exact ⟨rfl, by repeat (first | (with_reducible first | exact HB.out | apply below_alloc | apply pw_below_drewN | apply below_drew1 | refine below_set ?_ GE.out) | exact HB.out)⟩
/-! #### the other ways -/
theorem numbers_at (gs : List Nat) (s wd : ByteArray) (n : Nat) (hgn : gs.length = n) (hn : n < 1000) (hn1 : 1 ≤ n) (cs : Array Value) (w0 W : World) (tb : Nat) (hG0 : GW w0) (hB0 : Below w0.heap.size w0 W) (hgs : ∀ g, g ∈ gs → w0.heap.size ≤ g) (hs : s.size < 4294967281)
    (hg : Holds W gs fun _ _ => True) (hnd : ∀ (i j g : Nat), gs[i]? = some g → gs[j]? = some g → i = j)
    (hcs : cs = (gs.map fun g => Value.pointer (some ⟨g, 0, none⟩)).toArray) (htb : W.heap.size = tb) :
    Calls Tryd.prog 25 #[.string s, .string wd, .slice (some ⟨tb, 0, none⟩) n n] (W.alloc (.cells cs 62)) fun e w' => e = .returned (.bool (heard s wd n).isSome) ∧ Keeps W w' (· ∈ gs) ∧ Holds w' gs (fun i x => ∀ l, heard s wd n = some l → l[i]? = some x) := by
  subst hcs
  subst htb
  have hb := below_alloc (Below.refl W.heap.size W) (.cells (gs.map fun g => Value.pointer (some ⟨g, 0, none⟩)).toArray 62)
  refine (numbers_any gs s wd n hgn hn hn1 W.heap.size w0 _ hG0 (below_then hB0 hB0.size hb) hgs hs (fun i g hi => ?_) (hg.below hb) hnd (fun h => ?_)).mono fun e w' ⟨h1, h2, h3⟩ => ⟨h1, (Keeps.of_below hb).trans h2, h3⟩
  · have := heap_alloc_new W (.cells (gs.map fun g => Value.pointer (some ⟨g, 0, none⟩)).toArray 62)
    rw [blk_cell this i]
    simp [hi]
  · obtain ⟨i, hi⟩ := List.mem_iff_getElem?.1 h
    obtain ⟨x, hx, _⟩ := hg i _ hi
    have := blk_lt hx
    omega
theorem Holds.one {w : World} {a : Nat} {x : Int} (h : w.heap[a]? = some (.cells #[.int .i64 x] 3 (0, 0))) : Holds w [a] fun _ _ => True := fun i g hi => by
  rcases i with _ | i <;> simp at hi
  subst hi; exact ⟨x, h, trivial⟩
theorem Holds.cons {w : World} {a : Nat} {x : Int} {l : List Nat} (h : w.heap[a]? = some (.cells #[.int .i64 x] 3 (0, 0))) (hl : Holds w l fun _ _ => True) : Holds w (a :: l) fun _ _ => True := fun i g hi => by
  rcases i with _ | i <;> simp at hi
  · subst hi; exact ⟨x, h, trivial⟩
  · exact hl i g hi
theorem Keeps.blk {w w1 : World} {S : Nat → Prop} (h : Keeps w w1 S) {g : Nat} {o : Obj} (hx : w.heap[g]? = some o) (hn : ¬ S g) : w1.heap[g]? = some o := (h.block g (blk_lt hx) hn).trans hx
def cell0 : Obj := .cells #[.int .i64 0] 3 (0, 0)
def three (w : World) : World := ((w.alloc (.cells #[.int .i64 0] 3)).alloc (.cells #[.int .i64 0] 3)).alloc (.cells #[.int .i64 0] 3)
theorem three_below (w : World) : Below w.heap.size w (three w) := below_alloc (below_alloc (below_alloc (Below.refl _ _) _) _) _
theorem three_a (w : World) : (three w).heap[w.heap.size]? = some (.cells #[.int .i64 0] 3 (0, 0)) := by
  have := heap_alloc_new w (.cells #[.int .i64 0] 3)
  exact blk_alloc (blk_alloc this _) _
theorem three_b (w : World) : (three w).heap[w.heap.size + 1]? = some (.cells #[.int .i64 0] 3 (0, 0)) := by
  have := heap_alloc_new (w.alloc (.cells #[.int .i64 0] 3)) (.cells #[.int .i64 0] 3)
  rw [show (w.alloc (.cells #[.int .i64 0] 3)).heap.size = w.heap.size + 1 by simp] at this
  exact blk_alloc this _
theorem three_c (w : World) : (three w).heap[w.heap.size + 1 + 1]? = some (.cells #[.int .i64 0] 3 (0, 0)) := by
  have := heap_alloc_new ((w.alloc (.cells #[.int .i64 0] 3)).alloc (.cells #[.int .i64 0] 3)) (.cells #[.int .i64 0] 3)
  rw [show ((w.alloc (.cells #[.int .i64 0] 3)).alloc (.cells #[.int .i64 0] 3)).heap.size = w.heap.size + 1 + 1 by simp] at this
  exact this
theorem three_size (w : World) : (three w).heap.size = w.heap.size + 1 + 1 + 1 := by simp [three]
set_option maxHeartbeats 4000000 in
theorem hear_miss (a0 t : ByteArray) (w : World) (hG : GW w) (hs : a0.size < 4294967281) (h : strings_CutPrefix.f a0 ⟨#[99, 111, 100, 101, 10]⟩ = some (t, false)) (hm : a0.toList = [109, 105, 115, 115]) : Calls Tryd.prog 8 #[.string a0] w (HearPost w (3, 0, 0, 0, ⟨#[]⟩, 0)) := by
  have HC := Lib.hid (fun W hGW => strings_CutPrefix.calls a0 _ t false W hGW h)
  clear h
  have hGA := Aside0.mk hG
  clear hG
  have HB := Aside0.mk (Below.refl w.heap.size w)
  have hmb : (a0.toList == [109, 105, 115, 115]) = true := by simpa using hm
  go_enter Tryd.func8, Tryd.ntmps8
  go_wp2_with (first | ((with_reducible refine gate_dst (N := 2) rfl ?_); refine box_event ?hg (N := 2) ?hd (cs := #[.int .i64 0, .int .i64 0, .int .i64 0, .int .i64 0, .string (⟨#[]⟩ : ByteArray)]) (t := 28) ?hr ?_; (case hd => rfl); (case hg => rfl); (case hr => first | (go_simp; done) | (go_simp; rfl)); intro r hg w4 hbox hb; have BKr := Aside0.mk hbox; have GEr := Aside0.mk (show w.heap.size ≤ r by rw [hg]; exact below_size (by repeat (first | (with_reducible first | exact HB.out | apply below_alloc | apply pw_below_drewN | apply below_drew1) | exact HB.out))); have HB2 := Aside0.mk (below_step (by repeat (first | (with_reducible first | exact HB.out | apply below_alloc | apply pw_below_drewN | apply below_drew1) | exact HB.out)) hb); clear HB; have HB := HB2; clear HB2 hg hbox hb) | fail)
  refine (HC.out _ (GW_below hGA.out HB.out)).mono ?_
  rintro e w5 ⟨rfl, n, rfl⟩
  have BKR := Aside0.mk (show ((((w4.drewN n).alloc (.cells #[.int .i64 0] 3)).alloc (.cells #[.int .i64 0] 3)).alloc (.cells #[.int .i64 0] 3)).heap[r]? = _ from blk_alloc (blk_alloc (blk_alloc (blk_drewN BKr.out n) _) _) _)
  have HBR := Aside0.mk (show Below w.heap.size w ((((w4.drewN n).alloc (.cells #[.int .i64 0] 3)).alloc (.cells #[.int .i64 0] 3)).alloc (.cells #[.int .i64 0] 3)) from below_alloc (below_alloc (below_alloc (pw_below_drewN HB.out n) _) _) _)
  have hcz0 : ((((w4.drewN n).alloc (.cells #[.int .i64 0] 3)).alloc (.cells #[.int .i64 0] 3)).alloc (.cells #[.int .i64 0] 3)).cell? ⟨r, 0, none⟩ = some (.int .i64 0) := (blk_cell BKR.out 0).trans rfl
  have hcz1 : ((((w4.drewN n).alloc (.cells #[.int .i64 0] 3)).alloc (.cells #[.int .i64 0] 3)).alloc (.cells #[.int .i64 0] 3)).cell? ⟨r, 1, none⟩ = some (.int .i64 0) := (blk_cell BKR.out 1).trans rfl
  have hcz2 : ((((w4.drewN n).alloc (.cells #[.int .i64 0] 3)).alloc (.cells #[.int .i64 0] 3)).alloc (.cells #[.int .i64 0] 3)).cell? ⟨r, 2, none⟩ = some (.int .i64 0) := (blk_cell BKR.out 2).trans rfl
  have hcz3 : ((((w4.drewN n).alloc (.cells #[.int .i64 0] 3)).alloc (.cells #[.int .i64 0] 3)).alloc (.cells #[.int .i64 0] 3)).cell? ⟨r, 3, none⟩ = some (.int .i64 0) := (blk_cell BKR.out 3).trans rfl
  have hcz4 : ((((w4.drewN n).alloc (.cells #[.int .i64 0] 3)).alloc (.cells #[.int .i64 0] 3)).alloc (.cells #[.int .i64 0] 3)).cell? ⟨r, 4, none⟩ = some (.string (⟨#[]⟩ : ByteArray)) := (blk_cell BKR.out 4).trans rfl
  have hfz0 := blk_frozen BKR.out 0
  have hfz1 := blk_frozen BKR.out 1
  have hfz2 := blk_frozen BKR.out 2
  have hfz3 := blk_frozen BKR.out 3
  have hfz4 := blk_frozen BKR.out 4
  go_wp2
  refine bodyPost_ret (results_ct rfl _ _ r 28 (c5 3 0 0 0 ⟨#[]⟩) (0, 0) _ rfl (by (with_reducible repeat (first | refine blk_drewN ?_ _ | refine blk_drew ?_)); exact blk_put5 (a := 0) (b := 0) (c := 0) (d := 0) (s := ⟨#[]⟩) BKR.out 3 0 0 0 ⟨#[]⟩) Tryd.underlying28 rfl (by kernel_rfl)) rfl ?_
  exact ⟨rfl, by repeat (first | (with_reducible first | exact HBR.out | apply pw_below_drewN | apply below_drew1 | refine below_set ?_ GEr.out) | exact HBR.out)⟩
set_option maxHeartbeats 4000000 in
theorem hear_ok (a0 t : ByteArray) (w : World) (hG : GW w) (hs : a0.size < 4294967281) (h : strings_CutPrefix.f a0 ⟨#[99, 111, 100, 101, 10]⟩ = some (t, false)) (hm : a0.toList ≠ [109, 105, 115, 115]) (l : List Int) (hh0 : heard a0 lOk 1 = some l) : Calls Tryd.prog 8 #[.string a0] w (HearPost w (1, rd l 0, 0, 0, ⟨#[]⟩, 0)) := by
  have HC := Lib.hid (fun W hGW => strings_CutPrefix.calls a0 _ t false W hGW h)
  clear h
  have hGA := Aside0.mk hG
  clear hG
  have HB := Aside0.mk (Below.refl w.heap.size w)
  have hmb : (a0.toList == [109, 105, 115, 115]) = false := by simpa using hm
  have hsH := Lib.hid hs
  clear hs
  have Hh0 := Lib.hid hh0
  clear hh0
  go_enter Tryd.func8, Tryd.ntmps8
  go_wp2_with (first | ((with_reducible refine gate_dst (N := 2) rfl ?_); refine box_event ?hg (N := 2) ?hd (cs := #[.int .i64 0, .int .i64 0, .int .i64 0, .int .i64 0, .string (⟨#[]⟩ : ByteArray)]) (t := 28) ?hr ?_; (case hd => rfl); (case hg => rfl); (case hr => first | (go_simp; done) | (go_simp; rfl)); intro r hg w4 hbox hb; have BKr := Aside0.mk hbox; have GEr := Aside0.mk (show w.heap.size ≤ r by rw [hg]; exact below_size (by repeat (first | (with_reducible first | exact HB.out | apply below_alloc | apply pw_below_drewN | apply below_drew1) | exact HB.out))); have HB2 := Aside0.mk (below_step (by repeat (first | (with_reducible first | exact HB.out | apply below_alloc | apply pw_below_drewN | apply below_drew1) | exact HB.out)) hb); clear HB; have HB := HB2; clear HB2 hg hbox hb) | fail)
  refine (HC.out _ (GW_below hGA.out HB.out)).mono ?_
  rintro e w5 ⟨rfl, n, rfl⟩
  have BKR := Aside0.mk (show ((((w4.drewN n).alloc (.cells #[.int .i64 0] 3)).alloc (.cells #[.int .i64 0] 3)).alloc (.cells #[.int .i64 0] 3)).heap[r]? = _ from blk_alloc (blk_alloc (blk_alloc (blk_drewN BKr.out n) _) _) _)
  have HBR := Aside0.mk (show Below w.heap.size w ((((w4.drewN n).alloc (.cells #[.int .i64 0] 3)).alloc (.cells #[.int .i64 0] 3)).alloc (.cells #[.int .i64 0] 3)) from below_alloc (below_alloc (below_alloc (pw_below_drewN HB.out n) _) _) _)
  have hr0 : r < w4.heap.size := blk_lt BKr.out
  have Hrn := Lib.hid hr0
  clear hr0
  have A0 := Aside0.mk (three_a (w4.drewN n))
  have B0 := Aside0.mk (three_b (w4.drewN n))
  have C0 := Aside0.mk (three_c (w4.drewN n))
  have GE4 := Aside0.mk (show w.heap.size ≤ w4.heap.size from HB.out.size)
  go_wp2_with fail
  refine (numbers_at [w4.heap.size] a0 ⟨#[111, 107]⟩ 1 rfl (by omega) (by omega) _ w _ _ hGA.out HBR.out (by intro g hg; have := GE4.out; simp at hg; omega) hsH.out (Holds.one A0.out) (by intro i j g hi hj; have hl := (List.getElem?_eq_some_iff.1 hi).1; have hl' := (List.getElem?_eq_some_iff.1 hj).1; (try simp only [List.length_cons, List.length_nil] at hl hl'); (rcases i with _ | _ | _ | i) <;> (rcases j with _ | _ | _ | j) <;> simp at hi hj <;> omega) ?hcs ?htb).mono ?_
  case hcs => rfl
  case htb => first | rfl | (simp; done)
  rintro e w10 ⟨rfl, hk, hh⟩
  have hin : ∀ k, k ∈ [w4.heap.size] → w.heap.size ≤ k := by intro g hg; have := GE4.out; simp at hg; omega
  have hrn : ¬ r ∈ [w4.heap.size] := by intro hg; have := Hrn.out; simp at hg; omega
  have BKR2 := Aside0.mk (hk.blk BKR.out hrn)
  have HBR2 := Aside0.mk (below_then HBR.out HBR.out.size (Below.refl _ _) |>.trans (hk.below hin HBR.out.size))
  obtain ⟨xA1, hA1, qA1⟩ := hh 0 _ rfl
  have A1 := Aside0.mk hA1
  have QA1 := Aside0.mk qA1
  clear hA1 qA1
  have B1 := Aside0.mk (hk.blk B0.out (by intro hg; simp at hg; try omega))
  have C1 := Aside0.mk (hk.blk C0.out (by intro hg; simp at hg; try omega))
  clear hk hh hin hrn BKR HBR
  have BKR := BKR2
  have HBR := HBR2
  clear BKR2 HBR2
  have hb0 : (heard a0 ⟨#[111, 107]⟩ 1).isSome = true := by rw [show heard a0 ⟨#[111, 107]⟩ 1 = _ from Hh0.out]; rfl
  have eA : xA1 = rd l 0 := by have := QA1.out l Hh0.out; simp [rd, this]
  subst eA
  have hcA : w10.cell? ⟨w4.heap.size, 0, none⟩ = some (.int .i64 (rd l 0)) := (blk_cell A1.out 0).trans rfl
  have hcz0 : w10.cell? ⟨r, 0, none⟩ = some (.int .i64 0) := (blk_cell BKR.out 0).trans rfl
  have hcz1 : w10.cell? ⟨r, 1, none⟩ = some (.int .i64 0) := (blk_cell BKR.out 1).trans rfl
  have hcz2 : w10.cell? ⟨r, 2, none⟩ = some (.int .i64 0) := (blk_cell BKR.out 2).trans rfl
  have hcz3 : w10.cell? ⟨r, 3, none⟩ = some (.int .i64 0) := (blk_cell BKR.out 3).trans rfl
  have hcz4 : w10.cell? ⟨r, 4, none⟩ = some (.string (⟨#[]⟩ : ByteArray)) := (blk_cell BKR.out 4).trans rfl
  have hfz0 := blk_frozen BKR.out 0
  have hfz1 := blk_frozen BKR.out 1
  have hfz2 := blk_frozen BKR.out 2
  have hfz3 := blk_frozen BKR.out 3
  have hfz4 := blk_frozen BKR.out 4
  go_wp2
  refine bodyPost_ret (results_ct rfl _ _ r 28 (c5 1 (rd l 0) 0 0 ⟨#[]⟩) (0, 0) _ rfl (by (with_reducible repeat (first | refine blk_drewN ?_ _ | refine blk_drew ?_)); exact blk_put5 (a := 0) (b := 0) (c := 0) (d := 0) (s := ⟨#[]⟩) BKR.out 1 (rd l 0) 0 0 ⟨#[]⟩) Tryd.underlying28 rfl (by kernel_rfl)) rfl ?_
  exact ⟨rfl, by repeat (first | (with_reducible first | exact HBR.out | apply pw_below_drewN | apply below_drew1 | refine below_set ?_ GEr.out) | exact HBR.out)⟩
set_option maxHeartbeats 4000000 in
theorem hear_error (a0 t : ByteArray) (w : World) (hG : GW w) (hs : a0.size < 4294967281) (h : strings_CutPrefix.f a0 ⟨#[99, 111, 100, 101, 10]⟩ = some (t, false)) (hm : a0.toList ≠ [109, 105, 115, 115]) (l : List Int) (hh0 : heard a0 lOk 1 = none) (hh1 : heard a0 lError 2 = some l) : Calls Tryd.prog 8 #[.string a0] w (HearPost w (4, rd l 0, rd l 1, 0, ⟨#[]⟩, 0)) := by
  have HC := Lib.hid (fun W hGW => strings_CutPrefix.calls a0 _ t false W hGW h)
  clear h
  have hGA := Aside0.mk hG
  clear hG
  have HB := Aside0.mk (Below.refl w.heap.size w)
  have hmb : (a0.toList == [109, 105, 115, 115]) = false := by simpa using hm
  have hsH := Lib.hid hs
  clear hs
  have Hh0 := Lib.hid hh0
  clear hh0
  have Hh1 := Lib.hid hh1
  clear hh1
  go_enter Tryd.func8, Tryd.ntmps8
  go_wp2_with (first | ((with_reducible refine gate_dst (N := 2) rfl ?_); refine box_event ?hg (N := 2) ?hd (cs := #[.int .i64 0, .int .i64 0, .int .i64 0, .int .i64 0, .string (⟨#[]⟩ : ByteArray)]) (t := 28) ?hr ?_; (case hd => rfl); (case hg => rfl); (case hr => first | (go_simp; done) | (go_simp; rfl)); intro r hg w4 hbox hb; have BKr := Aside0.mk hbox; have GEr := Aside0.mk (show w.heap.size ≤ r by rw [hg]; exact below_size (by repeat (first | (with_reducible first | exact HB.out | apply below_alloc | apply pw_below_drewN | apply below_drew1) | exact HB.out))); have HB2 := Aside0.mk (below_step (by repeat (first | (with_reducible first | exact HB.out | apply below_alloc | apply pw_below_drewN | apply below_drew1) | exact HB.out)) hb); clear HB; have HB := HB2; clear HB2 hg hbox hb) | fail)
  refine (HC.out _ (GW_below hGA.out HB.out)).mono ?_
  rintro e w5 ⟨rfl, n, rfl⟩
  have BKR := Aside0.mk (show ((((w4.drewN n).alloc (.cells #[.int .i64 0] 3)).alloc (.cells #[.int .i64 0] 3)).alloc (.cells #[.int .i64 0] 3)).heap[r]? = _ from blk_alloc (blk_alloc (blk_alloc (blk_drewN BKr.out n) _) _) _)
  have HBR := Aside0.mk (show Below w.heap.size w ((((w4.drewN n).alloc (.cells #[.int .i64 0] 3)).alloc (.cells #[.int .i64 0] 3)).alloc (.cells #[.int .i64 0] 3)) from below_alloc (below_alloc (below_alloc (pw_below_drewN HB.out n) _) _) _)
  have hr0 : r < w4.heap.size := blk_lt BKr.out
  have Hrn := Lib.hid hr0
  clear hr0
  have A0 := Aside0.mk (three_a (w4.drewN n))
  have B0 := Aside0.mk (three_b (w4.drewN n))
  have C0 := Aside0.mk (three_c (w4.drewN n))
  have GE4 := Aside0.mk (show w.heap.size ≤ w4.heap.size from HB.out.size)
  go_wp2_with fail
  refine (numbers_at [w4.heap.size] a0 ⟨#[111, 107]⟩ 1 rfl (by omega) (by omega) _ w _ _ hGA.out HBR.out (by intro g hg; have := GE4.out; simp at hg; omega) hsH.out (Holds.one A0.out) (by intro i j g hi hj; have hl := (List.getElem?_eq_some_iff.1 hi).1; have hl' := (List.getElem?_eq_some_iff.1 hj).1; (try simp only [List.length_cons, List.length_nil] at hl hl'); (rcases i with _ | _ | _ | i) <;> (rcases j with _ | _ | _ | j) <;> simp at hi hj <;> omega) ?hcs ?htb).mono ?_
  case hcs => rfl
  case htb => first | rfl | (simp; done)
  rintro e w10 ⟨rfl, hk, hh⟩
  have hin : ∀ k, k ∈ [w4.heap.size] → w.heap.size ≤ k := by intro g hg; have := GE4.out; simp at hg; omega
  have hrn : ¬ r ∈ [w4.heap.size] := by intro hg; have := Hrn.out; simp at hg; omega
  have BKR2 := Aside0.mk (hk.blk BKR.out hrn)
  have HBR2 := Aside0.mk (below_then HBR.out HBR.out.size (Below.refl _ _) |>.trans (hk.below hin HBR.out.size))
  obtain ⟨xA1, hA1, qA1⟩ := hh 0 _ rfl
  have A1 := Aside0.mk hA1
  have QA1 := Aside0.mk qA1
  clear hA1 qA1
  have B1 := Aside0.mk (hk.blk B0.out (by intro hg; simp at hg; try omega))
  have C1 := Aside0.mk (hk.blk C0.out (by intro hg; simp at hg; try omega))
  clear hk hh hin hrn BKR HBR
  have BKR := BKR2
  have HBR := HBR2
  clear BKR2 HBR2
  have hb0 : (heard a0 ⟨#[111, 107]⟩ 1).isSome = false := by rw [show heard a0 ⟨#[111, 107]⟩ 1 = _ from Hh0.out]; rfl
  go_wp2_with fail
  refine (numbers_at [w4.heap.size, w4.heap.size + 1] a0 ⟨#[101, 114, 114, 111, 114]⟩ 2 rfl (by omega) (by omega) _ w _ _ hGA.out HBR.out (by intro g hg; have := GE4.out; simp at hg; omega) hsH.out (Holds.cons A1.out (Holds.one B1.out)) (by intro i j g hi hj; have hl := (List.getElem?_eq_some_iff.1 hi).1; have hl' := (List.getElem?_eq_some_iff.1 hj).1; (try simp only [List.length_cons, List.length_nil] at hl hl'); (rcases i with _ | _ | _ | i) <;> (rcases j with _ | _ | _ | j) <;> simp at hi hj <;> omega) ?hcs ?htb).mono ?_
  case hcs => rfl
  case htb => first | rfl | (simp; done)
  rintro e w11 ⟨rfl, hk, hh⟩
  have hin : ∀ k, k ∈ [w4.heap.size, w4.heap.size + 1] → w.heap.size ≤ k := by intro g hg; have := GE4.out; simp at hg; omega
  have hrn : ¬ r ∈ [w4.heap.size, w4.heap.size + 1] := by intro hg; have := Hrn.out; simp at hg; omega
  have BKR2 := Aside0.mk (hk.blk BKR.out hrn)
  have HBR2 := Aside0.mk (below_then HBR.out HBR.out.size (Below.refl _ _) |>.trans (hk.below hin HBR.out.size))
  obtain ⟨xA2, hA2, qA2⟩ := hh 0 _ rfl
  have A2 := Aside0.mk hA2
  have QA2 := Aside0.mk qA2
  clear hA2 qA2
  obtain ⟨xB2, hB2, qB2⟩ := hh 1 _ rfl
  have B2 := Aside0.mk hB2
  have QB2 := Aside0.mk qB2
  clear hB2 qB2
  have C2 := Aside0.mk (hk.blk C1.out (by intro hg; simp at hg; try omega))
  clear hk hh hin hrn BKR HBR
  have BKR := BKR2
  have HBR := HBR2
  clear BKR2 HBR2
  have hb1 : (heard a0 ⟨#[101, 114, 114, 111, 114]⟩ 2).isSome = true := by rw [show heard a0 ⟨#[101, 114, 114, 111, 114]⟩ 2 = _ from Hh1.out]; rfl
  have eA : xA2 = rd l 0 := by have := QA2.out l Hh1.out; simp [rd, this]
  subst eA
  have hcA : w11.cell? ⟨w4.heap.size, 0, none⟩ = some (.int .i64 (rd l 0)) := (blk_cell A2.out 0).trans rfl
  have eB : xB2 = rd l 1 := by have := QB2.out l Hh1.out; simp [rd, this]
  subst eB
  have hcB : w11.cell? ⟨w4.heap.size + 1, 0, none⟩ = some (.int .i64 (rd l 1)) := (blk_cell B2.out 0).trans rfl
  have hcz0 : w11.cell? ⟨r, 0, none⟩ = some (.int .i64 0) := (blk_cell BKR.out 0).trans rfl
  have hcz1 : w11.cell? ⟨r, 1, none⟩ = some (.int .i64 0) := (blk_cell BKR.out 1).trans rfl
  have hcz2 : w11.cell? ⟨r, 2, none⟩ = some (.int .i64 0) := (blk_cell BKR.out 2).trans rfl
  have hcz3 : w11.cell? ⟨r, 3, none⟩ = some (.int .i64 0) := (blk_cell BKR.out 3).trans rfl
  have hcz4 : w11.cell? ⟨r, 4, none⟩ = some (.string (⟨#[]⟩ : ByteArray)) := (blk_cell BKR.out 4).trans rfl
  have hfz0 := blk_frozen BKR.out 0
  have hfz1 := blk_frozen BKR.out 1
  have hfz2 := blk_frozen BKR.out 2
  have hfz3 := blk_frozen BKR.out 3
  have hfz4 := blk_frozen BKR.out 4
  go_wp2
  refine bodyPost_ret (results_ct rfl _ _ r 28 (c5 4 (rd l 0) (rd l 1) 0 ⟨#[]⟩) (0, 0) _ rfl (by (with_reducible repeat (first | refine blk_drewN ?_ _ | refine blk_drew ?_)); exact blk_put5 (a := 0) (b := 0) (c := 0) (d := 0) (s := ⟨#[]⟩) BKR.out 4 (rd l 0) (rd l 1) 0 ⟨#[]⟩) Tryd.underlying28 rfl (by kernel_rfl)) rfl ?_
  exact ⟨rfl, by repeat (first | (with_reducible first | exact HBR.out | apply pw_below_drewN | apply below_drew1 | refine below_set ?_ GEr.out) | exact HBR.out)⟩
set_option maxHeartbeats 4000000 in
theorem hear_stats (a0 t : ByteArray) (w : World) (hG : GW w) (hs : a0.size < 4294967281) (h : strings_CutPrefix.f a0 ⟨#[99, 111, 100, 101, 10]⟩ = some (t, false)) (hm : a0.toList ≠ [109, 105, 115, 115]) (l : List Int) (hh0 : heard a0 lOk 1 = none) (hh1 : heard a0 lError 2 = none) (hh2 : heard a0 lStats 3 = some l) : Calls Tryd.prog 8 #[.string a0] w (HearPost w (5, rd l 0, rd l 1, rd l 2, ⟨#[]⟩, 0)) := by
  have HC := Lib.hid (fun W hGW => strings_CutPrefix.calls a0 _ t false W hGW h)
  clear h
  have hGA := Aside0.mk hG
  clear hG
  have HB := Aside0.mk (Below.refl w.heap.size w)
  have hmb : (a0.toList == [109, 105, 115, 115]) = false := by simpa using hm
  have hsH := Lib.hid hs
  clear hs
  have Hh0 := Lib.hid hh0
  clear hh0
  have Hh1 := Lib.hid hh1
  clear hh1
  have Hh2 := Lib.hid hh2
  clear hh2
  go_enter Tryd.func8, Tryd.ntmps8
  go_wp2_with (first | ((with_reducible refine gate_dst (N := 2) rfl ?_); refine box_event ?hg (N := 2) ?hd (cs := #[.int .i64 0, .int .i64 0, .int .i64 0, .int .i64 0, .string (⟨#[]⟩ : ByteArray)]) (t := 28) ?hr ?_; (case hd => rfl); (case hg => rfl); (case hr => first | (go_simp; done) | (go_simp; rfl)); intro r hg w4 hbox hb; have BKr := Aside0.mk hbox; have GEr := Aside0.mk (show w.heap.size ≤ r by rw [hg]; exact below_size (by repeat (first | (with_reducible first | exact HB.out | apply below_alloc | apply pw_below_drewN | apply below_drew1) | exact HB.out))); have HB2 := Aside0.mk (below_step (by repeat (first | (with_reducible first | exact HB.out | apply below_alloc | apply pw_below_drewN | apply below_drew1) | exact HB.out)) hb); clear HB; have HB := HB2; clear HB2 hg hbox hb) | fail)
  refine (HC.out _ (GW_below hGA.out HB.out)).mono ?_
  rintro e w5 ⟨rfl, n, rfl⟩
  have BKR := Aside0.mk (show ((((w4.drewN n).alloc (.cells #[.int .i64 0] 3)).alloc (.cells #[.int .i64 0] 3)).alloc (.cells #[.int .i64 0] 3)).heap[r]? = _ from blk_alloc (blk_alloc (blk_alloc (blk_drewN BKr.out n) _) _) _)
  have HBR := Aside0.mk (show Below w.heap.size w ((((w4.drewN n).alloc (.cells #[.int .i64 0] 3)).alloc (.cells #[.int .i64 0] 3)).alloc (.cells #[.int .i64 0] 3)) from below_alloc (below_alloc (below_alloc (pw_below_drewN HB.out n) _) _) _)
  have hr0 : r < w4.heap.size := blk_lt BKr.out
  have Hrn := Lib.hid hr0
  clear hr0
  have A0 := Aside0.mk (three_a (w4.drewN n))
  have B0 := Aside0.mk (three_b (w4.drewN n))
  have C0 := Aside0.mk (three_c (w4.drewN n))
  have GE4 := Aside0.mk (show w.heap.size ≤ w4.heap.size from HB.out.size)
  go_wp2_with fail
  refine (numbers_at [w4.heap.size] a0 ⟨#[111, 107]⟩ 1 rfl (by omega) (by omega) _ w _ _ hGA.out HBR.out (by intro g hg; have := GE4.out; simp at hg; omega) hsH.out (Holds.one A0.out) (by intro i j g hi hj; have hl := (List.getElem?_eq_some_iff.1 hi).1; have hl' := (List.getElem?_eq_some_iff.1 hj).1; (try simp only [List.length_cons, List.length_nil] at hl hl'); (rcases i with _ | _ | _ | i) <;> (rcases j with _ | _ | _ | j) <;> simp at hi hj <;> omega) ?hcs ?htb).mono ?_
  case hcs => rfl
  case htb => first | rfl | (simp; done)
  rintro e w10 ⟨rfl, hk, hh⟩
  have hin : ∀ k, k ∈ [w4.heap.size] → w.heap.size ≤ k := by intro g hg; have := GE4.out; simp at hg; omega
  have hrn : ¬ r ∈ [w4.heap.size] := by intro hg; have := Hrn.out; simp at hg; omega
  have BKR2 := Aside0.mk (hk.blk BKR.out hrn)
  have HBR2 := Aside0.mk (below_then HBR.out HBR.out.size (Below.refl _ _) |>.trans (hk.below hin HBR.out.size))
  obtain ⟨xA1, hA1, qA1⟩ := hh 0 _ rfl
  have A1 := Aside0.mk hA1
  have QA1 := Aside0.mk qA1
  clear hA1 qA1
  have B1 := Aside0.mk (hk.blk B0.out (by intro hg; simp at hg; try omega))
  have C1 := Aside0.mk (hk.blk C0.out (by intro hg; simp at hg; try omega))
  clear hk hh hin hrn BKR HBR
  have BKR := BKR2
  have HBR := HBR2
  clear BKR2 HBR2
  have hb0 : (heard a0 ⟨#[111, 107]⟩ 1).isSome = false := by rw [show heard a0 ⟨#[111, 107]⟩ 1 = _ from Hh0.out]; rfl
  go_wp2_with fail
  refine (numbers_at [w4.heap.size, w4.heap.size + 1] a0 ⟨#[101, 114, 114, 111, 114]⟩ 2 rfl (by omega) (by omega) _ w _ _ hGA.out HBR.out (by intro g hg; have := GE4.out; simp at hg; omega) hsH.out (Holds.cons A1.out (Holds.one B1.out)) (by intro i j g hi hj; have hl := (List.getElem?_eq_some_iff.1 hi).1; have hl' := (List.getElem?_eq_some_iff.1 hj).1; (try simp only [List.length_cons, List.length_nil] at hl hl'); (rcases i with _ | _ | _ | i) <;> (rcases j with _ | _ | _ | j) <;> simp at hi hj <;> omega) ?hcs ?htb).mono ?_
  case hcs => rfl
  case htb => first | rfl | (simp; done)
  rintro e w11 ⟨rfl, hk, hh⟩
  have hin : ∀ k, k ∈ [w4.heap.size, w4.heap.size + 1] → w.heap.size ≤ k := by intro g hg; have := GE4.out; simp at hg; omega
  have hrn : ¬ r ∈ [w4.heap.size, w4.heap.size + 1] := by intro hg; have := Hrn.out; simp at hg; omega
  have BKR2 := Aside0.mk (hk.blk BKR.out hrn)
  have HBR2 := Aside0.mk (below_then HBR.out HBR.out.size (Below.refl _ _) |>.trans (hk.below hin HBR.out.size))
  obtain ⟨xA2, hA2, qA2⟩ := hh 0 _ rfl
  have A2 := Aside0.mk hA2
  have QA2 := Aside0.mk qA2
  clear hA2 qA2
  obtain ⟨xB2, hB2, qB2⟩ := hh 1 _ rfl
  have B2 := Aside0.mk hB2
  have QB2 := Aside0.mk qB2
  clear hB2 qB2
  have C2 := Aside0.mk (hk.blk C1.out (by intro hg; simp at hg; try omega))
  clear hk hh hin hrn BKR HBR
  have BKR := BKR2
  have HBR := HBR2
  clear BKR2 HBR2
  have hb1 : (heard a0 ⟨#[101, 114, 114, 111, 114]⟩ 2).isSome = false := by rw [show heard a0 ⟨#[101, 114, 114, 111, 114]⟩ 2 = _ from Hh1.out]; rfl
  go_wp2_with fail
  refine (numbers_at [w4.heap.size, w4.heap.size + 1, w4.heap.size + 1 + 1] a0 ⟨#[115, 116, 97, 116, 115]⟩ 3 rfl (by omega) (by omega) _ w _ _ hGA.out HBR.out (by intro g hg; have := GE4.out; simp at hg; omega) hsH.out (Holds.cons A2.out (Holds.cons B2.out (Holds.one C2.out))) (by intro i j g hi hj; have hl := (List.getElem?_eq_some_iff.1 hi).1; have hl' := (List.getElem?_eq_some_iff.1 hj).1; (try simp only [List.length_cons, List.length_nil] at hl hl'); (rcases i with _ | _ | _ | i) <;> (rcases j with _ | _ | _ | j) <;> simp at hi hj <;> omega) ?hcs ?htb).mono ?_
  case hcs => rfl
  case htb => first | rfl | (simp; done)
  rintro e w12 ⟨rfl, hk, hh⟩
  have hin : ∀ k, k ∈ [w4.heap.size, w4.heap.size + 1, w4.heap.size + 1 + 1] → w.heap.size ≤ k := by intro g hg; have := GE4.out; simp at hg; omega
  have hrn : ¬ r ∈ [w4.heap.size, w4.heap.size + 1, w4.heap.size + 1 + 1] := by intro hg; have := Hrn.out; simp at hg; omega
  have BKR2 := Aside0.mk (hk.blk BKR.out hrn)
  have HBR2 := Aside0.mk (below_then HBR.out HBR.out.size (Below.refl _ _) |>.trans (hk.below hin HBR.out.size))
  obtain ⟨xA3, hA3, qA3⟩ := hh 0 _ rfl
  have A3 := Aside0.mk hA3
  have QA3 := Aside0.mk qA3
  clear hA3 qA3
  obtain ⟨xB3, hB3, qB3⟩ := hh 1 _ rfl
  have B3 := Aside0.mk hB3
  have QB3 := Aside0.mk qB3
  clear hB3 qB3
  obtain ⟨xC3, hC3, qC3⟩ := hh 2 _ rfl
  have C3 := Aside0.mk hC3
  have QC3 := Aside0.mk qC3
  clear hC3 qC3
  clear hk hh hin hrn BKR HBR
  have BKR := BKR2
  have HBR := HBR2
  clear BKR2 HBR2
  have hb2 : (heard a0 ⟨#[115, 116, 97, 116, 115]⟩ 3).isSome = true := by rw [show heard a0 ⟨#[115, 116, 97, 116, 115]⟩ 3 = _ from Hh2.out]; rfl
  have eA : xA3 = rd l 0 := by have := QA3.out l Hh2.out; simp [rd, this]
  subst eA
  have hcA : w12.cell? ⟨w4.heap.size, 0, none⟩ = some (.int .i64 (rd l 0)) := (blk_cell A3.out 0).trans rfl
  have eB : xB3 = rd l 1 := by have := QB3.out l Hh2.out; simp [rd, this]
  subst eB
  have hcB : w12.cell? ⟨w4.heap.size + 1, 0, none⟩ = some (.int .i64 (rd l 1)) := (blk_cell B3.out 0).trans rfl
  have eC : xC3 = rd l 2 := by have := QC3.out l Hh2.out; simp [rd, this]
  subst eC
  have hcC : w12.cell? ⟨w4.heap.size + 1 + 1, 0, none⟩ = some (.int .i64 (rd l 2)) := (blk_cell C3.out 0).trans rfl
  have hcz0 : w12.cell? ⟨r, 0, none⟩ = some (.int .i64 0) := (blk_cell BKR.out 0).trans rfl
  have hcz1 : w12.cell? ⟨r, 1, none⟩ = some (.int .i64 0) := (blk_cell BKR.out 1).trans rfl
  have hcz2 : w12.cell? ⟨r, 2, none⟩ = some (.int .i64 0) := (blk_cell BKR.out 2).trans rfl
  have hcz3 : w12.cell? ⟨r, 3, none⟩ = some (.int .i64 0) := (blk_cell BKR.out 3).trans rfl
  have hcz4 : w12.cell? ⟨r, 4, none⟩ = some (.string (⟨#[]⟩ : ByteArray)) := (blk_cell BKR.out 4).trans rfl
  have hfz0 := blk_frozen BKR.out 0
  have hfz1 := blk_frozen BKR.out 1
  have hfz2 := blk_frozen BKR.out 2
  have hfz3 := blk_frozen BKR.out 3
  have hfz4 := blk_frozen BKR.out 4
  go_wp2
  refine bodyPost_ret (results_ct rfl _ _ r 28 (c5 5 (rd l 0) (rd l 1) (rd l 2) ⟨#[]⟩) (0, 0) _ rfl (by (with_reducible repeat (first | refine blk_drewN ?_ _ | refine blk_drew ?_)); exact blk_put5 (a := 0) (b := 0) (c := 0) (d := 0) (s := ⟨#[]⟩) BKR.out 5 (rd l 0) (rd l 1) (rd l 2) ⟨#[]⟩) Tryd.underlying28 rfl (by kernel_rfl)) rfl ?_
  exact ⟨rfl, by repeat (first | (with_reducible first | exact HBR.out | apply pw_below_drewN | apply below_drew1 | refine below_set ?_ GEr.out) | exact HBR.out)⟩
set_option maxHeartbeats 4000000 in
theorem hear_none (a0 t : ByteArray) (w : World) (hG : GW w) (hs : a0.size < 4294967281) (h : strings_CutPrefix.f a0 ⟨#[99, 111, 100, 101, 10]⟩ = some (t, false)) (hm : a0.toList ≠ [109, 105, 115, 115]) (hh0 : heard a0 lOk 1 = none) (hh1 : heard a0 lError 2 = none) (hh2 : heard a0 lStats 3 = none) : Calls Tryd.prog 8 #[.string a0] w (HearPost w (0, 0, 0, 0, ⟨#[]⟩, 210)) := by
  have HC := Lib.hid (fun W hGW => strings_CutPrefix.calls a0 _ t false W hGW h)
  clear h
  have hGA := Aside0.mk hG
  clear hG
  have HB := Aside0.mk (Below.refl w.heap.size w)
  have hmb : (a0.toList == [109, 105, 115, 115]) = false := by simpa using hm
  have hsH := Lib.hid hs
  clear hs
  have Hh0 := Lib.hid hh0
  clear hh0
  have Hh1 := Lib.hid hh1
  clear hh1
  have Hh2 := Lib.hid hh2
  clear hh2
  go_enter Tryd.func8, Tryd.ntmps8
  go_wp2_with (first | ((with_reducible refine gate_dst (N := 2) rfl ?_); refine box_event ?hg (N := 2) ?hd (cs := #[.int .i64 0, .int .i64 0, .int .i64 0, .int .i64 0, .string (⟨#[]⟩ : ByteArray)]) (t := 28) ?hr ?_; (case hd => rfl); (case hg => rfl); (case hr => first | (go_simp; done) | (go_simp; rfl)); intro r hg w4 hbox hb; have BKr := Aside0.mk hbox; have GEr := Aside0.mk (show w.heap.size ≤ r by rw [hg]; exact below_size (by repeat (first | (with_reducible first | exact HB.out | apply below_alloc | apply pw_below_drewN | apply below_drew1) | exact HB.out))); have HB2 := Aside0.mk (below_step (by repeat (first | (with_reducible first | exact HB.out | apply below_alloc | apply pw_below_drewN | apply below_drew1) | exact HB.out)) hb); clear HB; have HB := HB2; clear HB2 hg hbox hb) | fail)
  refine (HC.out _ (GW_below hGA.out HB.out)).mono ?_
  rintro e w5 ⟨rfl, n, rfl⟩
  have BKR := Aside0.mk (show ((((w4.drewN n).alloc (.cells #[.int .i64 0] 3)).alloc (.cells #[.int .i64 0] 3)).alloc (.cells #[.int .i64 0] 3)).heap[r]? = _ from blk_alloc (blk_alloc (blk_alloc (blk_drewN BKr.out n) _) _) _)
  have HBR := Aside0.mk (show Below w.heap.size w ((((w4.drewN n).alloc (.cells #[.int .i64 0] 3)).alloc (.cells #[.int .i64 0] 3)).alloc (.cells #[.int .i64 0] 3)) from below_alloc (below_alloc (below_alloc (pw_below_drewN HB.out n) _) _) _)
  have hr0 : r < w4.heap.size := blk_lt BKr.out
  have Hrn := Lib.hid hr0
  clear hr0
  have A0 := Aside0.mk (three_a (w4.drewN n))
  have B0 := Aside0.mk (three_b (w4.drewN n))
  have C0 := Aside0.mk (three_c (w4.drewN n))
  have GE4 := Aside0.mk (show w.heap.size ≤ w4.heap.size from HB.out.size)
  go_wp2_with fail
  refine (numbers_at [w4.heap.size] a0 ⟨#[111, 107]⟩ 1 rfl (by omega) (by omega) _ w _ _ hGA.out HBR.out (by intro g hg; have := GE4.out; simp at hg; omega) hsH.out (Holds.one A0.out) (by intro i j g hi hj; have hl := (List.getElem?_eq_some_iff.1 hi).1; have hl' := (List.getElem?_eq_some_iff.1 hj).1; (try simp only [List.length_cons, List.length_nil] at hl hl'); (rcases i with _ | _ | _ | i) <;> (rcases j with _ | _ | _ | j) <;> simp at hi hj <;> omega) ?hcs ?htb).mono ?_
  case hcs => rfl
  case htb => first | rfl | (simp; done)
  rintro e w10 ⟨rfl, hk, hh⟩
  have hin : ∀ k, k ∈ [w4.heap.size] → w.heap.size ≤ k := by intro g hg; have := GE4.out; simp at hg; omega
  have hrn : ¬ r ∈ [w4.heap.size] := by intro hg; have := Hrn.out; simp at hg; omega
  have BKR2 := Aside0.mk (hk.blk BKR.out hrn)
  have HBR2 := Aside0.mk (below_then HBR.out HBR.out.size (Below.refl _ _) |>.trans (hk.below hin HBR.out.size))
  obtain ⟨xA1, hA1, qA1⟩ := hh 0 _ rfl
  have A1 := Aside0.mk hA1
  have QA1 := Aside0.mk qA1
  clear hA1 qA1
  have B1 := Aside0.mk (hk.blk B0.out (by intro hg; simp at hg; try omega))
  have C1 := Aside0.mk (hk.blk C0.out (by intro hg; simp at hg; try omega))
  clear hk hh hin hrn BKR HBR
  have BKR := BKR2
  have HBR := HBR2
  clear BKR2 HBR2
  have hb0 : (heard a0 ⟨#[111, 107]⟩ 1).isSome = false := by rw [show heard a0 ⟨#[111, 107]⟩ 1 = _ from Hh0.out]; rfl
  go_wp2_with fail
  refine (numbers_at [w4.heap.size, w4.heap.size + 1] a0 ⟨#[101, 114, 114, 111, 114]⟩ 2 rfl (by omega) (by omega) _ w _ _ hGA.out HBR.out (by intro g hg; have := GE4.out; simp at hg; omega) hsH.out (Holds.cons A1.out (Holds.one B1.out)) (by intro i j g hi hj; have hl := (List.getElem?_eq_some_iff.1 hi).1; have hl' := (List.getElem?_eq_some_iff.1 hj).1; (try simp only [List.length_cons, List.length_nil] at hl hl'); (rcases i with _ | _ | _ | i) <;> (rcases j with _ | _ | _ | j) <;> simp at hi hj <;> omega) ?hcs ?htb).mono ?_
  case hcs => rfl
  case htb => first | rfl | (simp; done)
  rintro e w11 ⟨rfl, hk, hh⟩
  have hin : ∀ k, k ∈ [w4.heap.size, w4.heap.size + 1] → w.heap.size ≤ k := by intro g hg; have := GE4.out; simp at hg; omega
  have hrn : ¬ r ∈ [w4.heap.size, w4.heap.size + 1] := by intro hg; have := Hrn.out; simp at hg; omega
  have BKR2 := Aside0.mk (hk.blk BKR.out hrn)
  have HBR2 := Aside0.mk (below_then HBR.out HBR.out.size (Below.refl _ _) |>.trans (hk.below hin HBR.out.size))
  obtain ⟨xA2, hA2, qA2⟩ := hh 0 _ rfl
  have A2 := Aside0.mk hA2
  have QA2 := Aside0.mk qA2
  clear hA2 qA2
  obtain ⟨xB2, hB2, qB2⟩ := hh 1 _ rfl
  have B2 := Aside0.mk hB2
  have QB2 := Aside0.mk qB2
  clear hB2 qB2
  have C2 := Aside0.mk (hk.blk C1.out (by intro hg; simp at hg; try omega))
  clear hk hh hin hrn BKR HBR
  have BKR := BKR2
  have HBR := HBR2
  clear BKR2 HBR2
  have hb1 : (heard a0 ⟨#[101, 114, 114, 111, 114]⟩ 2).isSome = false := by rw [show heard a0 ⟨#[101, 114, 114, 111, 114]⟩ 2 = _ from Hh1.out]; rfl
  go_wp2_with fail
  refine (numbers_at [w4.heap.size, w4.heap.size + 1, w4.heap.size + 1 + 1] a0 ⟨#[115, 116, 97, 116, 115]⟩ 3 rfl (by omega) (by omega) _ w _ _ hGA.out HBR.out (by intro g hg; have := GE4.out; simp at hg; omega) hsH.out (Holds.cons A2.out (Holds.cons B2.out (Holds.one C2.out))) (by intro i j g hi hj; have hl := (List.getElem?_eq_some_iff.1 hi).1; have hl' := (List.getElem?_eq_some_iff.1 hj).1; (try simp only [List.length_cons, List.length_nil] at hl hl'); (rcases i with _ | _ | _ | i) <;> (rcases j with _ | _ | _ | j) <;> simp at hi hj <;> omega) ?hcs ?htb).mono ?_
  case hcs => rfl
  case htb => first | rfl | (simp; done)
  rintro e w12 ⟨rfl, hk, hh⟩
  have hin : ∀ k, k ∈ [w4.heap.size, w4.heap.size + 1, w4.heap.size + 1 + 1] → w.heap.size ≤ k := by intro g hg; have := GE4.out; simp at hg; omega
  have hrn : ¬ r ∈ [w4.heap.size, w4.heap.size + 1, w4.heap.size + 1 + 1] := by intro hg; have := Hrn.out; simp at hg; omega
  have BKR2 := Aside0.mk (hk.blk BKR.out hrn)
  have HBR2 := Aside0.mk (below_then HBR.out HBR.out.size (Below.refl _ _) |>.trans (hk.below hin HBR.out.size))
  obtain ⟨xA3, hA3, qA3⟩ := hh 0 _ rfl
  have A3 := Aside0.mk hA3
  have QA3 := Aside0.mk qA3
  clear hA3 qA3
  obtain ⟨xB3, hB3, qB3⟩ := hh 1 _ rfl
  have B3 := Aside0.mk hB3
  have QB3 := Aside0.mk qB3
  clear hB3 qB3
  obtain ⟨xC3, hC3, qC3⟩ := hh 2 _ rfl
  have C3 := Aside0.mk hC3
  have QC3 := Aside0.mk qC3
  clear hC3 qC3
  clear hk hh hin hrn BKR HBR
  have BKR := BKR2
  have HBR := HBR2
  clear BKR2 HBR2
  have hb2 : (heard a0 ⟨#[115, 116, 97, 116, 115]⟩ 3).isSome = false := by rw [show heard a0 ⟨#[115, 116, 97, 116, 115]⟩ 3 = _ from Hh2.out]; rfl
  have hcz0 : w12.cell? ⟨r, 0, none⟩ = some (.int .i64 0) := (blk_cell BKR.out 0).trans rfl
  have hcz1 : w12.cell? ⟨r, 1, none⟩ = some (.int .i64 0) := (blk_cell BKR.out 1).trans rfl
  have hcz2 : w12.cell? ⟨r, 2, none⟩ = some (.int .i64 0) := (blk_cell BKR.out 2).trans rfl
  have hcz3 : w12.cell? ⟨r, 3, none⟩ = some (.int .i64 0) := (blk_cell BKR.out 3).trans rfl
  have hcz4 : w12.cell? ⟨r, 4, none⟩ = some (.string (⟨#[]⟩ : ByteArray)) := (blk_cell BKR.out 4).trans rfl
  have hfz0 := blk_frozen BKR.out 0
  have hfz1 := blk_frozen BKR.out 1
  have hfz2 := blk_frozen BKR.out 2
  have hfz3 := blk_frozen BKR.out 3
  have hfz4 := blk_frozen BKR.out 4
  go_wp2
  refine bodyPost_ret (results_ct rfl _ _ r 28 (c5 0 0 0 0 ⟨#[]⟩) (0, 0) _ rfl (by (with_reducible repeat (first | refine blk_drewN ?_ _ | refine blk_drew ?_)); exact blk_put5 (a := 0) (b := 0) (c := 0) (d := 0) (s := ⟨#[]⟩) BKR.out 0 0 0 0 ⟨#[]⟩) Tryd.underlying28 rfl (by kernel_rfl)) rfl ?_
  exact ⟨rfl, by repeat (first | (with_reducible first | exact HBR.out | apply pw_below_drewN | apply below_drew1 | refine below_set ?_ GEr.out) | exact HBR.out)⟩
theorem ask_Hear.calls (a0 : ByteArray) (r1 r2 r3 r4 : Int) (r5 : ByteArray) (r6 : Int) (w : World) (hG : GW w) (h : ask_Hear.f a0 = some (r1, r2, r3, r4, r5, r6)) :
    Calls Tryd.prog 8 #[.string a0] w fun e w' => e = .returned (.tuple #[.agg #[.int .i64 r1, .int .i64 r2, .int .i64 r3, .int .i64 r4, .string r5], .int .i64 r6]) ∧ Below w.heap.size w w' := by
  have key : ∀ q, ask_Hear.f a0 = some q → Calls Tryd.prog 8 #[.string a0] w (HearPost w q) := by
    intro q hq
    unfold ask_Hear.f at hq
    split at hq
    · rename_i hs
      obtain ⟨⟨t, b⟩, hp, hq⟩ := Option.bind_eq_some_iff.1 hq
      simp only at hq
      cases b with
      | true =>
        rw [if_pos rfl] at hq
        obtain rfl := Option.some.inj hq
        exact hear_code a0 t w hG hp
      | false =>
        rw [if_neg (by decide)] at hq
        split at hq
        · rename_i hm
          obtain rfl := Option.some.inj hq
          exact hear_miss a0 t w hG hs hp hm
        · rename_i hm
          obtain rfl := Option.some.inj hq
          unfold hearRest
          cases h0 : heard a0 lOk 1 with
          | some l => exact hear_ok a0 t w hG hs hp hm l h0
          | none =>
            cases h1 : heard a0 lError 2 with
            | some l => exact hear_error a0 t w hG hs hp hm l h0 h1
            | none =>
              cases h2 : heard a0 lStats 3 with
              | some l => exact hear_stats a0 t w hG hs hp hm l h0 h1 h2
              | none => exact hear_none a0 t w hG hs hp hm h0 h1 h2
    · cases hq
  exact key _ h
end Go.Proofs.YtfibkajflenekaaDoor.G
