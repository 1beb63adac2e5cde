-- PRINTED by print.py (a twelfth state) out of the translation. Not trusted: Lean checks it.
import Derived.Test.YtfibkajflenekaaDoorPTxx0
import Derived.Test.YtfibkajflenekaaDoorPTxx2
import Derived.Test.YtfibkajflenekaaDoorPTxx3
namespace Go.Proofs.YtfibkajflenekaaDoor.PTx
open Go.Proofs.YtfibkajflenekaaDoor.G
open Go.RowKit Go.Proofs.YtfibkajflenekaaDoorW.PrintWords Go.Proofs.YtfibkajflenekaaDoorW.PrintLast
set_option linter.unusedVariables false
set_option linter.unusedSimpArgs false

/-! ### cubbyref08_ins: function 54 -/
mutual
def cubbyref08_ins.l0 : Nat → List ByteArray → Bool → Int → Int → Option (Int × Int × Int × Int × ByteArray × List Int × Int)
 | 0, _, _, _, _ => none
 | k + 1, x0, x1, x6, x7 => if x7 ≤ 22 then ((cubbyref08_word.f k x7 x1).bind fun t167 => (if 0 < (x0.length : Int) then (if t167.toList = (rdOf ByteArray.empty x0 0).toList then (if (rdOf ByteArray.empty x0 0).toList = ([] : List UInt8) then (cubbyref08_ins.l0 k x0 x1 x6 (wrap64 (x7 + 1))) else (cubbyref08_ins.l0 k x0 x1 x7 (wrap64 (x7 + 1)))) else (cubbyref08_ins.l0 k x0 x1 x6 (wrap64 (x7 + 1)))) else (none))) else (if x6 < 0 then (some (0, 0, 0, 0, (⟨#[]⟩ : ByteArray), ([] : List Int), 80)) else ((cubbyref08_numbers.f k x6 0 0 0 (⟨#[]⟩ : ByteArray) ([] : List Int) x1).bind fun t171 => (if x6 = 11 then (if x1 = true then (cubbyref08_ins.j1 k x0 x1 x6 (wrap64 ((t171.length : Int) + 1)) 1 x6 0 0 0 (⟨#[]⟩ : ByteArray)) else (cubbyref08_ins.j1 k x0 x1 x6 (mx 2 (wrap64 ((x0.length : Int) - 1))) 1 x6 0 0 0 (⟨#[]⟩ : ByteArray))) else (cubbyref08_ins.j1 k x0 x1 x6 (t171.length : Int) (-1) x6 0 0 0 (⟨#[]⟩ : ByteArray)))))
def cubbyref08_ins.j1 : Nat → List ByteArray → Bool → Int → Int → Int → Int → Int → Int → Int → ByteArray → Option (Int × Int × Int × Int × ByteArray × List Int × Int)
 | 0, _, _, _, _, _, _, _, _, _, _ => none
 | k + 1, x0, x1, x6, x9, x10, x171000, x171001, x171002, x171003, x171004 => (cubbyref08_read.f k x0 x9 x10).bind fun bt174 => (if bt174.2.2 = 0 then (if x6 = 3 then (cubbyref08_ins.j2 k x1 bt174.1 x6 (x6 == 3) x171000 x171001 x171002 x171003 bt174.2.1) else (if x6 = 4 then (cubbyref08_ins.j2 k x1 bt174.1 x6 (x6 == 4) x171000 x171001 x171002 x171003 bt174.2.1) else (if x6 = 5 then (cubbyref08_ins.j2 k x1 bt174.1 x6 (x6 == 5) x171000 x171001 x171002 x171003 bt174.2.1) else (if x6 = 6 then (cubbyref08_ins.j2 k x1 bt174.1 x6 (x6 == 6) x171000 x171001 x171002 x171003 bt174.2.1) else (cubbyref08_ins.j2 k x1 bt174.1 x6 (x6 == 7) x171000 x171001 x171002 x171003 bt174.2.1))))) else (some (0, 0, 0, 0, (⟨#[]⟩ : ByteArray), ([] : List Int), bt174.2.2)))
def cubbyref08_ins.j2 : Nat → Bool → List Int → Int → Bool → Int → Int → Int → Int → ByteArray → Option (Int × Int × Int × Int × ByteArray × List Int × Int)
 | 0, _, _, _, _, _, _, _, _, _ => none
 | k + 1, x1, x11, x65, x74, x171000, x171001, x171002, x171003, x171004 => if x74 = true then (if 0 < (x11.length : Int) then (if 1 < (x11.length : Int) then (if 2 < (x11.length : Int) then (some (x171000, rd x11 0, rd x11 1, rd x11 2, x171004, ([] : List Int), 0)) else (none)) else (none)) else (none)) else (if x65 = 9 then (if 0 < (x11.length : Int) then (if 1 < (x11.length : Int) then (some (x171000, x171001, rd x11 0, rd x11 1, x171004, ([] : List Int), 0)) else (none)) else (none)) else (if x65 = 10 then (cubbyref08_ins.j3 k x1 x11 x65 (x65 == 10) x171000 x171001 x171002 x171003 x171004) else (if x65 = 12 then (cubbyref08_ins.j3 k x1 x11 x65 (x65 == 12) x171000 x171001 x171002 x171003 x171004) else (cubbyref08_ins.j3 k x1 x11 x65 (x65 == 14) x171000 x171001 x171002 x171003 x171004))))
def cubbyref08_ins.j3 : Nat → Bool → List Int → Int → Bool → Int → Int → Int → Int → ByteArray → Option (Int × Int × Int × Int × ByteArray × List Int × Int)
 | 0, _, _, _, _, _, _, _, _, _ => none
 | k + 1, x1, x11, x65, x102, x171000, x171001, x171002, x171003, x171004 => if x102 = true then (if 0 < (x11.length : Int) then (some (x171000, x171001, rd x11 0, x171003, x171004, ([] : List Int), 0)) else (none)) else (if x65 = 13 then (if 0 < (x11.length : Int) then (if 1 < (x11.length : Int) then (if 2 < (x11.length : Int) then (some (x171000, rd x11 2, rd x11 0, rd x11 1, x171004, ([] : List Int), 0)) else (none)) else (none)) else (none)) else (if x65 = 11 then (if 0 < (x11.length : Int) then (if x1 = true then (if 1 < (x11.length : Int) then (some (x171000, rd x11 0, rd x11 1, x171003, x171004, ([] : List Int), 0)) else (none)) else (if (x11.length : Int) > 1 then (if 1 ≤ (x11.length : Int) then ((some (x11.drop 1 : List Int)).bind fun y190 => (if ([] : List Int).length + y190.length < 17592186044416 then (some (x171000, rd x11 0, x171002, x171003, x171004, (([] : List Int) ++ y190), 0)) else (none))) else (none)) else (some (x171000, rd x11 0, x171002, x171003, x171004, ([] : List Int), 0)))) else (none)) else (if 0 < (x11.length : Int) then (if 1 < (x11.length : Int) then (some (x171000, rd x11 0, rd x11 1, x171003, x171004, ([] : List Int), 0)) else (none)) else (none))))
end
def cubbyref08_ins.f (k : Nat) (l0 : List ByteArray) (a1 : Bool) : Option (Int × Int × Int × Int × ByteArray × List Int × Int) := cubbyref08_ins.l0 k l0 a1 (-1) 1
theorem cubbyref08_ins.mono_l : ∀ k, (∀ y0 y1 y2 y3, LeO (cubbyref08_ins.l0 k y0 y1 y2 y3) (cubbyref08_ins.l0 (k + 1) y0 y1 y2 y3)) ∧ (∀ y0 y1 y2 y3 y4 y5 y6 y7 y8 y9, LeO (cubbyref08_ins.j1 k y0 y1 y2 y3 y4 y5 y6 y7 y8 y9) (cubbyref08_ins.j1 (k + 1) y0 y1 y2 y3 y4 y5 y6 y7 y8 y9)) ∧ (∀ y0 y1 y2 y3 y4 y5 y6 y7 y8, LeO (cubbyref08_ins.j2 k y0 y1 y2 y3 y4 y5 y6 y7 y8) (cubbyref08_ins.j2 (k + 1) y0 y1 y2 y3 y4 y5 y6 y7 y8)) ∧ (∀ y0 y1 y2 y3 y4 y5 y6 y7 y8, LeO (cubbyref08_ins.j3 k y0 y1 y2 y3 y4 y5 y6 y7 y8) (cubbyref08_ins.j3 (k + 1) y0 y1 y2 y3 y4 y5 y6 y7 y8))
 | 0 => ⟨fun _ _ _ _ r h => by simp [cubbyref08_ins.l0] at h, fun _ _ _ _ _ _ _ _ _ _ r h => by simp [cubbyref08_ins.j1] at h, fun _ _ _ _ _ _ _ _ _ r h => by simp [cubbyref08_ins.j2] at h, fun _ _ _ _ _ _ _ _ _ r h => by simp [cubbyref08_ins.j3] at h⟩
 | k + 1 => by
  obtain ⟨ih0, ih1, ih2, ih3⟩ := cubbyref08_ins.mono_l k
  refine ⟨?_, ?_, ?_, ?_⟩
  ·intro y0 y1 y2 y3
   unfold cubbyref08_ins.l0
   repeat' first
   | (with_reducible exact ih0 _ _ _ _)
   | (with_reducible exact ih1 _ _ _ _ _ _ _ _ _ _)
   | (with_reducible exact ih2 _ _ _ _ _ _ _ _ _)
   | (with_reducible exact ih3 _ _ _ _ _ _ _ _ _)
   | (with_reducible exact cubbyref08_numbers.mono _ _ _ _ _ _ _ _)
   | (with_reducible exact cubbyref08_read.mono _ _ _ _)
   | (with_reducible exact cubbyref08_word.mono _ _ _)
   | (with_reducible exact LeO.refl _)
   | (with_reducible exact LeO.none _)
   | (with_reducible refine LeO.ite ?_ ?_)
   | (with_reducible refine LeO.bind ?_ (fun _ => ?_))
   | exact ih0 _ _ _ _
   | exact ih1 _ _ _ _ _ _ _ _ _ _
   | exact ih2 _ _ _ _ _ _ _ _ _
   | exact ih3 _ _ _ _ _ _ _ _ _
   | exact cubbyref08_numbers.mono _ _ _ _ _ _ _ _
   | exact cubbyref08_read.mono _ _ _ _
   | exact cubbyref08_word.mono _ _ _
   | exact LeO.none _
   | refine LeO.ite ?_ ?_
   | refine LeO.bind ?_ (fun _ => ?_)
  ·intro y0 y1 y2 y3 y4 y5 y6 y7 y8 y9
   unfold cubbyref08_ins.j1
   repeat' first
   | (with_reducible exact ih0 _ _ _ _)
   | (with_reducible exact ih1 _ _ _ _ _ _ _ _ _ _)
   | (with_reducible exact ih2 _ _ _ _ _ _ _ _ _)
   | (with_reducible exact ih3 _ _ _ _ _ _ _ _ _)
   | (with_reducible exact cubbyref08_numbers.mono _ _ _ _ _ _ _ _)
   | (with_reducible exact cubbyref08_read.mono _ _ _ _)
   | (with_reducible exact cubbyref08_word.mono _ _ _)
   | (with_reducible exact LeO.refl _)
   | (with_reducible exact LeO.none _)
   | (with_reducible refine LeO.ite ?_ ?_)
   | (with_reducible refine LeO.bind ?_ (fun _ => ?_))
   | exact ih0 _ _ _ _
   | exact ih1 _ _ _ _ _ _ _ _ _ _
   | exact ih2 _ _ _ _ _ _ _ _ _
   | exact ih3 _ _ _ _ _ _ _ _ _
   | exact cubbyref08_numbers.mono _ _ _ _ _ _ _ _
   | exact cubbyref08_read.mono _ _ _ _
   | exact cubbyref08_word.mono _ _ _
   | exact LeO.none _
   | refine LeO.ite ?_ ?_
   | refine LeO.bind ?_ (fun _ => ?_)
  ·intro y0 y1 y2 y3 y4 y5 y6 y7 y8
   unfold cubbyref08_ins.j2
   repeat' first
   | (with_reducible exact ih0 _ _ _ _)
   | (with_reducible exact ih1 _ _ _ _ _ _ _ _ _ _)
   | (with_reducible exact ih2 _ _ _ _ _ _ _ _ _)
   | (with_reducible exact ih3 _ _ _ _ _ _ _ _ _)
   | (with_reducible exact cubbyref08_numbers.mono _ _ _ _ _ _ _ _)
   | (with_reducible exact cubbyref08_read.mono _ _ _ _)
   | (with_reducible exact cubbyref08_word.mono _ _ _)
   | (with_reducible exact LeO.refl _)
   | (with_reducible exact LeO.none _)
   | (with_reducible refine LeO.ite ?_ ?_)
   | (with_reducible refine LeO.bind ?_ (fun _ => ?_))
   | exact ih0 _ _ _ _
   | exact ih1 _ _ _ _ _ _ _ _ _ _
   | exact ih2 _ _ _ _ _ _ _ _ _
   | exact ih3 _ _ _ _ _ _ _ _ _
   | exact cubbyref08_numbers.mono _ _ _ _ _ _ _ _
   | exact cubbyref08_read.mono _ _ _ _
   | exact cubbyref08_word.mono _ _ _
   | exact LeO.none _
   | refine LeO.ite ?_ ?_
   | refine LeO.bind ?_ (fun _ => ?_)
  ·intro y0 y1 y2 y3 y4 y5 y6 y7 y8
   unfold cubbyref08_ins.j3
   repeat' first
   | (with_reducible exact ih0 _ _ _ _)
   | (with_reducible exact ih1 _ _ _ _ _ _ _ _ _ _)
   | (with_reducible exact ih2 _ _ _ _ _ _ _ _ _)
   | (with_reducible exact ih3 _ _ _ _ _ _ _ _ _)
   | (with_reducible exact cubbyref08_numbers.mono _ _ _ _ _ _ _ _)
   | (with_reducible exact cubbyref08_read.mono _ _ _ _)
   | (with_reducible exact cubbyref08_word.mono _ _ _)
   | (with_reducible exact LeO.refl _)
   | (with_reducible exact LeO.none _)
   | (with_reducible refine LeO.ite ?_ ?_)
   | (with_reducible refine LeO.bind ?_ (fun _ => ?_))
   | exact ih0 _ _ _ _
   | exact ih1 _ _ _ _ _ _ _ _ _ _
   | exact ih2 _ _ _ _ _ _ _ _ _
   | exact ih3 _ _ _ _ _ _ _ _ _
   | exact cubbyref08_numbers.mono _ _ _ _ _ _ _ _
   | exact cubbyref08_read.mono _ _ _ _
   | exact cubbyref08_word.mono _ _ _
   | exact LeO.none _
   | refine LeO.ite ?_ ?_
   | refine LeO.bind ?_ (fun _ => ?_)
theorem cubbyref08_ins.mono : ∀ a0 a1 k, LeO (cubbyref08_ins.f k a0 a1) (cubbyref08_ins.f (k + 1) a0 a1) := by
 intro a0 a1 k
 obtain ⟨ih0, ih1, ih2, ih3⟩ := cubbyref08_ins.mono_l k
 unfold cubbyref08_ins.f
 repeat' first
   | (with_reducible exact ih0 _ _ _ _)
   | (with_reducible exact ih1 _ _ _ _ _ _ _ _ _ _)
   | (with_reducible exact ih2 _ _ _ _ _ _ _ _ _)
   | (with_reducible exact ih3 _ _ _ _ _ _ _ _ _)
   | (with_reducible exact cubbyref08_numbers.mono _ _ _ _ _ _ _ _)
   | (with_reducible exact cubbyref08_read.mono _ _ _ _)
   | (with_reducible exact cubbyref08_word.mono _ _ _)
   | (with_reducible exact LeO.refl _)
   | (with_reducible exact LeO.none _)
   | (with_reducible refine LeO.ite ?_ ?_)
   | (with_reducible refine LeO.bind ?_ (fun _ => ?_))
   | exact ih0 _ _ _ _
   | exact ih1 _ _ _ _ _ _ _ _ _ _
   | exact ih2 _ _ _ _ _ _ _ _ _
   | exact ih3 _ _ _ _ _ _ _ _ _
   | exact cubbyref08_numbers.mono _ _ _ _ _ _ _ _
   | exact cubbyref08_read.mono _ _ _ _
   | exact cubbyref08_word.mono _ _ _
   | exact LeO.none _
   | refine LeO.ite ?_ ?_
   | refine LeO.bind ?_ (fun _ => ?_)
def cubbyref08_ins.T5 : Bool × List (List Nat × List Nat) := (true, [([], []), ([], []), ([0, 1], [0, 1]), ([], []), ([3], [3]), ([4], [4]), ([2, 5], [2, 5]), ([6, 2], [6]), ([7], [7]), ([8, 7], [7, 8]), ([9, 7], [7, 9]), ([10, 7], [7, 10]), ([7, 11], [7, 11])])
def cubbyref08_ins.B5 : List Nat := [0, 0, 3, 0, 8, 24, 63, 127, 255, 511, 1023, 2047, 4095]
theorem cubbyref08_ins.tab5 : rtab .any (opsOf Tryd.f54 5) = cubbyref08_ins.T5 := by kernel_rfl
theorem cubbyref08_ins.bits5 : waitsOk cubbyref08_ins.T5.2 cubbyref08_ins.B5 = true := by kernel_rfl
set_option maxHeartbeats 8000000 in
set_option maxRecDepth 100000 in
theorem cubbyref08_ins.calls (k : Nat) (A0 : Option Addr) (c0 : Nat) (l0 : List ByteArray) (a1 : Bool) (r1 : Int) (r2 : Int) (r3 : Int) (r4 : Int) (r5 : ByteArray) (r6 : List Int) (r7 : Int) (w : World) (hG : GW w) (hr0 : Kd.C Kd.string w A0 l0.length l0) (hc0 : l0.length ≤ c0) (h : cubbyref08_ins.f k l0 a1 = some (r1, r2, r3, r4, r5, r6, r7)) :
  Calls Tryd.prog 54 #[.slice A0 l0.length c0, .bool a1] w fun e w' => ∃ v5_ : Value, e = .returned (.tuple #[.agg #[.int .i64 r1, .int .i64 r2, .int .i64 r3, .int .i64 r4, .string r5, v5_], .int .i64 r7]) ∧ Kd.R (Kd.int .i64) 3 w' w.heap.size (fun _ => True) v5_ r6 ∧ Below w.heap.size w w' := by
 have hu72 := Tryd.underlying72
 have hGA := Aside0.mk hG
 clear hG
 have HR0 := Aside0.mk hr0
 have HC0 := Aside0.mk hc0
 clear hr0 hc0
 have HB := Aside0.mk (Below.refl w.heap.size w)
 have H : (cubbyref08_ins.l0 k l0 a1 (-1) 1) = some (r1, r2, r3, r4, r5, r6, r7) := h
 clear h
 have H' := Aside0.mk H
 clear H
 go_enter Tryd.func54, Tryd.ntmps54
 go_wp2_with (first | ((with_reducible refine gate_dst (N := 4) rfl ?_); refine box_event ?hg (N := 4) ?hd (cs := #[.int .i64 0, .int .i64 0, .int .i64 0, .int .i64 0, .string (⟨#[]⟩ : ByteArray), .slice none 0 0]) (t := 72) ?hr ?_; (case hd => rfl); (case hg => rfl); (case hr => first | (go_simp; done) | (go_simp; rfl)); intro gb166 hg w3 hbox hb; have n0_ := Aside0.mk (below_step (by repeat (first | (with_reducible first | exact HB.out | apply below_alloc | apply pw_below_drewN | apply below_drew1) | exact HB.out)) hb); have n1_ := Aside0.mk (hbox); have n2_ := Aside0.mk ((by rw [hg]; exact (below_size (by repeat (first | (with_reducible first | exact HB.out | apply below_alloc | apply pw_below_drewN | apply below_drew1) | exact HB.out))) : w.heap.size ≤ gb166)); have n3_ := Aside0.mk ((by rw [hg]; exact (below_size (by repeat (first | (with_reducible first | exact HB.out | apply below_alloc | apply pw_below_drewN | apply below_drew1) | exact HB.out))) : w.heap.size ≤ gb166)); clear HB; have HB := n0_; have BK166 := n1_; have GW166 := n2_; have GE166 := n3_; clear n0_ n1_ n2_ n3_; clear hb hbox hg))
 go_loopg [6, 7] k (fun kq v6 v7 w' => ∃ (x6_1 : Int) (x7_1 : Int), v6 = .int .i64 x6_1 ∧ v7 = .int .i64 x7_1 ∧ Aside0 (cubbyref08_ins.l0 kq l0 a1 x6_1 x7_1 = some (r1, r2, r3, r4, r5, r6, r7)) ∧ Aside0 (kq ≤ k) ∧ Aside0 (w'.heap[gb166]? = some (.cells #[.int .i64 0, .int .i64 0, .int .i64 0, .int .i64 0, .string (⟨#[]⟩ : ByteArray), (.slice none 0 0)] 72 (0, 0))) ∧ Aside0 (Below w.heap.size w w'))
 case atStart => exact ⟨((-1)), (1), (by first | rfl | (simp; done) | (simp [*]; done)), (by first | rfl | (simp; done) | (simp [*]; done)), H', ⟨Nat.le_refl _⟩, ⟨by (with_reducible repeat (first | refine blk_drewN ?_ _ | refine blk_drew ?_ | refine blk_alloc ?_ _)); exact BK166.out⟩, ⟨by repeat (first | (with_reducible first | exact HB.out | apply below_alloc | apply pw_below_drewN | apply below_drew1 | refine below_set ?_ GE166.out) | exact HB.out)⟩⟩
 case round =>
  clear H'
  try clear p2
  obtain ⟨x6_1, x7_1, rfl, rfl, HA, HK1, BK166, HB⟩ := hrel
  cases gk with
  | zero => exact absurd HA.out (by simp [cubbyref08_ins.l0])
  | succ k1 =>
   have H := HA.out
   clear HA
   simp only [cubbyref08_ins.l0] at H
   by_cases c4 : x7_1 ≤ 22
   ·rw [if_pos c4] at H
    have c4b0 : decide (x7_1 ≤ 22) = true := decide_eq_true c4
    clear c4
    replace H := Option.bind_eq_some_iff.mp H
    obtain ⟨t167, A50, H⟩ := H
    replace H : (if 0 < (l0.length : Int) then (if t167.toList = (rdOf ByteArray.empty l0 0).toList then (if (rdOf ByteArray.empty l0 0).toList = ([] : List UInt8) then (cubbyref08_ins.l0 k1 l0 a1 x6_1 (wrap64 (x7_1 + 1))) else (cubbyref08_ins.l0 k1 l0 a1 x7_1 (wrap64 (x7_1 + 1)))) else (cubbyref08_ins.l0 k1 l0 a1 x6_1 (wrap64 (x7_1 + 1)))) else (none)) = some (r1, r2, r3, r4, r5, r6, r7) := H
    have A5 := Aside0.mk A50
    clear A50
    by_cases c6 : 0 < (l0.length : Int)
    ·rw [if_pos c6] at H
     have c6b0 : decide (0 < (l0.length : Int)) = true := decide_eq_true c6
     have c6b1 : decide (0 < l0.length) = true := decide_eq_true (by omega)
     clear c6
     by_cases c7 : t167.toList = (rdOf ByteArray.empty l0 0).toList
     ·rw [if_pos c7] at H
      have c7b0 : (t167.toList == (rdOf ByteArray.empty l0 0).toList) = true := beq_iff_eq.mpr c7
      have c7b1 : (t167.toList != (rdOf ByteArray.empty l0 0).toList) = false := bne_eq_false_iff_eq.mpr c7
      clear c7
      by_cases c8 : (rdOf ByteArray.empty l0 0).toList = ([] : List UInt8)
      ·rw [if_pos c8] at H
       have c8b0 : ((rdOf ByteArray.empty l0 0).toList == ([] : List UInt8)) = true := beq_iff_eq.mpr c8
       have c8b1 : ((rdOf ByteArray.empty l0 0).toList != ([] : List UInt8)) = false := bne_eq_false_iff_eq.mpr c8
       clear c8
       have H' := Aside0.mk H
       clear H
       try go_wp2
       have n0_ := Aside0.mk (blk_drew BK166.out)
       have n1_ := Aside0.mk (below_drew1 HB.out)
       clear BK166
       clear HB
       have BK166 := n0_
       have HB := n1_
       clear n0_ n1_
       have p168 : 0 ≤ (0 : Int) := (by omega)
       have q168 : 0 < (l0.length : Int) := of_decide_eq_true (by first | (with_reducible assumption) | assumption)
       obtain ⟨ad168, e168, hx168_0⟩ := Kd.at_string HR0.out 0 p168 q168
       have hw168_0 := hx168_0
       (try rw [show ((0 : Int)).toNat = 0 from rfl] at hw168_0)
       (try rw [show 0 * 1 = 0 from rfl] at hw168_0)
       (try rw [Addr.add_zero'] at hw168_0)
       cases e168
       have qi168 : (0 < l0.length) = True := eq_true (by omega)
       (try rw [show ((0 : Int)).toNat = 0 from rfl] at hx168_0)
       (try rw [Addr.add_zero'] at hx168_0)
       replace hx168_0 := (HB.out.cell (World.block_lt_of_cell? w _ hx168_0)).trans hx168_0
       replace p168 := eq_true p168
       replace q168 := eq_true q168
       have p169 : 0 ≤ (0 : Int) := (by omega)
       have q169 : 0 < (l0.length : Int) := of_decide_eq_true (by first | (with_reducible assumption) | assumption)
       obtain ⟨ad169, e169, hx169_0⟩ := Kd.at_string HR0.out 0 p169 q169
       have hw169_0 := hx169_0
       (try rw [show ((0 : Int)).toNat = 0 from rfl] at hw169_0)
       (try rw [show 0 * 1 = 0 from rfl] at hw169_0)
       (try rw [Addr.add_zero'] at hw169_0)
       obtain rfl : ad168 = ad169 := (by injection e169)
       have qi169 : (0 < l0.length) = True := eq_true (by omega)
       (try rw [show ((0 : Int)).toNat = 0 from rfl] at hx169_0)
       (try rw [Addr.add_zero'] at hx169_0)
       replace hx169_0 := (HB.out.cell (World.block_lt_of_cell? w _ hx169_0)).trans hx169_0
       replace p169 := eq_true p169
       replace q169 := eq_true q169
       refine start_ (n := 13) (S := fun w' => w'.cell? ad168 = some (.string (rdOf ByteArray.empty l0 0)) ∧ w'.cell? ad168 = some (.string (rdOf ByteArray.empty l0 0))) (ds := []) #[false, false, false, false, false, false, false, false, false, false, false, false, false] (by kernel_rfl) rfl rfl ⟨((HB.out.cell (World.block_lt_of_cell? w _ hw168_0)).trans hw168_0), ((HB.out.cell (World.block_lt_of_cell? w _ hw169_0)).trans hw169_0)⟩ (fun hHeld => ?_); refine with_tabW cubbyref08_ins.tab5 cubbyref08_ins.bits5 (fun HT_ HW_ => ?_)
       generalize wr.drew = w9 at BK166 HB hx168_0 hx169_0 hHeld ⊢
       refine pure_ (i := 0) (N := some 18) (v := ?_) (a' := ?_) #[true, false, false, false, false, false, false, false, false, false, false, false, false] rfl rfl (any_of HT_.out (by kernel_rfl)) (fun _ _ _ h => h) (Or.inl ⟨by rfl, ?_⟩) ?_ ?_
       rotate_left
       ·intro w'
        go_simp
        with_reducible rfl
       rotate_left
       ·simp only [Act.put, List.setIfInBounds_toArray, List.set_cons_zero, List.set_cons_succ, i64_w, i32_w]
        rfl
       refine pure_ (i := 1) (N := some 19) (v := ?_) (a' := ?_) #[true, true, false, false, false, false, false, false, false, false, false, false, false] rfl rfl (any_of HT_.out (by kernel_rfl)) (fun _ _ _ h => h) (Or.inl ⟨by rfl, ?_⟩) ?_ ?_
       rotate_left
       ·intro w'
        go_simp
        with_reducible rfl
       rotate_left
       ·simp only [Act.put, List.setIfInBounds_toArray, List.set_cons_zero, List.set_cons_succ, i64_w, i32_w]
        rfl
       refine pure_ (i := 3) (N := some 21) (v := ?_) (a' := ?_) #[true, true, false, true, false, false, false, false, false, false, false, false, false] rfl rfl (any_of HT_.out (by kernel_rfl)) (fun _ _ _ h => h) (Or.inl ⟨by rfl, ?_⟩) ?_ ?_
       rotate_left
       ·intro w'
        go_simp
        with_reducible rfl
       rotate_left
       ·simp only [Act.put, List.setIfInBounds_toArray, List.set_cons_zero, List.set_cons_succ, i64_w, i32_w]
        rfl
       refine pure_ (i := 4) (N := some 22) (v := ?_) (a' := ?_) #[true, true, false, true, true, false, false, false, false, false, false, false, false] rfl rfl (any_of HT_.out (by kernel_rfl)) (fun _ _ _ h => h) (Or.inl ⟨by rfl, ?_⟩) ?_ ?_
       rotate_left
       ·intro w'
        go_simp
        with_reducible rfl
       rotate_left
       ·simp only [Act.put, List.setIfInBounds_toArray, List.set_cons_zero, List.set_cons_succ, i64_w, i32_w]
        rfl
       refine take_ (i := 5) (N := some 23) (v := ?_) (a' := ?_) #[true, true, false, true, true, true, false, false, false, false, false, false, false] rfl rfl (take_ofW HT_.out HW_.out (by kernel_rfl)) (fun _ _ _ h => h) (Or.inl ⟨by rfl, ?_⟩) hHeld ?_ ?_
       rotate_left
       ·rintro w' ⟨s0, s1⟩
        go_simp
        with_reducible rfl
       rotate_left
       ·simp only [Act.put, List.setIfInBounds_toArray, List.set_cons_zero, List.set_cons_succ, i64_w, i32_w]
        rfl
       refine one_ (i := 2) (N := some 20) #[true, true, true, true, true, true, false, false, false, false, false, false, false] rfl rfl (one_of HT_.out (by kernel_rfl)) (by decide) (fun K hK => ?_)
       refine goes_ Tryd.func46 (by kernel_rfl) rfl #[.int .i64 x7_1, .bool a1] (by rfl) rfl rfl (by (try simp only [List.map_toArray, List.map_cons, List.map_nil]); first | done | rfl | (simp only [List.length_drop, List.length_take]; rfl)) ?_
       with_reducible refine (cubbyref08_word.calls k1 x7_1 a1 t167 _ ?side1 A5.out).mono ?_
       (case side1 => exact GW_below hGA.out (by repeat (first | (with_reducible first | exact HB.out | apply below_alloc | apply pw_below_drewN | apply below_drew1 | refine below_set ?_ GE166.out) | exact HB.out)))
       rintro e w10 ⟨rfl, hb⟩
       refine ⟨_, rfl, ?_⟩
       have n0_ := Aside0.mk (blk_below (g := gb166) (o := .cells #[.int .i64 0, .int .i64 0, .int .i64 0, .int .i64 0, .string (⟨#[]⟩ : ByteArray), .slice none 0 0] 72 (0, 0)) (by (with_reducible repeat (first | refine blk_drewN ?_ _ | refine blk_drew ?_ | refine blk_alloc ?_ _)); exact BK166.out) hb)
       have n1_ := Aside0.mk (below_step (by repeat (first | (with_reducible first | exact HB.out | apply below_alloc | apply pw_below_drewN | apply below_drew1 | refine below_set ?_ GE166.out) | exact HB.out)) hb)
       clear BK166
       clear HB
       have BK166 := n0_
       have HB := n1_
       clear n0_ n1_
       (try clear hb)
       (try clear hb2)
       (try clear hk)
       (try clear hi)
       refine hK.out _ _ ⟨((HB.out.cell (World.block_lt_of_cell? w _ hw168_0)).trans hw168_0), ((HB.out.cell (World.block_lt_of_cell? w _ hw169_0)).trans hw169_0)⟩ (fun hHeld => ?_)
       clear hK K
       refine norm_ (a' := ?_) ?_ ?_
       rotate_left
       ·show Act.put _ (some 20) _ = _
        simp only [Act.put, List.setIfInBounds_toArray, List.set_cons_zero, List.set_cons_succ, i64_w, i32_w]
        rfl
       refine pure_ (i := 6) (N := some 24) (v := ?_) (a' := ?_) #[true, true, true, true, true, true, true, false, false, false, false, false, false] rfl rfl (any_of HT_.out (by kernel_rfl)) (fun _ _ _ h => h) (Or.inl ⟨by rfl, ?_⟩) ?_ ?_
       rotate_left
       ·intro w'
        go_simp
        with_reducible rfl
       rotate_left
       ·simp only [Act.put, List.setIfInBounds_toArray, List.set_cons_zero, List.set_cons_succ, i64_w, i32_w]
        rfl
       refine pure_ (i := 7) (N := some 25) (v := ?_) (a' := ?_) #[true, true, true, true, true, true, true, true, false, false, false, false, false] rfl rfl (any_of HT_.out (by kernel_rfl)) (fun _ _ _ h => h) (Or.inl ⟨by rfl, ?_⟩) ?_ ?_
       rotate_left
       ·intro w'
        go_simp
        with_reducible rfl
       rotate_left
       ·simp only [Act.put, List.setIfInBounds_toArray, List.set_cons_zero, List.set_cons_succ, i64_w, i32_w]
        rfl
       refine pure_ (i := 8) (N := some 26) (v := ?_) (a' := ?_) #[true, true, true, true, true, true, true, true, true, false, false, false, false] rfl rfl (any_of HT_.out (by kernel_rfl)) (fun _ _ _ h => h) (Or.inl ⟨by rfl, ?_⟩) ?_ ?_
       rotate_left
       ·intro w'
        go_simp
        with_reducible rfl
       rotate_left
       ·simp only [Act.put, List.setIfInBounds_toArray, List.set_cons_zero, List.set_cons_succ, i64_w, i32_w]
        rfl
       refine pure_ (i := 9) (N := some 27) (v := ?_) (a' := ?_) #[true, true, true, true, true, true, true, true, true, true, false, false, false] rfl rfl (any_of HT_.out (by kernel_rfl)) (fun _ _ _ h => h) (Or.inl ⟨by rfl, ?_⟩) ?_ ?_
       rotate_left
       ·intro w'
        go_simp
        with_reducible rfl
       rotate_left
       ·simp only [Act.put, List.setIfInBounds_toArray, List.set_cons_zero, List.set_cons_succ, i64_w, i32_w]
        rfl
       refine take_ (i := 10) (N := some 28) (v := ?_) (a' := ?_) #[true, true, true, true, true, true, true, true, true, true, true, false, false] rfl rfl (take_ofW HT_.out HW_.out (by kernel_rfl)) (fun _ _ _ h => h) (Or.inl ⟨by rfl, ?_⟩) hHeld ?_ ?_
       rotate_left
       ·rintro w' ⟨s0, s1⟩
        go_simp
        with_reducible rfl
       rotate_left
       ·simp only [Act.put, List.setIfInBounds_toArray, List.set_cons_zero, List.set_cons_succ, i64_w, i32_w]
        rfl
       refine pure_ (i := 11) (N := some 29) (v := ?_) (a' := ?_) #[true, true, true, true, true, true, true, true, true, true, true, true, false] rfl rfl (any_of HT_.out (by kernel_rfl)) (fun _ _ _ h => h) (Or.inl ⟨by rfl, ?_⟩) ?_ ?_
       rotate_left
       ·intro w'
        go_simp
        with_reducible rfl
       rotate_left
       ·simp only [Act.put, List.setIfInBounds_toArray, List.set_cons_zero, List.set_cons_succ, i64_w, i32_w]
        rfl
       refine pure_ (i := 12) (N := some 30) (v := ?_) (a' := ?_) #[true, true, true, true, true, true, true, true, true, true, true, true, true] rfl rfl (any_of HT_.out (by kernel_rfl)) (fun _ _ _ h => h) (Or.inl ⟨by rfl, ?_⟩) ?_ ?_
       rotate_left
       ·intro w'
        go_simp
        with_reducible rfl
       rotate_left
       ·simp only [Act.put, List.setIfInBounds_toArray, List.set_cons_zero, List.set_cons_succ, i64_w, i32_w]
        rfl
       refine done_ (done_of HT_.out (by kernel_rfl)) ?_
       try go_wp2
       go_roundg k1
       case measure => have := HK1.out; omega
       case rel => exact ⟨(x6_1), (wrap64 (x7_1 + 1)), (by first | rfl | (simp; done) | (simp [*]; done)), (by first | rfl | (simp; done) | (simp [*]; done)), H', ⟨by have := HK1.out; omega⟩, ⟨by (with_reducible repeat (first | refine blk_drewN ?_ _ | refine blk_drew ?_ | refine blk_alloc ?_ _)); exact BK166.out⟩, ⟨by repeat (first | (with_reducible first | exact HB.out | apply below_alloc | apply pw_below_drewN | apply below_drew1 | refine below_set ?_ GE166.out) | exact HB.out)⟩⟩
      ·rw [if_neg c8] at H
       have c8b0 : ((rdOf ByteArray.empty l0 0).toList == ([] : List UInt8)) = false := beq_eq_false_iff_ne.mpr c8
       have c8b1 : ((rdOf ByteArray.empty l0 0).toList != ([] : List UInt8)) = true := bne_iff_ne.mpr c8
       have H' := Aside0.mk H
       clear H
       try go_wp2
       have n0_ := Aside0.mk (blk_drew BK166.out)
       have n1_ := Aside0.mk (below_drew1 HB.out)
       clear BK166
       clear HB
       have BK166 := n0_
       have HB := n1_
       clear n0_ n1_
       have p168 : 0 ≤ (0 : Int) := (by omega)
       have q168 : 0 < (l0.length : Int) := of_decide_eq_true (by first | (with_reducible assumption) | assumption)
       obtain ⟨ad168, e168, hx168_0⟩ := Kd.at_string HR0.out 0 p168 q168
       have hw168_0 := hx168_0
       (try rw [show ((0 : Int)).toNat = 0 from rfl] at hw168_0)
       (try rw [show 0 * 1 = 0 from rfl] at hw168_0)
       (try rw [Addr.add_zero'] at hw168_0)
       cases e168
       have qi168 : (0 < l0.length) = True := eq_true (by omega)
       (try rw [show ((0 : Int)).toNat = 0 from rfl] at hx168_0)
       (try rw [Addr.add_zero'] at hx168_0)
       replace hx168_0 := (HB.out.cell (World.block_lt_of_cell? w _ hx168_0)).trans hx168_0
       replace p168 := eq_true p168
       replace q168 := eq_true q168
       have p169 : 0 ≤ (0 : Int) := (by omega)
       have q169 : 0 < (l0.length : Int) := of_decide_eq_true (by first | (with_reducible assumption) | assumption)
       obtain ⟨ad169, e169, hx169_0⟩ := Kd.at_string HR0.out 0 p169 q169
       have hw169_0 := hx169_0
       (try rw [show ((0 : Int)).toNat = 0 from rfl] at hw169_0)
       (try rw [show 0 * 1 = 0 from rfl] at hw169_0)
       (try rw [Addr.add_zero'] at hw169_0)
       obtain rfl : ad168 = ad169 := (by injection e169)
       have qi169 : (0 < l0.length) = True := eq_true (by omega)
       (try rw [show ((0 : Int)).toNat = 0 from rfl] at hx169_0)
       (try rw [Addr.add_zero'] at hx169_0)
       replace hx169_0 := (HB.out.cell (World.block_lt_of_cell? w _ hx169_0)).trans hx169_0
       replace p169 := eq_true p169
       replace q169 := eq_true q169
       refine start_ (n := 13) (S := fun w' => w'.cell? ad168 = some (.string (rdOf ByteArray.empty l0 0)) ∧ w'.cell? ad168 = some (.string (rdOf ByteArray.empty l0 0))) (ds := []) #[false, false, false, false, false, false, false, false, false, false, false, false, false] (by kernel_rfl) rfl rfl ⟨((HB.out.cell (World.block_lt_of_cell? w _ hw168_0)).trans hw168_0), ((HB.out.cell (World.block_lt_of_cell? w _ hw169_0)).trans hw169_0)⟩ (fun hHeld => ?_); refine with_tabW cubbyref08_ins.tab5 cubbyref08_ins.bits5 (fun HT_ HW_ => ?_)
       generalize wr.drew = w11 at BK166 HB hx168_0 hx169_0 hHeld ⊢
       refine pure_ (i := 0) (N := some 18) (v := ?_) (a' := ?_) #[true, false, false, false, false, false, false, false, false, false, false, false, false] rfl rfl (any_of HT_.out (by kernel_rfl)) (fun _ _ _ h => h) (Or.inl ⟨by rfl, ?_⟩) ?_ ?_
       rotate_left
       ·intro w'
        go_simp
        with_reducible rfl
       rotate_left
       ·simp only [Act.put, List.setIfInBounds_toArray, List.set_cons_zero, List.set_cons_succ, i64_w, i32_w]
        rfl
       refine pure_ (i := 1) (N := some 19) (v := ?_) (a' := ?_) #[true, true, false, false, false, false, false, false, false, false, false, false, false] rfl rfl (any_of HT_.out (by kernel_rfl)) (fun _ _ _ h => h) (Or.inl ⟨by rfl, ?_⟩) ?_ ?_
       rotate_left
       ·intro w'
        go_simp
        with_reducible rfl
       rotate_left
       ·simp only [Act.put, List.setIfInBounds_toArray, List.set_cons_zero, List.set_cons_succ, i64_w, i32_w]
        rfl
       refine pure_ (i := 3) (N := some 21) (v := ?_) (a' := ?_) #[true, true, false, true, false, false, false, false, false, false, false, false, false] rfl rfl (any_of HT_.out (by kernel_rfl)) (fun _ _ _ h => h) (Or.inl ⟨by rfl, ?_⟩) ?_ ?_
       rotate_left
       ·intro w'
        go_simp
        with_reducible rfl
       rotate_left
       ·simp only [Act.put, List.setIfInBounds_toArray, List.set_cons_zero, List.set_cons_succ, i64_w, i32_w]
        rfl
       refine pure_ (i := 4) (N := some 22) (v := ?_) (a' := ?_) #[true, true, false, true, true, false, false, false, false, false, false, false, false] rfl rfl (any_of HT_.out (by kernel_rfl)) (fun _ _ _ h => h) (Or.inl ⟨by rfl, ?_⟩) ?_ ?_
       rotate_left
       ·intro w'
        go_simp
        with_reducible rfl
       rotate_left
       ·simp only [Act.put, List.setIfInBounds_toArray, List.set_cons_zero, List.set_cons_succ, i64_w, i32_w]
        rfl
       refine take_ (i := 5) (N := some 23) (v := ?_) (a' := ?_) #[true, true, false, true, true, true, false, false, false, false, false, false, false] rfl rfl (take_ofW HT_.out HW_.out (by kernel_rfl)) (fun _ _ _ h => h) (Or.inl ⟨by rfl, ?_⟩) hHeld ?_ ?_
       rotate_left
       ·rintro w' ⟨s0, s1⟩
        go_simp
        with_reducible rfl
       rotate_left
       ·simp only [Act.put, List.setIfInBounds_toArray, List.set_cons_zero, List.set_cons_succ, i64_w, i32_w]
        rfl
       refine one_ (i := 2) (N := some 20) #[true, true, true, true, true, true, false, false, false, false, false, false, false] rfl rfl (one_of HT_.out (by kernel_rfl)) (by decide) (fun K hK => ?_)
       refine goes_ Tryd.func46 (by kernel_rfl) rfl #[.int .i64 x7_1, .bool a1] (by rfl) rfl rfl (by (try simp only [List.map_toArray, List.map_cons, List.map_nil]); first | done | rfl | (simp only [List.length_drop, List.length_take]; rfl)) ?_
       with_reducible refine (cubbyref08_word.calls k1 x7_1 a1 t167 _ ?side1 A5.out).mono ?_
       (case side1 => exact GW_below hGA.out (by repeat (first | (with_reducible first | exact HB.out | apply below_alloc | apply pw_below_drewN | apply below_drew1 | refine below_set ?_ GE166.out) | exact HB.out)))
       rintro e w12 ⟨rfl, hb⟩
       refine ⟨_, rfl, ?_⟩
       have n0_ := Aside0.mk (blk_below (g := gb166) (o := .cells #[.int .i64 0, .int .i64 0, .int .i64 0, .int .i64 0, .string (⟨#[]⟩ : ByteArray), .slice none 0 0] 72 (0, 0)) (by (with_reducible repeat (first | refine blk_drewN ?_ _ | refine blk_drew ?_ | refine blk_alloc ?_ _)); exact BK166.out) hb)
       have n1_ := Aside0.mk (below_step (by repeat (first | (with_reducible first | exact HB.out | apply below_alloc | apply pw_below_drewN | apply below_drew1 | refine below_set ?_ GE166.out) | exact HB.out)) hb)
       clear BK166
       clear HB
       have BK166 := n0_
       have HB := n1_
       clear n0_ n1_
       (try clear hb)
       (try clear hb2)
       (try clear hk)
       (try clear hi)
       refine hK.out _ _ ⟨((HB.out.cell (World.block_lt_of_cell? w _ hw168_0)).trans hw168_0), ((HB.out.cell (World.block_lt_of_cell? w _ hw169_0)).trans hw169_0)⟩ (fun hHeld => ?_)
       clear hK K
       refine norm_ (a' := ?_) ?_ ?_
       rotate_left
       ·show Act.put _ (some 20) _ = _
        simp only [Act.put, List.setIfInBounds_toArray, List.set_cons_zero, List.set_cons_succ, i64_w, i32_w]
        rfl
       refine pure_ (i := 6) (N := some 24) (v := ?_) (a' := ?_) #[true, true, true, true, true, true, true, false, false, false, false, false, false] rfl rfl (any_of HT_.out (by kernel_rfl)) (fun _ _ _ h => h) (Or.inl ⟨by rfl, ?_⟩) ?_ ?_
       rotate_left
       ·intro w'
        go_simp
        with_reducible rfl
       rotate_left
       ·simp only [Act.put, List.setIfInBounds_toArray, List.set_cons_zero, List.set_cons_succ, i64_w, i32_w]
        rfl
       refine pure_ (i := 7) (N := some 25) (v := ?_) (a' := ?_) #[true, true, true, true, true, true, true, true, false, false, false, false, false] rfl rfl (any_of HT_.out (by kernel_rfl)) (fun _ _ _ h => h) (Or.inl ⟨by rfl, ?_⟩) ?_ ?_
       rotate_left
       ·intro w'
        go_simp
        with_reducible rfl
       rotate_left
       ·simp only [Act.put, List.setIfInBounds_toArray, List.set_cons_zero, List.set_cons_succ, i64_w, i32_w]
        rfl
       refine pure_ (i := 8) (N := some 26) (v := ?_) (a' := ?_) #[true, true, true, true, true, true, true, true, true, false, false, false, false] rfl rfl (any_of HT_.out (by kernel_rfl)) (fun _ _ _ h => h) (Or.inl ⟨by rfl, ?_⟩) ?_ ?_
       rotate_left
       ·intro w'
        go_simp
        with_reducible rfl
       rotate_left
       ·simp only [Act.put, List.setIfInBounds_toArray, List.set_cons_zero, List.set_cons_succ, i64_w, i32_w]
        rfl
       refine pure_ (i := 9) (N := some 27) (v := ?_) (a' := ?_) #[true, true, true, true, true, true, true, true, true, true, false, false, false] rfl rfl (any_of HT_.out (by kernel_rfl)) (fun _ _ _ h => h) (Or.inl ⟨by rfl, ?_⟩) ?_ ?_
       rotate_left
       ·intro w'
        go_simp
        with_reducible rfl
       rotate_left
       ·simp only [Act.put, List.setIfInBounds_toArray, List.set_cons_zero, List.set_cons_succ, i64_w, i32_w]
        rfl
       refine take_ (i := 10) (N := some 28) (v := ?_) (a' := ?_) #[true, true, true, true, true, true, true, true, true, true, true, false, false] rfl rfl (take_ofW HT_.out HW_.out (by kernel_rfl)) (fun _ _ _ h => h) (Or.inl ⟨by rfl, ?_⟩) hHeld ?_ ?_
       rotate_left
       ·rintro w' ⟨s0, s1⟩
        go_simp
        with_reducible rfl
       rotate_left
       ·simp only [Act.put, List.setIfInBounds_toArray, List.set_cons_zero, List.set_cons_succ, i64_w, i32_w]
        rfl
       refine pure_ (i := 11) (N := some 29) (v := ?_) (a' := ?_) #[true, true, true, true, true, true, true, true, true, true, true, true, false] rfl rfl (any_of HT_.out (by kernel_rfl)) (fun _ _ _ h => h) (Or.inl ⟨by rfl, ?_⟩) ?_ ?_
       rotate_left
       ·intro w'
        go_simp
        with_reducible rfl
       rotate_left
       ·simp only [Act.put, List.setIfInBounds_toArray, List.set_cons_zero, List.set_cons_succ, i64_w, i32_w]
        rfl
       refine pure_ (i := 12) (N := some 30) (v := ?_) (a' := ?_) #[true, true, true, true, true, true, true, true, true, true, true, true, true] rfl rfl (any_of HT_.out (by kernel_rfl)) (fun _ _ _ h => h) (Or.inl ⟨by rfl, ?_⟩) ?_ ?_
       rotate_left
       ·intro w'
        go_simp
        with_reducible rfl
       rotate_left
       ·simp only [Act.put, List.setIfInBounds_toArray, List.set_cons_zero, List.set_cons_succ, i64_w, i32_w]
        rfl
       refine done_ (done_of HT_.out (by kernel_rfl)) ?_
       try go_wp2
       go_roundg k1
       case measure => have := HK1.out; omega
       case rel => exact ⟨(x7_1), (wrap64 (x7_1 + 1)), (by first | rfl | (simp; done) | (simp [*]; done)), (by first | rfl | (simp; done) | (simp [*]; done)), H', ⟨by have := HK1.out; omega⟩, ⟨by (with_reducible repeat (first | refine blk_drewN ?_ _ | refine blk_drew ?_ | refine blk_alloc ?_ _)); exact BK166.out⟩, ⟨by repeat (first | (with_reducible first | exact HB.out | apply below_alloc | apply pw_below_drewN | apply below_drew1 | refine below_set ?_ GE166.out) | exact HB.out)⟩⟩
     ·rw [if_neg c7] at H
      have c7b0 : (t167.toList == (rdOf ByteArray.empty l0 0).toList) = false := beq_eq_false_iff_ne.mpr c7
      have c7b1 : (t167.toList != (rdOf ByteArray.empty l0 0).toList) = true := bne_iff_ne.mpr c7
      have H' := Aside0.mk H
      clear H
      try go_wp2
      have n0_ := Aside0.mk (blk_drew BK166.out)
      have n1_ := Aside0.mk (below_drew1 HB.out)
      clear BK166
      clear HB
      have BK166 := n0_
      have HB := n1_
      clear n0_ n1_
      have p168 : 0 ≤ (0 : Int) := (by omega)
      have q168 : 0 < (l0.length : Int) := of_decide_eq_true (by first | (with_reducible assumption) | assumption)
      obtain ⟨ad168, e168, hx168_0⟩ := Kd.at_string HR0.out 0 p168 q168
      have hw168_0 := hx168_0
      (try rw [show ((0 : Int)).toNat = 0 from rfl] at hw168_0)
      (try rw [show 0 * 1 = 0 from rfl] at hw168_0)
      (try rw [Addr.add_zero'] at hw168_0)
      cases e168
      have qi168 : (0 < l0.length) = True := eq_true (by omega)
      (try rw [show ((0 : Int)).toNat = 0 from rfl] at hx168_0)
      (try rw [Addr.add_zero'] at hx168_0)
      replace hx168_0 := (HB.out.cell (World.block_lt_of_cell? w _ hx168_0)).trans hx168_0
      replace p168 := eq_true p168
      replace q168 := eq_true q168
      refine start_ (n := 13) (S := fun w' => w'.cell? ad168 = some (.string (rdOf ByteArray.empty l0 0))) (ds := []) #[false, false, false, false, false, false, false, false, false, false, false, false, false] (by kernel_rfl) rfl rfl (((HB.out.cell (World.block_lt_of_cell? w _ hw168_0)).trans hw168_0)) (fun hHeld => ?_); refine with_tabW cubbyref08_ins.tab5 cubbyref08_ins.bits5 (fun HT_ HW_ => ?_)
      generalize wr.drew = w13 at BK166 HB hx168_0 hHeld ⊢
      refine pure_ (i := 0) (N := some 18) (v := ?_) (a' := ?_) #[true, false, false, false, false, false, false, false, false, false, false, false, false] rfl rfl (any_of HT_.out (by kernel_rfl)) (fun _ _ _ h => h) (Or.inl ⟨by rfl, ?_⟩) ?_ ?_
      rotate_left
      ·intro w'
       go_simp
       with_reducible rfl
      rotate_left
      ·simp only [Act.put, List.setIfInBounds_toArray, List.set_cons_zero, List.set_cons_succ, i64_w, i32_w]
       rfl
      refine pure_ (i := 1) (N := some 19) (v := ?_) (a' := ?_) #[true, true, false, false, false, false, false, false, false, false, false, false, false] rfl rfl (any_of HT_.out (by kernel_rfl)) (fun _ _ _ h => h) (Or.inl ⟨by rfl, ?_⟩) ?_ ?_
      rotate_left
      ·intro w'
       go_simp
       with_reducible rfl
      rotate_left
      ·simp only [Act.put, List.setIfInBounds_toArray, List.set_cons_zero, List.set_cons_succ, i64_w, i32_w]
       rfl
      refine pure_ (i := 3) (N := some 21) (v := ?_) (a' := ?_) #[true, true, false, true, false, false, false, false, false, false, false, false, false] rfl rfl (any_of HT_.out (by kernel_rfl)) (fun _ _ _ h => h) (Or.inl ⟨by rfl, ?_⟩) ?_ ?_
      rotate_left
      ·intro w'
       go_simp
       with_reducible rfl
      rotate_left
      ·simp only [Act.put, List.setIfInBounds_toArray, List.set_cons_zero, List.set_cons_succ, i64_w, i32_w]
       rfl
      refine pure_ (i := 4) (N := some 22) (v := ?_) (a' := ?_) #[true, true, false, true, true, false, false, false, false, false, false, false, false] rfl rfl (any_of HT_.out (by kernel_rfl)) (fun _ _ _ h => h) (Or.inl ⟨by rfl, ?_⟩) ?_ ?_
      rotate_left
      ·intro w'
       go_simp
       with_reducible rfl
      rotate_left
      ·simp only [Act.put, List.setIfInBounds_toArray, List.set_cons_zero, List.set_cons_succ, i64_w, i32_w]
       rfl
      refine take_ (i := 5) (N := some 23) (v := ?_) (a' := ?_) #[true, true, false, true, true, true, false, false, false, false, false, false, false] rfl rfl (take_ofW HT_.out HW_.out (by kernel_rfl)) (fun _ _ _ h => h) (Or.inl ⟨by rfl, ?_⟩) hHeld ?_ ?_
      rotate_left
      ·intro w' s0
       go_simp
       with_reducible rfl
      rotate_left
      ·simp only [Act.put, List.setIfInBounds_toArray, List.set_cons_zero, List.set_cons_succ, i64_w, i32_w]
       rfl
      refine one_ (i := 2) (N := some 20) #[true, true, true, true, true, true, false, false, false, false, false, false, false] rfl rfl (one_of HT_.out (by kernel_rfl)) (by decide) (fun K hK => ?_)
      refine goes_ Tryd.func46 (by kernel_rfl) rfl #[.int .i64 x7_1, .bool a1] (by rfl) rfl rfl (by (try simp only [List.map_toArray, List.map_cons, List.map_nil]); first | done | rfl | (simp only [List.length_drop, List.length_take]; rfl)) ?_
      with_reducible refine (cubbyref08_word.calls k1 x7_1 a1 t167 _ ?side1 A5.out).mono ?_
      (case side1 => exact GW_below hGA.out (by repeat (first | (with_reducible first | exact HB.out | apply below_alloc | apply pw_below_drewN | apply below_drew1 | refine below_set ?_ GE166.out) | exact HB.out)))
      rintro e w14 ⟨rfl, hb⟩
      refine ⟨_, rfl, ?_⟩
      have n0_ := Aside0.mk (blk_below (g := gb166) (o := .cells #[.int .i64 0, .int .i64 0, .int .i64 0, .int .i64 0, .string (⟨#[]⟩ : ByteArray), .slice none 0 0] 72 (0, 0)) (by (with_reducible repeat (first | refine blk_drewN ?_ _ | refine blk_drew ?_ | refine blk_alloc ?_ _)); exact BK166.out) hb)
      have n1_ := Aside0.mk (below_step (by repeat (first | (with_reducible first | exact HB.out | apply below_alloc | apply pw_below_drewN | apply below_drew1 | refine below_set ?_ GE166.out) | exact HB.out)) hb)
      clear BK166
      clear HB
      have BK166 := n0_
      have HB := n1_
      clear n0_ n1_
      (try clear hb)
      (try clear hb2)
      (try clear hk)
      (try clear hi)
      refine hK.out _ _ (((HB.out.cell (World.block_lt_of_cell? w _ hw168_0)).trans hw168_0)) (fun hHeld => ?_)
      clear hK K
      refine norm_ (a' := ?_) ?_ ?_
      rotate_left
      ·show Act.put _ (some 20) _ = _
       simp only [Act.put, List.setIfInBounds_toArray, List.set_cons_zero, List.set_cons_succ, i64_w, i32_w]
       rfl
      refine pure_ (i := 6) (N := some 24) (v := ?_) (a' := ?_) #[true, true, true, true, true, true, true, false, false, false, false, false, false] rfl rfl (any_of HT_.out (by kernel_rfl)) (fun _ _ _ h => h) (Or.inl ⟨by rfl, ?_⟩) ?_ ?_
      rotate_left
      ·intro w'
       go_simp
       with_reducible rfl
      rotate_left
      ·simp only [Act.put, List.setIfInBounds_toArray, List.set_cons_zero, List.set_cons_succ, i64_w, i32_w]
       rfl
      refine pure_ (i := 7) (N := some 25) (v := ?_) (a' := ?_) #[true, true, true, true, true, true, true, true, false, false, false, false, false] rfl rfl (any_of HT_.out (by kernel_rfl)) (fun _ _ _ h => h) (Or.inl ⟨by rfl, ?_⟩) ?_ ?_
      rotate_left
      ·intro w'
       go_simp
       with_reducible rfl
      rotate_left
      ·simp only [Act.put, List.setIfInBounds_toArray, List.set_cons_zero, List.set_cons_succ, i64_w, i32_w]
       rfl
      refine pure_ (i := 8) (N := some 26) (v := undef) (a' := ?_) #[true, true, true, true, true, true, true, true, true, false, false, false, false] rfl rfl (any_of HT_.out (by kernel_rfl)) (fun _ _ _ h => h) (Or.inr ⟨by rfl, rfl⟩) ?_ ?_
      rotate_left
      ·simp only [Act.put, List.setIfInBounds_toArray, List.set_cons_zero, List.set_cons_succ, i64_w, i32_w]
       rfl
      refine pure_ (i := 9) (N := some 27) (v := undef) (a' := ?_) #[true, true, true, true, true, true, true, true, true, true, false, false, false] rfl rfl (any_of HT_.out (by kernel_rfl)) (fun _ _ _ h => h) (Or.inr ⟨by rfl, rfl⟩) ?_ ?_
      rotate_left
      ·simp only [Act.put, List.setIfInBounds_toArray, List.set_cons_zero, List.set_cons_succ, i64_w, i32_w]
       rfl
      refine pure_ (i := 10) (N := some 28) (v := undef) (a' := ?_) #[true, true, true, true, true, true, true, true, true, true, true, false, false] rfl rfl (any_of HT_.out (by kernel_rfl)) (fun _ _ _ h => h) (Or.inr ⟨by rfl, rfl⟩) ?_ ?_
      rotate_left
      ·simp only [Act.put, List.setIfInBounds_toArray, List.set_cons_zero, List.set_cons_succ, i64_w, i32_w]
       rfl
      refine pure_ (i := 11) (N := some 29) (v := undef) (a' := ?_) #[true, true, true, true, true, true, true, true, true, true, true, true, false] rfl rfl (any_of HT_.out (by kernel_rfl)) (fun _ _ _ h => h) (Or.inr ⟨by rfl, rfl⟩) ?_ ?_
      rotate_left
      ·simp only [Act.put, List.setIfInBounds_toArray, List.set_cons_zero, List.set_cons_succ, i64_w, i32_w]
       rfl
      refine pure_ (i := 12) (N := some 30) (v := ?_) (a' := ?_) #[true, true, true, true, true, true, true, true, true, true, true, true, true] rfl rfl (any_of HT_.out (by kernel_rfl)) (fun _ _ _ h => h) (Or.inl ⟨by rfl, ?_⟩) ?_ ?_
      rotate_left
      ·intro w'
       go_simp
       with_reducible rfl
      rotate_left
      ·simp only [Act.put, List.setIfInBounds_toArray, List.set_cons_zero, List.set_cons_succ, i64_w, i32_w]
       rfl
      refine done_ (done_of HT_.out (by kernel_rfl)) ?_
      try go_wp2
      go_roundg k1
      case measure => have := HK1.out; omega
      case rel => exact ⟨(x6_1), (wrap64 (x7_1 + 1)), (by first | rfl | (simp; done) | (simp [*]; done)), (by first | rfl | (simp; done) | (simp [*]; done)), H', ⟨by have := HK1.out; omega⟩, ⟨by (with_reducible repeat (first | refine blk_drewN ?_ _ | refine blk_drew ?_ | refine blk_alloc ?_ _)); exact BK166.out⟩, ⟨by repeat (first | (with_reducible first | exact HB.out | apply below_alloc | apply pw_below_drewN | apply below_drew1 | refine below_set ?_ GE166.out) | exact HB.out)⟩⟩
    ·rw [if_neg c6] at H
     exact absurd H (by simp)
   ·rw [if_neg c4] at H
    have c4b0 : decide (x7_1 ≤ 22) = false := decide_eq_false c4
    clear c4
    by_cases c15 : x6_1 < 0
    ·rw [if_pos c15] at H
     have c15b0 : decide (x6_1 < 0) = true := decide_eq_true c15
     clear c15
     simp only [Option.some.injEq, Prod.mk.injEq] at H
     obtain ⟨rfl, rfl, rfl, rfl, rfl, rfl, rfl⟩ := H
     have hcz16_0 : wr.cell? ⟨gb166, 0, none⟩ = some (.int .i64 0) := (blk_cell BK166.out 0).trans rfl
     have hcz16_1 : wr.cell? ⟨gb166, 1, none⟩ = some (.int .i64 0) := (blk_cell BK166.out 1).trans rfl
     have hcz16_2 : wr.cell? ⟨gb166, 2, none⟩ = some (.int .i64 0) := (blk_cell BK166.out 2).trans rfl
     have hcz16_3 : wr.cell? ⟨gb166, 3, none⟩ = some (.int .i64 0) := (blk_cell BK166.out 3).trans rfl
     have hcz16_4 : wr.cell? ⟨gb166, 4, none⟩ = some (.string (⟨#[]⟩ : ByteArray)) := (blk_cell BK166.out 4).trans rfl
     have hcz16_5 : wr.cell? ⟨gb166, 5, none⟩ = some (.slice none 0 0) := (blk_cell BK166.out 5).trans rfl
     have hfz16_0 := blk_frozen BK166.out 0
     have hfz16_1 := blk_frozen BK166.out 1
     have hfz16_2 := blk_frozen BK166.out 2
     have hfz16_3 := blk_frozen BK166.out 3
     have hfz16_4 := blk_frozen BK166.out 4
     have hfz16_5 := blk_frozen BK166.out 5
     go_wp2
     refine bodyPost_ret (results_ct rfl _ _ gb166 72 #[.int .i64 0, .int .i64 0, .int .i64 0, .int .i64 0, .string (⟨#[]⟩ : ByteArray), .slice none 0 0] (0, 0) _ rfl (by (with_reducible repeat (first | refine blk_drewN ?_ _ | refine blk_drew ?_ | refine blk_alloc ?_ _)); refine blk_put (cs := #[.int .i64 0, .int .i64 0, .int .i64 0, .int .i64 0, .string (⟨#[]⟩ : ByteArray), .slice none 0 0]) ?_ 5 _ rfl; (with_reducible repeat (first | refine blk_drewN ?_ _ | refine blk_drew ?_ | refine blk_alloc ?_ _)); refine blk_put (cs := #[.int .i64 0, .int .i64 0, .int .i64 0, .int .i64 0, .string (⟨#[]⟩ : ByteArray), .slice none 0 0]) ?_ 4 _ rfl; (with_reducible repeat (first | refine blk_drewN ?_ _ | refine blk_drew ?_ | refine blk_alloc ?_ _)); refine blk_put (cs := #[.int .i64 0, .int .i64 0, .int .i64 0, .int .i64 0, .string (⟨#[]⟩ : ByteArray), .slice none 0 0]) ?_ 3 _ rfl; (with_reducible repeat (first | refine blk_drewN ?_ _ | refine blk_drew ?_ | refine blk_alloc ?_ _)); refine blk_put (cs := #[.int .i64 0, .int .i64 0, .int .i64 0, .int .i64 0, .string (⟨#[]⟩ : ByteArray), .slice none 0 0]) ?_ 2 _ rfl; (with_reducible repeat (first | refine blk_drewN ?_ _ | refine blk_drew ?_ | refine blk_alloc ?_ _)); refine blk_put (cs := #[.int .i64 0, .int .i64 0, .int .i64 0, .int .i64 0, .string (⟨#[]⟩ : ByteArray), .slice none 0 0]) ?_ 1 _ rfl; (with_reducible repeat (first | refine blk_drewN ?_ _ | refine blk_drew ?_ | refine blk_alloc ?_ _)); refine blk_put (cs := #[.int .i64 0, .int .i64 0, .int .i64 0, .int .i64 0, .string (⟨#[]⟩ : ByteArray), .slice none 0 0]) ?_ 0 _ rfl; (with_reducible repeat (first | refine blk_drewN ?_ _ | refine blk_drew ?_ | refine blk_alloc ?_ _)); exact BK166.out) Tryd.underlying72 rfl (by kernel_rfl)) rfl ?_
     exact ⟨_, by first | rfl | (simp [errW_none, errW_some] <;> rfl) | (simp [*, errW_none, errW_some] <;> rfl), by first | exact Kd.R_nil _ _ _ _ _ | exact Kd.N_nil _ _ _ _ _ | exact Kd.V_nil _ _ _ _ _ | exact Kd.Q_nil _ _ _ _ _ | exact Kd.S_nil _ _ _ _ _, by repeat (first | (with_reducible first | exact HB.out | apply below_alloc | apply pw_below_drewN | apply below_drew1 | refine below_set ?_ GE166.out) | exact HB.out)⟩
    ·rw [if_neg c15] at H
     have c15b0 : decide (x6_1 < 0) = false := decide_eq_false c15
     clear c15
     replace H := Option.bind_eq_some_iff.mp H
     obtain ⟨t171, A170, H⟩ := H
     replace H : (if x6_1 = 11 then (if a1 = true then (cubbyref08_ins.j1 k1 l0 a1 x6_1 (wrap64 ((t171.length : Int) + 1)) 1 x6_1 0 0 0 (⟨#[]⟩ : ByteArray)) else (cubbyref08_ins.j1 k1 l0 a1 x6_1 (mx 2 (wrap64 ((l0.length : Int) - 1))) 1 x6_1 0 0 0 (⟨#[]⟩ : ByteArray))) else (cubbyref08_ins.j1 k1 l0 a1 x6_1 (t171.length : Int) (-1) x6_1 0 0 0 (⟨#[]⟩ : ByteArray))) = some (r1, r2, r3, r4, r5, r6, r7) := H
     have A17 := Aside0.mk A170
     clear A170
     have HC18 := Aside0.mk H
     clear H
     go_upto_if 42 with (first | ((with_reducible refine gate_dst (N := 8) rfl ?_); refine box_event ?hg (N := 8) ?hd (cs := #[.int .i64 0, .int .i64 0, .int .i64 0, .int .i64 0, .string (⟨#[]⟩ : ByteArray), .slice none 0 0]) (t := 72) ?hr ?_; (case hd => rfl); (case hg => rfl); (case hr => first | (go_simp; done) | (go_simp; rfl)); intro gb170 hg w19 hbox hb; have n0_ := Aside0.mk (blk_below (g := gb166) (o := .cells #[.int .i64 0, .int .i64 0, .int .i64 0, .int .i64 0, .string (⟨#[]⟩ : ByteArray), .slice none 0 0] 72 (0, 0)) (by (with_reducible repeat (first | refine blk_drewN ?_ _ | refine blk_drew ?_ | refine blk_alloc ?_ _)); exact BK166.out) hb); have n1_ := Aside0.mk (below_step (by repeat (first | (with_reducible first | exact HB.out | apply below_alloc | apply pw_below_drewN | apply below_drew1 | refine below_set ?_ GE166.out) | exact HB.out)) hb); have n2_ := Aside0.mk (hbox); have n3_ := Aside0.mk ((by rw [hg]; exact (below_size (by repeat (first | (with_reducible first | exact HB.out | apply below_alloc | apply pw_below_drewN | apply below_drew1 | refine below_set ?_ GE166.out) | exact HB.out))) : w.heap.size ≤ gb170)); have n4_ := Aside0.mk ((by rw [hg]; exact (below_size (by repeat (first | (with_reducible first | exact HB.out | apply below_alloc | apply pw_below_drewN | apply below_drew1 | refine below_set ?_ GE166.out) | exact HB.out))) : w.heap.size ≤ gb170)); have n5_ := Aside0.mk ((by rw [hg]; exact Nat.ne_of_lt (blk_lt (g := gb166) (o := .cells #[.int .i64 0, .int .i64 0, .int .i64 0, .int .i64 0, .string (⟨#[]⟩ : ByteArray), .slice none 0 0] 72 (0, 0)) (by (with_reducible repeat (first | refine blk_drewN ?_ _ | refine blk_drew ?_ | refine blk_alloc ?_ _)); exact BK166.out)) : gb166 ≠ gb170)); have n6_ := Aside0.mk ((by rw [hg]; exact Nat.ne_of_gt (blk_lt (g := gb166) (o := .cells #[.int .i64 0, .int .i64 0, .int .i64 0, .int .i64 0, .string (⟨#[]⟩ : ByteArray), .slice none 0 0] 72 (0, 0)) (by (with_reducible repeat (first | refine blk_drewN ?_ _ | refine blk_drew ?_ | refine blk_alloc ?_ _)); exact BK166.out)) : gb170 ≠ gb166)); clear BK166; clear HB; have BK166 := n0_; have HB := n1_; have BK170 := n2_; have GW170 := n3_; have GE170 := n4_; have NB166_170 := n5_; have NB170_166 := n6_; clear n0_ n1_ n2_ n3_ n4_ n5_ n6_; clear hb hbox hg; have hnb20 := NB170_166.out; have hnc20 := NB166_170.out; have hcz21_0 : w19.cell? ⟨gb170, 0, none⟩ = some (.int .i64 0) := (blk_cell BK170.out 0).trans rfl; have hcz21_1 : w19.cell? ⟨gb170, 1, none⟩ = some (.int .i64 0) := (blk_cell BK170.out 1).trans rfl; have hcz21_2 : w19.cell? ⟨gb170, 2, none⟩ = some (.int .i64 0) := (blk_cell BK170.out 2).trans rfl; have hcz21_3 : w19.cell? ⟨gb170, 3, none⟩ = some (.int .i64 0) := (blk_cell BK170.out 3).trans rfl; have hcz21_4 : w19.cell? ⟨gb170, 4, none⟩ = some (.string (⟨#[]⟩ : ByteArray)) := (blk_cell BK170.out 4).trans rfl; have hcz21_5 : w19.cell? ⟨gb170, 5, none⟩ = some (.slice none 0 0) := (blk_cell BK170.out 5).trans rfl; have hfz21_0 := blk_frozen BK170.out 0; have hfz21_1 := blk_frozen BK170.out 1; have hfz21_2 := blk_frozen BK170.out 2; have hfz21_3 := blk_frozen BK170.out 3; have hfz21_4 := blk_frozen BK170.out 4; have hfz21_5 := blk_frozen BK170.out 5) | ((with_reducible refine gate_callee (f := 47) rfl ?_); refine goesL_ (some 39) rfl rfl Tryd.func47 (by kernel_rfl) rfl #[.agg #[.int .i64 x6_1, .int .i64 0, .int .i64 0, .int .i64 0, .string (⟨#[]⟩ : ByteArray), .slice none 0 0], .bool a1] rfl (by (try simp only [List.map_toArray, List.map_cons, List.map_nil]); first | done | rfl | (simp only [List.length_drop, List.length_take]; rfl)) ?_; (refine (cubbyref08_numbers.calls k1 x6_1 0 0 0 (⟨#[]⟩ : ByteArray) _ _ ([] : List Int) a1 t171 _ ?side1 ?side2 ?side3 A17.out).mono ?_); (case side1 => exact GW_below hGA.out (by repeat (first | (with_reducible first | exact HB.out | apply below_alloc | apply pw_below_drewN | apply below_drew1 | refine below_set ?_ GE166.out | refine below_set ?_ GE170.out) | exact HB.out))); (case side2 => exact Kd.C_nil _ _); (case side3 => exact Nat.le_refl _); rintro e w22 ⟨v172, rfl, ho0, hb⟩; refine ⟨_, rfl, ?_⟩; have n0_ := Aside0.mk (Kd.R_lower ho0 (below_size (by repeat (first | (with_reducible first | exact HB.out | apply below_alloc | apply pw_below_drewN | apply below_drew1 | refine below_set ?_ GE166.out | refine below_set ?_ GE170.out) | exact HB.out)))); have n1_ := Aside0.mk (blk_below (g := gb166) (o := .cells #[.int .i64 0, .int .i64 0, .int .i64 0, .int .i64 0, .string (⟨#[]⟩ : ByteArray), .slice none 0 0] 72 (0, 0)) (by (with_reducible repeat (first | refine blk_drewN ?_ _ | refine blk_drew ?_ | refine blk_alloc ?_ _)); refine blk_far ?_ NB166_170.out _; (with_reducible repeat (first | refine blk_drewN ?_ _ | refine blk_drew ?_ | refine blk_alloc ?_ _)); refine blk_far ?_ NB166_170.out _; (with_reducible repeat (first | refine blk_drewN ?_ _ | refine blk_drew ?_ | refine blk_alloc ?_ _)); refine blk_far ?_ NB166_170.out _; (with_reducible repeat (first | refine blk_drewN ?_ _ | refine blk_drew ?_ | refine blk_alloc ?_ _)); refine blk_far ?_ NB166_170.out _; (with_reducible repeat (first | refine blk_drewN ?_ _ | refine blk_drew ?_ | refine blk_alloc ?_ _)); refine blk_far ?_ NB166_170.out _; (with_reducible repeat (first | refine blk_drewN ?_ _ | refine blk_drew ?_ | refine blk_alloc ?_ _)); refine blk_far ?_ NB166_170.out _; (with_reducible repeat (first | refine blk_drewN ?_ _ | refine blk_drew ?_ | refine blk_alloc ?_ _)); exact BK166.out) hb); have n2_ := Aside0.mk (blk_below (g := gb170) (o := .cells #[.int .i64 x6_1, .int .i64 0, .int .i64 0, .int .i64 0, .string (⟨#[]⟩ : ByteArray), .slice none 0 0] 72 (0, 0)) (by (with_reducible repeat (first | refine blk_drewN ?_ _ | refine blk_drew ?_ | refine blk_alloc ?_ _)); refine blk_put (cs := #[.int .i64 x6_1, .int .i64 0, .int .i64 0, .int .i64 0, .string (⟨#[]⟩ : ByteArray), .slice none 0 0]) ?_ 5 _ rfl; (with_reducible repeat (first | refine blk_drewN ?_ _ | refine blk_drew ?_ | refine blk_alloc ?_ _)); refine blk_put (cs := #[.int .i64 x6_1, .int .i64 0, .int .i64 0, .int .i64 0, .string (⟨#[]⟩ : ByteArray), .slice none 0 0]) ?_ 4 _ rfl; (with_reducible repeat (first | refine blk_drewN ?_ _ | refine blk_drew ?_ | refine blk_alloc ?_ _)); refine blk_put (cs := #[.int .i64 x6_1, .int .i64 0, .int .i64 0, .int .i64 0, .string (⟨#[]⟩ : ByteArray), .slice none 0 0]) ?_ 3 _ rfl; (with_reducible repeat (first | refine blk_drewN ?_ _ | refine blk_drew ?_ | refine blk_alloc ?_ _)); refine blk_put (cs := #[.int .i64 x6_1, .int .i64 0, .int .i64 0, .int .i64 0, .string (⟨#[]⟩ : ByteArray), .slice none 0 0]) ?_ 2 _ rfl; (with_reducible repeat (first | refine blk_drewN ?_ _ | refine blk_drew ?_ | refine blk_alloc ?_ _)); refine blk_put (cs := #[.int .i64 x6_1, .int .i64 0, .int .i64 0, .int .i64 0, .string (⟨#[]⟩ : ByteArray), .slice none 0 0]) ?_ 1 _ rfl; (with_reducible repeat (first | refine blk_drewN ?_ _ | refine blk_drew ?_ | refine blk_alloc ?_ _)); refine blk_put (cs := #[.int .i64 0, .int .i64 0, .int .i64 0, .int .i64 0, .string (⟨#[]⟩ : ByteArray), .slice none 0 0]) ?_ 0 _ rfl; (with_reducible repeat (first | refine blk_drewN ?_ _ | refine blk_drew ?_ | refine blk_alloc ?_ _)); exact BK170.out) hb); have n3_ := Aside0.mk (below_step (by repeat (first | (with_reducible first | exact HB.out | apply below_alloc | apply pw_below_drewN | apply below_drew1 | refine below_set ?_ GE166.out | refine below_set ?_ GE170.out) | exact HB.out)) hb); clear BK166; clear BK170; clear HB; have HO173 := n0_; have BK166 := n1_; have BK170 := n2_; have HB := n3_; clear n0_ n1_ n2_ n3_; (try clear hb); (try clear hb2); (try clear hk); (try clear hi); (try clear ho0); obtain ⟨Ao23, co23, eo23⟩ := Kd.R_slice HO173.out; subst eo23))
     (try simp only [Act.put, List.setIfInBounds_toArray, List.set_cons_zero, List.set_cons_succ])
     go_cut [9, 10] (fun v9 v10 wc => ∃ (kq : Nat) (x9_17 : Int) (x10_17 : Int), v9 = .int .i64 x9_17 ∧ v10 = .int .i64 x10_17 ∧ Aside0 (cubbyref08_ins.j1 kq l0 a1 x6_1 x9_17 x10_17 x6_1 0 0 0 (⟨#[]⟩ : ByteArray) = some (r1, r2, r3, r4, r5, r6, r7)) ∧ Aside0 (kq ≤ k1) ∧ Aside0 (wc.heap[gb166]? = some (.cells #[.int .i64 0, .int .i64 0, .int .i64 0, .int .i64 0, .string (⟨#[]⟩ : ByteArray), (.slice none 0 0)] 72 (0, 0))) ∧ Aside0 (wc.heap[gb170]? = some (.cells #[.int .i64 x6_1, .int .i64 0, .int .i64 0, .int .i64 0, .string (⟨#[]⟩ : ByteArray), (.slice none 0 0)] 72 (0, 0))) ∧ Aside0 (Below w.heap.size w wc))
     case first =>
      have H := HC18.out
      clear HC18
      by_cases c24 : x6_1 = 11
      ·rw [if_pos c24] at H
       have c24b0 : (x6_1 == 11) = true := beq_iff_eq.mpr c24
       have c24b1 : (x6_1 != 11) = false := bne_eq_false_iff_eq.mpr c24
       clear c24
       (first | rw [c24b0] | (simp only [i64_w, i32_w]; rw [c24b0]) | skip)
       by_cases c25 : a1 = true
       ·subst c25
        have H1 : (cubbyref08_ins.j1 k1 l0 true x6_1 (wrap64 ((t171.length : Int) + 1)) 1 x6_1 0 0 0 (⟨#[]⟩ : ByteArray)) = some (r1, r2, r3, r4, r5, r6, r7) := by rw [if_pos rfl] at H; exact H
        clear H
        have H := H1
        clear H1
        have H' := Aside0.mk H
        clear H
        go_wp2
        go_meet
        case rel => exact ⟨_, (wrap64 ((t171.length : Int) + 1)), (1), (by first | rfl | (simp; done) | (simp [*]; done)), (by first | rfl | (simp; done) | (simp [*]; done)), H', ⟨by have := HK1.out; first | omega | exact Nat.le_refl _⟩, ⟨by (with_reducible repeat (first | refine blk_drewN ?_ _ | refine blk_drew ?_ | refine blk_alloc ?_ _)); exact BK166.out⟩, ⟨by (with_reducible repeat (first | refine blk_drewN ?_ _ | refine blk_drew ?_ | refine blk_alloc ?_ _)); exact BK170.out⟩, ⟨by repeat (first | (with_reducible first | exact HB.out | apply below_alloc | apply pw_below_drewN | apply below_drew1 | refine below_set ?_ GE166.out | refine below_set ?_ GE170.out) | exact HB.out)⟩⟩
       ·replace c25 := Bool.eq_false_iff.mpr c25
        subst c25
        have H1 : (cubbyref08_ins.j1 k1 l0 false x6_1 (mx 2 (wrap64 ((l0.length : Int) - 1))) 1 x6_1 0 0 0 (⟨#[]⟩ : ByteArray)) = some (r1, r2, r3, r4, r5, r6, r7) := by rw [if_neg (show ¬ (false = true) by decide)] at H; exact H
        clear H
        have H := H1
        clear H1
        obtain ⟨ji26, hji26⟩ : ∃ j_ : Int, (mx 2 (wrap64 ((l0.length : Int) - 1))) = j_ := ⟨_, rfl⟩
        replace H : (cubbyref08_ins.j1 k1 l0 false x6_1 ji26 1 x6_1 0 0 0 (⟨#[]⟩ : ByteArray)) = some (r1, r2, r3, r4, r5, r6, r7) := by first | (rw [hji26] at H; exact H) | (simp only [hji26] at H ⊢; exact H)
        have hji26_ : (if 2 < (wrap64 ((l0.length : Int) - 1)) then (wrap64 ((l0.length : Int) - 1)) else 2) = ji26 := hji26
        have H' := Aside0.mk H
        clear H
        go_wp2
        go_meet
        case rel => exact ⟨_, (ji26), (1), (by first | rfl | (simp; done) | (simp only [← hji26] <;> (first | rfl | (simp; done) | (simp; unfold mx; omega))) | (simp [*]; done)), (by first | rfl | (simp; done) | (simp [*]; done)), H', ⟨by have := HK1.out; first | omega | exact Nat.le_refl _⟩, ⟨by (with_reducible repeat (first | refine blk_drewN ?_ _ | refine blk_drew ?_ | refine blk_alloc ?_ _)); exact BK166.out⟩, ⟨by (with_reducible repeat (first | refine blk_drewN ?_ _ | refine blk_drew ?_ | refine blk_alloc ?_ _)); exact BK170.out⟩, ⟨by repeat (first | (with_reducible first | exact HB.out | apply below_alloc | apply pw_below_drewN | apply below_drew1 | refine below_set ?_ GE166.out | refine below_set ?_ GE170.out) | exact HB.out)⟩⟩
      ·rw [if_neg c24] at H
       have c24b0 : (x6_1 == 11) = false := beq_eq_false_iff_ne.mpr c24
       have c24b1 : (x6_1 != 11) = true := bne_iff_ne.mpr c24
       (first | rw [c24b0] | (simp only [i64_w, i32_w]; rw [c24b0]) | skip)
       have H' := Aside0.mk H
       clear H
       go_wp2
       go_meet
       case rel => exact ⟨_, ((t171.length : Int)), ((-1)), (by first | rfl | (simp; done) | (simp [*]; done)), (by first | rfl | (simp; done) | (simp [*]; done)), H', ⟨by have := HK1.out; first | omega | exact Nat.le_refl _⟩, ⟨by (with_reducible repeat (first | refine blk_drewN ?_ _ | refine blk_drew ?_ | refine blk_alloc ?_ _)); exact BK166.out⟩, ⟨by (with_reducible repeat (first | refine blk_drewN ?_ _ | refine blk_drew ?_ | refine blk_alloc ?_ _)); exact BK170.out⟩, ⟨by repeat (first | (with_reducible first | exact HB.out | apply below_alloc | apply pw_below_drewN | apply below_drew1 | refine below_set ?_ GE166.out | refine below_set ?_ GE170.out) | exact HB.out)⟩⟩
     case rest =>
      clear HC18
      try clear c1
      try clear p1
      try clear q1
      try clear hx1
      try clear qi1
      try clear c2
      try clear p2
      try clear c4
      try clear c4b0
      try clear c5
      try clear c6
      try clear c6b0
      try clear c6b1
      try clear p6
      try clear c7
      try clear c7b0
      try clear c7b1
      try clear c8
      try clear c8b0
      try clear c8b1
      try clear c15
      try clear c15b0
      try clear p16
      try clear q16
      try clear hx16
      try clear qi16
      try clear c20
      try clear c24
      try clear c24b0
      try clear c24b1
      try clear c25
      try clear hcz16_0
      try clear hcz16_1
      try clear hcz16_2
      try clear hcz16_3
      try clear hcz16_4
      try clear hcz16_5
      try clear hcz21_0
      try clear hcz21_1
      try clear hcz21_2
      try clear hcz21_3
      try clear hcz21_4
      try clear hcz21_5
      try clear hfz16_0
      try clear hfz16_1
      try clear hfz16_2
      try clear hfz16_3
      try clear hfz16_4
      try clear hfz16_5
      try clear hfz21_0
      try clear hfz21_1
      try clear hfz21_2
      try clear hfz21_3
      try clear hfz21_4
      try clear hfz21_5
      try clear hx168_0
      try clear hx169_0
      try clear p168
      try clear p169
      try clear p2
      try clear q168
      try clear q169
      obtain ⟨kq, x9_17, x10_17, rfl, rfl, HA, HJ17, BK166, BK170, HB⟩ := hcut
      cases kq with
      | zero => exact absurd HA.out (by simp [cubbyref08_ins.j1])
      | succ kj17 =>
       have H := HA.out
       clear HA
       simp only [cubbyref08_ins.j1] at H
       replace H := Option.bind_eq_some_iff.mp H
       obtain ⟨⟨t174, t175, t176⟩, A270, H⟩ := H
       replace H : (if t176 = 0 then (if x6_1 = 3 then (cubbyref08_ins.j2 kj17 a1 t174 x6_1 (x6_1 == 3) x6_1 0 0 0 t175) else (if x6_1 = 4 then (cubbyref08_ins.j2 kj17 a1 t174 x6_1 (x6_1 == 4) x6_1 0 0 0 t175) else (if x6_1 = 5 then (cubbyref08_ins.j2 kj17 a1 t174 x6_1 (x6_1 == 5) x6_1 0 0 0 t175) else (if x6_1 = 6 then (cubbyref08_ins.j2 kj17 a1 t174 x6_1 (x6_1 == 6) x6_1 0 0 0 t175) else (cubbyref08_ins.j2 kj17 a1 t174 x6_1 (x6_1 == 7) x6_1 0 0 0 t175))))) else (some (0, 0, 0, 0, (⟨#[]⟩ : ByteArray), ([] : List Int), t176))) = some (r1, r2, r3, r4, r5, r6, r7) := H
       have A27 := Aside0.mk A270
       clear A270
       by_cases c28 : t176 = 0
       ·rw [if_pos c28] at H
        have c28b0 : (t176 == 0) = true := beq_iff_eq.mpr c28
        have c28b1 : (t176 != 0) = false := bne_eq_false_iff_eq.mpr c28
        clear c28
        have HC29 := Aside0.mk H
        clear H
        go_upto_if 74 with (first | ((with_reducible refine gate_callee (f := 53) rfl ?_); refine goesL_ (some 55) rfl rfl Tryd.func53 (by kernel_rfl) rfl #[.slice A0 l0.length c0, .int .i64 x9_17, .int .i64 x10_17] rfl (by (try simp only [List.map_toArray, List.map_cons, List.map_nil]); first | done | rfl | (simp only [List.length_drop, List.length_take]; rfl)) ?_; (with_reducible refine (cubbyref08_read.calls kj17 _ _ l0 x9_17 x10_17 t174 t175 t176 _ ?side1 ?side2 ?side3 A27.out).mono ?_); (case side1 => exact GW_below hGA.out (by repeat (first | (with_reducible first | exact HB.out | apply below_alloc | apply pw_below_drewN | apply below_drew1 | refine below_set ?_ GE166.out | refine below_set ?_ GE170.out) | exact HB.out))); (case side2 => repeat (first | exact (Kd.C_below HR0.out HB.out) | (with_reducible refine Kd.C_alloc ?_ _) | (with_reducible refine Kd.C_drewN ?_ _) | (with_reducible refine Kd.C_drew ?_))); (case side3 => exact HC0.out); rintro e w30 ⟨v177, rfl, ho0, hb⟩; refine ⟨_, rfl, ?_⟩; have n0_ := Aside0.mk (Kd.R_lower ho0 (below_size (by repeat (first | (with_reducible first | exact HB.out | apply below_alloc | apply pw_below_drewN | apply below_drew1 | refine below_set ?_ GE166.out | refine below_set ?_ GE170.out) | exact HB.out)))); have n1_ := Aside0.mk (blk_below (g := gb166) (o := .cells #[.int .i64 0, .int .i64 0, .int .i64 0, .int .i64 0, .string (⟨#[]⟩ : ByteArray), .slice none 0 0] 72 (0, 0)) (by (with_reducible repeat (first | refine blk_drewN ?_ _ | refine blk_drew ?_ | refine blk_alloc ?_ _)); exact BK166.out) hb); have n2_ := Aside0.mk (blk_below (g := gb170) (o := .cells #[.int .i64 x6_1, .int .i64 0, .int .i64 0, .int .i64 0, .string (⟨#[]⟩ : ByteArray), .slice none 0 0] 72 (0, 0)) (by (with_reducible repeat (first | refine blk_drewN ?_ _ | refine blk_drew ?_ | refine blk_alloc ?_ _)); exact BK170.out) hb); have n3_ := Aside0.mk (below_step (by repeat (first | (with_reducible first | exact HB.out | apply below_alloc | apply pw_below_drewN | apply below_drew1 | refine below_set ?_ GE166.out | refine below_set ?_ GE170.out) | exact HB.out)) hb); clear BK166; clear BK170; clear HB; have HO178 := n0_; have BK166 := n1_; have BK170 := n2_; have HB := n3_; clear n0_ n1_ n2_ n3_; (try clear hb); (try clear hb2); (try clear hk); (try clear hi); (try clear ho0); have hnb31 := NB170_166.out; have hnc31 := NB166_170.out; have hcz32_0 : w30.cell? ⟨gb170, 0, none⟩ = some (.int .i64 x6_1) := (blk_cell BK170.out 0).trans rfl; have hcz32_1 : w30.cell? ⟨gb170, 1, none⟩ = some (.int .i64 0) := (blk_cell BK170.out 1).trans rfl; have hcz32_2 : w30.cell? ⟨gb170, 2, none⟩ = some (.int .i64 0) := (blk_cell BK170.out 2).trans rfl; have hcz32_3 : w30.cell? ⟨gb170, 3, none⟩ = some (.int .i64 0) := (blk_cell BK170.out 3).trans rfl; have hcz32_4 : w30.cell? ⟨gb170, 4, none⟩ = some (.string (⟨#[]⟩ : ByteArray)) := (blk_cell BK170.out 4).trans rfl; have hcz32_5 : w30.cell? ⟨gb170, 5, none⟩ = some (.slice none 0 0) := (blk_cell BK170.out 5).trans rfl; have hfz32_0 := blk_frozen BK170.out 0; have hfz32_1 := blk_frozen BK170.out 1; have hfz32_2 := blk_frozen BK170.out 2; have hfz32_3 := blk_frozen BK170.out 3; have hfz32_4 := blk_frozen BK170.out 4; have hfz32_5 := blk_frozen BK170.out 5))
        (try simp only [Act.put, List.setIfInBounds_toArray, List.set_cons_zero, List.set_cons_succ])
        go_cut [74] (fun v74 wc => ∃ (kq : Nat) (x74_28 : Bool), v74 = .bool x74_28 ∧ Aside0 (cubbyref08_ins.j2 kq a1 t174 x6_1 x74_28 x6_1 0 0 0 t175 = some (r1, r2, r3, r4, r5, r6, r7)) ∧ Aside0 (kq ≤ kj17) ∧ Aside0 (Kd.R (Kd.int .i64) 3 wc w.heap.size (fun _ => True) v177 t174) ∧ Aside0 (wc.heap[gb166]? = some (.cells #[.int .i64 0, .int .i64 0, .int .i64 0, .int .i64 0, .string (⟨#[]⟩ : ByteArray), (.slice none 0 0)] 72 (0, 0))) ∧ Aside0 (wc.heap[gb170]? = some (.cells #[.int .i64 x6_1, .int .i64 0, .int .i64 0, .int .i64 0, .string t175, (.slice none 0 0)] 72 (0, 0))) ∧ Aside0 (Below w.heap.size w wc))
        case first =>
         have H := HC29.out
         clear HC29
         by_cases c33 : x6_1 = 3
         ·rw [if_pos c33] at H
          have c33b0 : (x6_1 == 3) = true := beq_iff_eq.mpr c33
          have c33b1 : (x6_1 != 3) = false := bne_eq_false_iff_eq.mpr c33
          clear c33
          (first | rw [c33b0] | (simp only [i64_w, i32_w]; rw [c33b0]) | skip)
          have H' := Aside0.mk H
          clear H
          go_wp2
          go_meet
          case rel => exact ⟨_, ((x6_1 == 3)), (by first | rfl | (simp; done) | (simp [*]; done)), H', ⟨by have := HK1.out; have := HJ17.out; first | omega | exact Nat.le_refl _⟩, ⟨by (with_reducible repeat (first | apply Kd.R_alloc | apply Kd.R_drewN | apply Kd.R_drew)); exact Kd.R_mono (Kd.R_far (p := ⟨gb170, 4, none⟩) (Kd.R_types HO178.out BK170.out (by decide)) (fun _ hk => hk.2) (.string t175)) (fun _ hk => trivial)⟩, ⟨by (with_reducible repeat (first | refine blk_drewN ?_ _ | refine blk_drew ?_ | refine blk_alloc ?_ _)); refine blk_far ?_ NB166_170.out _; (with_reducible repeat (first | refine blk_drewN ?_ _ | refine blk_drew ?_ | refine blk_alloc ?_ _)); exact BK166.out⟩, ⟨by (with_reducible repeat (first | refine blk_drewN ?_ _ | refine blk_drew ?_ | refine blk_alloc ?_ _)); refine blk_put (cs := #[.int .i64 x6_1, .int .i64 0, .int .i64 0, .int .i64 0, .string (⟨#[]⟩ : ByteArray), .slice none 0 0]) ?_ 4 _ rfl; (with_reducible repeat (first | refine blk_drewN ?_ _ | refine blk_drew ?_ | refine blk_alloc ?_ _)); exact BK170.out⟩, ⟨by repeat (first | (with_reducible first | exact HB.out | apply below_alloc | apply pw_below_drewN | apply below_drew1 | refine below_set ?_ GE166.out | refine below_set ?_ GE170.out) | exact HB.out)⟩⟩
         ·rw [if_neg c33] at H
          have c33b0 : (x6_1 == 3) = false := beq_eq_false_iff_ne.mpr c33
          have c33b1 : (x6_1 != 3) = true := bne_iff_ne.mpr c33
          (first | rw [c33b0] | (simp only [i64_w, i32_w]; rw [c33b0]) | skip)
          by_cases c34 : x6_1 = 4
          ·rw [if_pos c34] at H
           have c34b0 : (x6_1 == 4) = true := beq_iff_eq.mpr c34
           have c34b1 : (x6_1 != 4) = false := bne_eq_false_iff_eq.mpr c34
           clear c34
           have H' := Aside0.mk H
           clear H
           go_wp2
           go_meet
           case rel => exact ⟨_, ((x6_1 == 4)), (by first | rfl | (simp; done) | (simp [*]; done)), H', ⟨by have := HK1.out; have := HJ17.out; first | omega | exact Nat.le_refl _⟩, ⟨by (with_reducible repeat (first | apply Kd.R_alloc | apply Kd.R_drewN | apply Kd.R_drew)); exact Kd.R_mono (Kd.R_far (p := ⟨gb170, 4, none⟩) (Kd.R_types HO178.out BK170.out (by decide)) (fun _ hk => hk.2) (.string t175)) (fun _ hk => trivial)⟩, ⟨by (with_reducible repeat (first | refine blk_drewN ?_ _ | refine blk_drew ?_ | refine blk_alloc ?_ _)); refine blk_far ?_ NB166_170.out _; (with_reducible repeat (first | refine blk_drewN ?_ _ | refine blk_drew ?_ | refine blk_alloc ?_ _)); exact BK166.out⟩, ⟨by (with_reducible repeat (first | refine blk_drewN ?_ _ | refine blk_drew ?_ | refine blk_alloc ?_ _)); refine blk_put (cs := #[.int .i64 x6_1, .int .i64 0, .int .i64 0, .int .i64 0, .string (⟨#[]⟩ : ByteArray), .slice none 0 0]) ?_ 4 _ rfl; (with_reducible repeat (first | refine blk_drewN ?_ _ | refine blk_drew ?_ | refine blk_alloc ?_ _)); exact BK170.out⟩, ⟨by repeat (first | (with_reducible first | exact HB.out | apply below_alloc | apply pw_below_drewN | apply below_drew1 | refine below_set ?_ GE166.out | refine below_set ?_ GE170.out) | exact HB.out)⟩⟩
          ·rw [if_neg c34] at H
           have c34b0 : (x6_1 == 4) = false := beq_eq_false_iff_ne.mpr c34
           have c34b1 : (x6_1 != 4) = true := bne_iff_ne.mpr c34
           by_cases c35 : x6_1 = 5
           ·rw [if_pos c35] at H
            have c35b0 : (x6_1 == 5) = true := beq_iff_eq.mpr c35
            have c35b1 : (x6_1 != 5) = false := bne_eq_false_iff_eq.mpr c35
            clear c35
            have H' := Aside0.mk H
            clear H
            go_wp2
            go_meet
            case rel => exact ⟨_, ((x6_1 == 5)), (by first | rfl | (simp; done) | (simp [*]; done)), H', ⟨by have := HK1.out; have := HJ17.out; first | omega | exact Nat.le_refl _⟩, ⟨by (with_reducible repeat (first | apply Kd.R_alloc | apply Kd.R_drewN | apply Kd.R_drew)); exact Kd.R_mono (Kd.R_far (p := ⟨gb170, 4, none⟩) (Kd.R_types HO178.out BK170.out (by decide)) (fun _ hk => hk.2) (.string t175)) (fun _ hk => trivial)⟩, ⟨by (with_reducible repeat (first | refine blk_drewN ?_ _ | refine blk_drew ?_ | refine blk_alloc ?_ _)); refine blk_far ?_ NB166_170.out _; (with_reducible repeat (first | refine blk_drewN ?_ _ | refine blk_drew ?_ | refine blk_alloc ?_ _)); exact BK166.out⟩, ⟨by (with_reducible repeat (first | refine blk_drewN ?_ _ | refine blk_drew ?_ | refine blk_alloc ?_ _)); refine blk_put (cs := #[.int .i64 x6_1, .int .i64 0, .int .i64 0, .int .i64 0, .string (⟨#[]⟩ : ByteArray), .slice none 0 0]) ?_ 4 _ rfl; (with_reducible repeat (first | refine blk_drewN ?_ _ | refine blk_drew ?_ | refine blk_alloc ?_ _)); exact BK170.out⟩, ⟨by repeat (first | (with_reducible first | exact HB.out | apply below_alloc | apply pw_below_drewN | apply below_drew1 | refine below_set ?_ GE166.out | refine below_set ?_ GE170.out) | exact HB.out)⟩⟩
           ·rw [if_neg c35] at H
            have c35b0 : (x6_1 == 5) = false := beq_eq_false_iff_ne.mpr c35
            have c35b1 : (x6_1 != 5) = true := bne_iff_ne.mpr c35
            by_cases c36 : x6_1 = 6
            ·rw [if_pos c36] at H
             have c36b0 : (x6_1 == 6) = true := beq_iff_eq.mpr c36
             have c36b1 : (x6_1 != 6) = false := bne_eq_false_iff_eq.mpr c36
             clear c36
             have H' := Aside0.mk H
             clear H
             go_wp2
             go_meet
             case rel => exact ⟨_, ((x6_1 == 6)), (by first | rfl | (simp; done) | (simp [*]; done)), H', ⟨by have := HK1.out; have := HJ17.out; first | omega | exact Nat.le_refl _⟩, ⟨by (with_reducible repeat (first | apply Kd.R_alloc | apply Kd.R_drewN | apply Kd.R_drew)); exact Kd.R_mono (Kd.R_far (p := ⟨gb170, 4, none⟩) (Kd.R_types HO178.out BK170.out (by decide)) (fun _ hk => hk.2) (.string t175)) (fun _ hk => trivial)⟩, ⟨by (with_reducible repeat (first | refine blk_drewN ?_ _ | refine blk_drew ?_ | refine blk_alloc ?_ _)); refine blk_far ?_ NB166_170.out _; (with_reducible repeat (first | refine blk_drewN ?_ _ | refine blk_drew ?_ | refine blk_alloc ?_ _)); exact BK166.out⟩, ⟨by (with_reducible repeat (first | refine blk_drewN ?_ _ | refine blk_drew ?_ | refine blk_alloc ?_ _)); refine blk_put (cs := #[.int .i64 x6_1, .int .i64 0, .int .i64 0, .int .i64 0, .string (⟨#[]⟩ : ByteArray), .slice none 0 0]) ?_ 4 _ rfl; (with_reducible repeat (first | refine blk_drewN ?_ _ | refine blk_drew ?_ | refine blk_alloc ?_ _)); exact BK170.out⟩, ⟨by repeat (first | (with_reducible first | exact HB.out | apply below_alloc | apply pw_below_drewN | apply below_drew1 | refine below_set ?_ GE166.out | refine below_set ?_ GE170.out) | exact HB.out)⟩⟩
            ·rw [if_neg c36] at H
             have c36b0 : (x6_1 == 6) = false := beq_eq_false_iff_ne.mpr c36
             have c36b1 : (x6_1 != 6) = true := bne_iff_ne.mpr c36
             have H' := Aside0.mk H
             clear H
             go_wp2
             go_meet
             case rel => exact ⟨_, ((x6_1 == 7)), (by first | rfl | (simp; done) | (simp [*]; done)), H', ⟨by have := HK1.out; have := HJ17.out; first | omega | exact Nat.le_refl _⟩, ⟨by (with_reducible repeat (first | apply Kd.R_alloc | apply Kd.R_drewN | apply Kd.R_drew)); exact Kd.R_mono (Kd.R_far (p := ⟨gb170, 4, none⟩) (Kd.R_types HO178.out BK170.out (by decide)) (fun _ hk => hk.2) (.string t175)) (fun _ hk => trivial)⟩, ⟨by (with_reducible repeat (first | refine blk_drewN ?_ _ | refine blk_drew ?_ | refine blk_alloc ?_ _)); refine blk_far ?_ NB166_170.out _; (with_reducible repeat (first | refine blk_drewN ?_ _ | refine blk_drew ?_ | refine blk_alloc ?_ _)); exact BK166.out⟩, ⟨by (with_reducible repeat (first | refine blk_drewN ?_ _ | refine blk_drew ?_ | refine blk_alloc ?_ _)); refine blk_put (cs := #[.int .i64 x6_1, .int .i64 0, .int .i64 0, .int .i64 0, .string (⟨#[]⟩ : ByteArray), .slice none 0 0]) ?_ 4 _ rfl; (with_reducible repeat (first | refine blk_drewN ?_ _ | refine blk_drew ?_ | refine blk_alloc ?_ _)); exact BK170.out⟩, ⟨by repeat (first | (with_reducible first | exact HB.out | apply below_alloc | apply pw_below_drewN | apply below_drew1 | refine below_set ?_ GE166.out | refine below_set ?_ GE170.out) | exact HB.out)⟩⟩
        case rest =>
         clear HC29
         try clear c1
         try clear p1
         try clear q1
         try clear hx1
         try clear qi1
         try clear c2
         try clear p2
         try clear c3
         try clear c4
         try clear c4b0
         try clear c5
         try clear c6
         try clear c6b0
         try clear c6b1
         try clear p6
         try clear c7
         try clear c7b0
         try clear c7b1
         try clear c8
         try clear c8b0
         try clear c8b1
         try clear c15
         try clear c15b0
         try clear p16
         try clear q16
         try clear hx16
         try clear qi16
         try clear c20
         try clear c24
         try clear c24b0
         try clear c24b1
         try clear c25
         try clear c28
         try clear c28b0
         try clear c28b1
         try clear c31
         try clear c33
         try clear c33b0
         try clear c33b1
         try clear c34
         try clear c34b0
         try clear c34b1
         try clear c35
         try clear c35b0
         try clear c35b1
         try clear c36
         try clear c36b0
         try clear c36b1
         try clear hcz16_0
         try clear hcz16_1
         try clear hcz16_2
         try clear hcz16_3
         try clear hcz16_4
         try clear hcz16_5
         try clear hcz21_0
         try clear hcz21_1
         try clear hcz21_2
         try clear hcz21_3
         try clear hcz21_4
         try clear hcz21_5
         try clear hcz32_0
         try clear hcz32_1
         try clear hcz32_2
         try clear hcz32_3
         try clear hcz32_4
         try clear hcz32_5
         try clear hfz16_0
         try clear hfz16_1
         try clear hfz16_2
         try clear hfz16_3
         try clear hfz16_4
         try clear hfz16_5
         try clear hfz21_0
         try clear hfz21_1
         try clear hfz21_2
         try clear hfz21_3
         try clear hfz21_4
         try clear hfz21_5
         try clear hfz32_0
         try clear hfz32_1
         try clear hfz32_2
         try clear hfz32_3
         try clear hfz32_4
         try clear hfz32_5
         try clear hx168_0
         try clear hx169_0
         try clear p1
         try clear p16
         try clear p168
         try clear p169
         try clear p2
         try clear p6
         try clear q1
         try clear q16
         try clear q168
         try clear q169
         obtain ⟨kq, x74_28, rfl, HA, HJ28, HO_11, BK166, BK170, HB⟩ := hcut
         cases kq with
         | zero => exact absurd HA.out (by simp [cubbyref08_ins.j2])
         | succ kj28 =>
          have H := HA.out
          clear HA
          simp only [cubbyref08_ins.j2] at H
          by_cases c37 : x74_28 = true
          ·subst c37
           have H1 : (if 0 < (t174.length : Int) then (if 1 < (t174.length : Int) then (if 2 < (t174.length : Int) then (some (x6_1, rd t174 0, rd t174 1, rd t174 2, t175, ([] : List Int), 0)) else (none)) else (none)) else (none)) = some (r1, r2, r3, r4, r5, r6, r7) := by rw [if_pos rfl] at H; exact H
           clear H
           have H := H1
           clear H1
           by_cases c38 : 0 < (t174.length : Int)
           ·rw [if_pos c38] at H
            have c38b0 : decide (0 < (t174.length : Int)) = true := decide_eq_true c38
            have c38b1 : decide (0 < t174.length) = true := decide_eq_true (by omega)
            clear c38
            by_cases c39 : 1 < (t174.length : Int)
            ·rw [if_pos c39] at H
             have c39b0 : decide (1 < (t174.length : Int)) = true := decide_eq_true c39
             have c39b1 : decide (1 < t174.length) = true := decide_eq_true (by omega)
             clear c39
             by_cases c40 : 2 < (t174.length : Int)
             ·rw [if_pos c40] at H
              have c40b0 : decide (2 < (t174.length : Int)) = true := decide_eq_true c40
              have c40b1 : decide (2 < t174.length) = true := decide_eq_true (by omega)
              clear c40
              simp only [Option.some.injEq, Prod.mk.injEq] at H
              obtain ⟨rfl, rfl, rfl, rfl, rfl, rfl, rfl⟩ := H
              obtain ⟨Ao41, co41, eo41⟩ := Kd.R_slice HO_11.out
              subst eo41
              have p179 : 0 ≤ (0 : Int) := (by omega)
              have q179 : 0 < (t174.length : Int) := of_decide_eq_true (by first | (with_reducible assumption) | assumption)
              obtain ⟨ad179, e179, hx179_0⟩ := Kd.at_int (Kd.R_reads' HO_11.out).2.2 0 p179 q179
              cases e179
              have qi179 : (0 < t174.length) = True := eq_true (by omega)
              (try rw [show ((0 : Int)).toNat = 0 from rfl] at hx179_0)
              (try rw [Addr.add_zero'] at hx179_0)
              replace p179 := eq_true p179
              replace q179 := eq_true q179
              have hnb42 := NB170_166.out
              have hnc42 := NB166_170.out
              have hcz43_0 : wc.cell? ⟨gb170, 0, none⟩ = some (.int .i64 x6_1) := (blk_cell BK170.out 0).trans rfl
              have hcz43_1 : wc.cell? ⟨gb170, 1, none⟩ = some (.int .i64 0) := (blk_cell BK170.out 1).trans rfl
              have hcz43_2 : wc.cell? ⟨gb170, 2, none⟩ = some (.int .i64 0) := (blk_cell BK170.out 2).trans rfl
              have hcz43_3 : wc.cell? ⟨gb170, 3, none⟩ = some (.int .i64 0) := (blk_cell BK170.out 3).trans rfl
              have hcz43_4 : wc.cell? ⟨gb170, 4, none⟩ = some (.string t175) := (blk_cell BK170.out 4).trans rfl
              have hcz43_5 : wc.cell? ⟨gb170, 5, none⟩ = some (.slice none 0 0) := (blk_cell BK170.out 5).trans rfl
              have hfz43_0 := blk_frozen BK170.out 0
              have hfz43_1 := blk_frozen BK170.out 1
              have hfz43_2 := blk_frozen BK170.out 2
              have hfz43_3 := blk_frozen BK170.out 3
              have hfz43_4 := blk_frozen BK170.out 4
              have hfz43_5 := blk_frozen BK170.out 5
              have p180 : 0 ≤ (1 : Int) := (by omega)
              have q180 : 1 < (t174.length : Int) := of_decide_eq_true (by first | (with_reducible assumption) | assumption)
              obtain ⟨ad180, e180, hx180_0⟩ := Kd.at_int (Kd.R_reads' HO_11.out).2.2 1 p180 q180
              obtain rfl : ad179 = ad180 := (by injection e180)
              (try simp only [show (1 : Int).toNat = 1 from rfl, Nat.reduceMul, Nat.reduceEqDiff, Go.Addr.add, ↓reduceIte] at hx180_0)
              have qi180 : (1 < t174.length) = True := eq_true (by omega)
              (try rw [show ((1 : Int)).toNat = 1 from rfl] at hx180_0)
              have hn180_0 : ad179.block ≠ gb170 := Kd.own_blk (Kd.R_ne HO_11.out BK170.out (by decide))
              replace hx180_0 := (cell_far (p := ⟨gb170, 1, none⟩) (by first | (rw [add_block]; exact hn180_0) | (show (Addr.add _ _).block ≠ _; rw [add_block]; exact hn180_0) | exact hn180_0) (.int .i64 (rd t174 0))).trans hx180_0
              clear hn180_0
              replace p180 := eq_true p180
              replace q180 := eq_true q180
              have p181 : 0 ≤ (2 : Int) := (by omega)
              have q181 : 2 < (t174.length : Int) := of_decide_eq_true (by first | (with_reducible assumption) | assumption)
              obtain ⟨ad181, e181, hx181_0⟩ := Kd.at_int (Kd.R_reads' HO_11.out).2.2 2 p181 q181
              obtain rfl : ad179 = ad181 := (by injection e181)
              (try simp only [show (2 : Int).toNat = 2 from rfl, Nat.reduceMul, Nat.reduceEqDiff, Go.Addr.add, ↓reduceIte] at hx181_0)
              have qi181 : (2 < t174.length) = True := eq_true (by omega)
              (try rw [show ((2 : Int)).toNat = 2 from rfl] at hx181_0)
              have hn181_0 : ad179.block ≠ gb170 := Kd.own_blk (Kd.R_ne HO_11.out BK170.out (by decide))
              have hn181_1 : ad179.block ≠ gb170 := Kd.own_blk (Kd.R_ne HO_11.out BK170.out (by decide))
              replace hx181_0 := (cell_far (p := ⟨gb170, 1, none⟩) (by first | (rw [add_block]; exact hn181_0) | (show (Addr.add _ _).block ≠ _; rw [add_block]; exact hn181_0) | exact hn181_0) (.int .i64 (rd t174 0))).trans hx181_0
              replace hx181_0 := (cell_far (p := ⟨gb170, 2, none⟩) (by first | (rw [add_block]; exact hn181_1) | (show (Addr.add _ _).block ≠ _; rw [add_block]; exact hn181_1) | exact hn181_1) (.int .i64 (rd t174 1))).trans hx181_0
              clear hn181_0
              clear hn181_1
              replace p181 := eq_true p181
              replace q181 := eq_true q181
              have hcz44_0 : wc.cell? ⟨gb166, 0, none⟩ = some (.int .i64 0) := (blk_cell BK166.out 0).trans rfl
              have hcz44_1 : wc.cell? ⟨gb166, 1, none⟩ = some (.int .i64 0) := (blk_cell BK166.out 1).trans rfl
              have hcz44_2 : wc.cell? ⟨gb166, 2, none⟩ = some (.int .i64 0) := (blk_cell BK166.out 2).trans rfl
              have hcz44_3 : wc.cell? ⟨gb166, 3, none⟩ = some (.int .i64 0) := (blk_cell BK166.out 3).trans rfl
              have hcz44_4 : wc.cell? ⟨gb166, 4, none⟩ = some (.string (⟨#[]⟩ : ByteArray)) := (blk_cell BK166.out 4).trans rfl
              have hcz44_5 : wc.cell? ⟨gb166, 5, none⟩ = some (.slice none 0 0) := (blk_cell BK166.out 5).trans rfl
              have hfz44_0 := blk_frozen BK166.out 0
              have hfz44_1 := blk_frozen BK166.out 1
              have hfz44_2 := blk_frozen BK166.out 2
              have hfz44_3 := blk_frozen BK166.out 3
              have hfz44_4 := blk_frozen BK166.out 4
              have hfz44_5 := blk_frozen BK166.out 5
              go_wp2
              refine bodyPost_ret (results_ct rfl _ _ gb166 72 #[.int .i64 x6_1, .int .i64 (rd t174 0), .int .i64 (rd t174 1), .int .i64 (rd t174 2), .string t175, .slice none 0 0] (0, 0) _ rfl (by (with_reducible repeat (first | refine blk_drewN ?_ _ | refine blk_drew ?_ | refine blk_alloc ?_ _)); refine blk_put (cs := #[.int .i64 x6_1, .int .i64 (rd t174 0), .int .i64 (rd t174 1), .int .i64 (rd t174 2), .string t175, .slice none 0 0]) ?_ 5 _ rfl; (with_reducible repeat (first | refine blk_drewN ?_ _ | refine blk_drew ?_ | refine blk_alloc ?_ _)); refine blk_put (cs := #[.int .i64 x6_1, .int .i64 (rd t174 0), .int .i64 (rd t174 1), .int .i64 (rd t174 2), .string (⟨#[]⟩ : ByteArray), .slice none 0 0]) ?_ 4 _ rfl; (with_reducible repeat (first | refine blk_drewN ?_ _ | refine blk_drew ?_ | refine blk_alloc ?_ _)); refine blk_put (cs := #[.int .i64 x6_1, .int .i64 (rd t174 0), .int .i64 (rd t174 1), .int .i64 0, .string (⟨#[]⟩ : ByteArray), .slice none 0 0]) ?_ 3 _ rfl; (with_reducible repeat (first | refine blk_drewN ?_ _ | refine blk_drew ?_ | refine blk_alloc ?_ _)); refine blk_put (cs := #[.int .i64 x6_1, .int .i64 (rd t174 0), .int .i64 0, .int .i64 0, .string (⟨#[]⟩ : ByteArray), .slice none 0 0]) ?_ 2 _ rfl; (with_reducible repeat (first | refine blk_drewN ?_ _ | refine blk_drew ?_ | refine blk_alloc ?_ _)); refine blk_put (cs := #[.int .i64 x6_1, .int .i64 0, .int .i64 0, .int .i64 0, .string (⟨#[]⟩ : ByteArray), .slice none 0 0]) ?_ 1 _ rfl; (with_reducible repeat (first | refine blk_drewN ?_ _ | refine blk_drew ?_ | refine blk_alloc ?_ _)); refine blk_put (cs := #[.int .i64 0, .int .i64 0, .int .i64 0, .int .i64 0, .string (⟨#[]⟩ : ByteArray), .slice none 0 0]) ?_ 0 _ rfl; (with_reducible repeat (first | refine blk_drewN ?_ _ | refine blk_drew ?_ | refine blk_alloc ?_ _)); refine blk_far ?_ NB166_170.out _; (with_reducible repeat (first | refine blk_drewN ?_ _ | refine blk_drew ?_ | refine blk_alloc ?_ _)); refine blk_far ?_ NB166_170.out _; (with_reducible repeat (first | refine blk_drewN ?_ _ | refine blk_drew ?_ | refine blk_alloc ?_ _)); refine blk_far ?_ NB166_170.out _; (with_reducible repeat (first | refine blk_drewN ?_ _ | refine blk_drew ?_ | refine blk_alloc ?_ _)); exact BK166.out) Tryd.underlying72 rfl (by kernel_rfl)) rfl ?_
              exact ⟨_, by first | rfl | (simp [errW_none, errW_some] <;> rfl) | (simp [*, errW_none, errW_some] <;> rfl), by first | exact Kd.R_nil _ _ _ _ _ | exact Kd.N_nil _ _ _ _ _ | exact Kd.V_nil _ _ _ _ _ | exact Kd.Q_nil _ _ _ _ _ | exact Kd.S_nil _ _ _ _ _, by repeat (first | (with_reducible first | exact HB.out | apply below_alloc | apply pw_below_drewN | apply below_drew1 | refine below_set ?_ GE166.out | refine below_set ?_ GE170.out) | exact HB.out)⟩
             ·rw [if_neg c40] at H
              exact absurd H (by simp)
            ·rw [if_neg c39] at H
             exact absurd H (by simp)
           ·rw [if_neg c38] at H
            exact absurd H (by simp)
          ·replace c37 := Bool.eq_false_iff.mpr c37
           subst c37
           have H1 : (if x6_1 = 9 then (if 0 < (t174.length : Int) then (if 1 < (t174.length : Int) then (some (x6_1, 0, rd t174 0, rd t174 1, t175, ([] : List Int), 0)) else (none)) else (none)) else (if x6_1 = 10 then (cubbyref08_ins.j3 kj28 a1 t174 x6_1 (x6_1 == 10) x6_1 0 0 0 t175) else (if x6_1 = 12 then (cubbyref08_ins.j3 kj28 a1 t174 x6_1 (x6_1 == 12) x6_1 0 0 0 t175) else (cubbyref08_ins.j3 kj28 a1 t174 x6_1 (x6_1 == 14) x6_1 0 0 0 t175)))) = some (r1, r2, r3, r4, r5, r6, r7) := by rw [if_neg (show ¬ (false = true) by decide)] at H; exact H
           clear H
           have H := H1
           clear H1
           by_cases c45 : x6_1 = 9
           ·rw [if_pos c45] at H
            have c45b0 : (x6_1 == 9) = true := beq_iff_eq.mpr c45
            have c45b1 : (x6_1 != 9) = false := bne_eq_false_iff_eq.mpr c45
            clear c45
            by_cases c46 : 0 < (t174.length : Int)
            ·rw [if_pos c46] at H
             have c46b0 : decide (0 < (t174.length : Int)) = true := decide_eq_true c46
             have c46b1 : decide (0 < t174.length) = true := decide_eq_true (by omega)
             clear c46
             by_cases c47 : 1 < (t174.length : Int)
             ·rw [if_pos c47] at H
              have c47b0 : decide (1 < (t174.length : Int)) = true := decide_eq_true c47
              have c47b1 : decide (1 < t174.length) = true := decide_eq_true (by omega)
              clear c47
              simp only [Option.some.injEq, Prod.mk.injEq] at H
              obtain ⟨rfl, rfl, rfl, rfl, rfl, rfl, rfl⟩ := H
              obtain ⟨Ao48, co48, eo48⟩ := Kd.R_slice HO_11.out
              subst eo48
              have p182 : 0 ≤ (0 : Int) := (by omega)
              have q182 : 0 < (t174.length : Int) := of_decide_eq_true (by first | (with_reducible assumption) | assumption)
              obtain ⟨ad182, e182, hx182_0⟩ := Kd.at_int (Kd.R_reads' HO_11.out).2.2 0 p182 q182
              cases e182
              have qi182 : (0 < t174.length) = True := eq_true (by omega)
              (try rw [show ((0 : Int)).toNat = 0 from rfl] at hx182_0)
              (try rw [Addr.add_zero'] at hx182_0)
              replace p182 := eq_true p182
              replace q182 := eq_true q182
              have hnb49 := NB170_166.out
              have hnc49 := NB166_170.out
              have hcz50_0 : wc.cell? ⟨gb170, 0, none⟩ = some (.int .i64 x6_1) := (blk_cell BK170.out 0).trans rfl
              have hcz50_1 : wc.cell? ⟨gb170, 1, none⟩ = some (.int .i64 0) := (blk_cell BK170.out 1).trans rfl
              have hcz50_2 : wc.cell? ⟨gb170, 2, none⟩ = some (.int .i64 0) := (blk_cell BK170.out 2).trans rfl
              have hcz50_3 : wc.cell? ⟨gb170, 3, none⟩ = some (.int .i64 0) := (blk_cell BK170.out 3).trans rfl
              have hcz50_4 : wc.cell? ⟨gb170, 4, none⟩ = some (.string t175) := (blk_cell BK170.out 4).trans rfl
              have hcz50_5 : wc.cell? ⟨gb170, 5, none⟩ = some (.slice none 0 0) := (blk_cell BK170.out 5).trans rfl
              have hfz50_0 := blk_frozen BK170.out 0
              have hfz50_1 := blk_frozen BK170.out 1
              have hfz50_2 := blk_frozen BK170.out 2
              have hfz50_3 := blk_frozen BK170.out 3
              have hfz50_4 := blk_frozen BK170.out 4
              have hfz50_5 := blk_frozen BK170.out 5
              have p183 : 0 ≤ (1 : Int) := (by omega)
              have q183 : 1 < (t174.length : Int) := of_decide_eq_true (by first | (with_reducible assumption) | assumption)
              obtain ⟨ad183, e183, hx183_0⟩ := Kd.at_int (Kd.R_reads' HO_11.out).2.2 1 p183 q183
              obtain rfl : ad182 = ad183 := (by injection e183)
              (try simp only [show (1 : Int).toNat = 1 from rfl, Nat.reduceMul, Nat.reduceEqDiff, Go.Addr.add, ↓reduceIte] at hx183_0)
              have qi183 : (1 < t174.length) = True := eq_true (by omega)
              (try rw [show ((1 : Int)).toNat = 1 from rfl] at hx183_0)
              have hn183_0 : ad182.block ≠ gb170 := Kd.own_blk (Kd.R_ne HO_11.out BK170.out (by decide))
              replace hx183_0 := (cell_far (p := ⟨gb170, 2, none⟩) (by first | (rw [add_block]; exact hn183_0) | (show (Addr.add _ _).block ≠ _; rw [add_block]; exact hn183_0) | exact hn183_0) (.int .i64 (rd t174 0))).trans hx183_0
              clear hn183_0
              replace p183 := eq_true p183
              replace q183 := eq_true q183
              have hcz51_0 : wc.cell? ⟨gb166, 0, none⟩ = some (.int .i64 0) := (blk_cell BK166.out 0).trans rfl
              have hcz51_1 : wc.cell? ⟨gb166, 1, none⟩ = some (.int .i64 0) := (blk_cell BK166.out 1).trans rfl
              have hcz51_2 : wc.cell? ⟨gb166, 2, none⟩ = some (.int .i64 0) := (blk_cell BK166.out 2).trans rfl
              have hcz51_3 : wc.cell? ⟨gb166, 3, none⟩ = some (.int .i64 0) := (blk_cell BK166.out 3).trans rfl
              have hcz51_4 : wc.cell? ⟨gb166, 4, none⟩ = some (.string (⟨#[]⟩ : ByteArray)) := (blk_cell BK166.out 4).trans rfl
              have hcz51_5 : wc.cell? ⟨gb166, 5, none⟩ = some (.slice none 0 0) := (blk_cell BK166.out 5).trans rfl
              have hfz51_0 := blk_frozen BK166.out 0
              have hfz51_1 := blk_frozen BK166.out 1
              have hfz51_2 := blk_frozen BK166.out 2
              have hfz51_3 := blk_frozen BK166.out 3
              have hfz51_4 := blk_frozen BK166.out 4
              have hfz51_5 := blk_frozen BK166.out 5
              go_wp2
              refine bodyPost_ret (results_ct rfl _ _ gb166 72 #[.int .i64 x6_1, .int .i64 0, .int .i64 (rd t174 0), .int .i64 (rd t174 1), .string t175, .slice none 0 0] (0, 0) _ rfl (by (with_reducible repeat (first | refine blk_drewN ?_ _ | refine blk_drew ?_ | refine blk_alloc ?_ _)); refine blk_put (cs := #[.int .i64 x6_1, .int .i64 0, .int .i64 (rd t174 0), .int .i64 (rd t174 1), .string t175, .slice none 0 0]) ?_ 5 _ rfl; (with_reducible repeat (first | refine blk_drewN ?_ _ | refine blk_drew ?_ | refine blk_alloc ?_ _)); refine blk_put (cs := #[.int .i64 x6_1, .int .i64 0, .int .i64 (rd t174 0), .int .i64 (rd t174 1), .string (⟨#[]⟩ : ByteArray), .slice none 0 0]) ?_ 4 _ rfl; (with_reducible repeat (first | refine blk_drewN ?_ _ | refine blk_drew ?_ | refine blk_alloc ?_ _)); refine blk_put (cs := #[.int .i64 x6_1, .int .i64 0, .int .i64 (rd t174 0), .int .i64 0, .string (⟨#[]⟩ : ByteArray), .slice none 0 0]) ?_ 3 _ rfl; (with_reducible repeat (first | refine blk_drewN ?_ _ | refine blk_drew ?_ | refine blk_alloc ?_ _)); refine blk_put (cs := #[.int .i64 x6_1, .int .i64 0, .int .i64 0, .int .i64 0, .string (⟨#[]⟩ : ByteArray), .slice none 0 0]) ?_ 2 _ rfl; (with_reducible repeat (first | refine blk_drewN ?_ _ | refine blk_drew ?_ | refine blk_alloc ?_ _)); refine blk_put (cs := #[.int .i64 x6_1, .int .i64 0, .int .i64 0, .int .i64 0, .string (⟨#[]⟩ : ByteArray), .slice none 0 0]) ?_ 1 _ rfl; (with_reducible repeat (first | refine blk_drewN ?_ _ | refine blk_drew ?_ | refine blk_alloc ?_ _)); refine blk_put (cs := #[.int .i64 0, .int .i64 0, .int .i64 0, .int .i64 0, .string (⟨#[]⟩ : ByteArray), .slice none 0 0]) ?_ 0 _ rfl; (with_reducible repeat (first | refine blk_drewN ?_ _ | refine blk_drew ?_ | refine blk_alloc ?_ _)); refine blk_far ?_ NB166_170.out _; (with_reducible repeat (first | refine blk_drewN ?_ _ | refine blk_drew ?_ | refine blk_alloc ?_ _)); refine blk_far ?_ NB166_170.out _; (with_reducible repeat (first | refine blk_drewN ?_ _ | refine blk_drew ?_ | refine blk_alloc ?_ _)); exact BK166.out) Tryd.underlying72 rfl (by kernel_rfl)) rfl ?_
              exact ⟨_, by first | rfl | (simp [errW_none, errW_some] <;> rfl) | (simp [*, errW_none, errW_some] <;> rfl), by first | exact Kd.R_nil _ _ _ _ _ | exact Kd.N_nil _ _ _ _ _ | exact Kd.V_nil _ _ _ _ _ | exact Kd.Q_nil _ _ _ _ _ | exact Kd.S_nil _ _ _ _ _, by repeat (first | (with_reducible first | exact HB.out | apply below_alloc | apply pw_below_drewN | apply below_drew1 | refine below_set ?_ GE166.out | refine below_set ?_ GE170.out) | exact HB.out)⟩
             ·rw [if_neg c47] at H
              exact absurd H (by simp)
            ·rw [if_neg c46] at H
             exact absurd H (by simp)
           ·rw [if_neg c45] at H
            have c45b0 : (x6_1 == 9) = false := beq_eq_false_iff_ne.mpr c45
            have c45b1 : (x6_1 != 9) = true := bne_iff_ne.mpr c45
            have HC52 := Aside0.mk H
            clear H
            go_upto_if 102 with (fail)
            go_cut [102] (fun v102 wc => ∃ (kq : Nat) (x102_51 : Bool), v102 = .bool x102_51 ∧ Aside0 (cubbyref08_ins.j3 kq a1 t174 x6_1 x102_51 x6_1 0 0 0 t175 = some (r1, r2, r3, r4, r5, r6, r7)) ∧ Aside0 (kq ≤ kj28) ∧ Aside0 (Kd.R (Kd.int .i64) 3 wc w.heap.size (fun _ => True) v177 t174) ∧ Aside0 (wc.heap[gb166]? = some (.cells #[.int .i64 0, .int .i64 0, .int .i64 0, .int .i64 0, .string (⟨#[]⟩ : ByteArray), (.slice none 0 0)] 72 (0, 0))) ∧ Aside0 (wc.heap[gb170]? = some (.cells #[.int .i64 x6_1, .int .i64 0, .int .i64 0, .int .i64 0, .string t175, (.slice none 0 0)] 72 (0, 0))) ∧ Aside0 (Below w.heap.size w wc))
            case first =>
             have H := HC52.out
             clear HC52
             by_cases c53 : x6_1 = 10
             ·rw [if_pos c53] at H
              have c53b0 : (x6_1 == 10) = true := beq_iff_eq.mpr c53
              have c53b1 : (x6_1 != 10) = false := bne_eq_false_iff_eq.mpr c53
              clear c53
              (first | rw [c53b0] | (simp only [i64_w, i32_w]; rw [c53b0]) | skip)
              have H' := Aside0.mk H
              clear H
              go_wp2
              go_meet
              case rel => exact ⟨_, ((x6_1 == 10)), (by first | rfl | (simp; done) | (simp [*]; done)), H', ⟨by have := HK1.out; have := HJ17.out; have := HJ28.out; first | omega | exact Nat.le_refl _⟩, ⟨by (with_reducible repeat (first | apply Kd.R_alloc | apply Kd.R_drewN | apply Kd.R_drew)); exact HO_11.out⟩, ⟨by (with_reducible repeat (first | refine blk_drewN ?_ _ | refine blk_drew ?_ | refine blk_alloc ?_ _)); exact BK166.out⟩, ⟨by (with_reducible repeat (first | refine blk_drewN ?_ _ | refine blk_drew ?_ | refine blk_alloc ?_ _)); exact BK170.out⟩, ⟨by repeat (first | (with_reducible first | exact HB.out | apply below_alloc | apply pw_below_drewN | apply below_drew1 | refine below_set ?_ GE166.out | refine below_set ?_ GE170.out) | exact HB.out)⟩⟩
             ·rw [if_neg c53] at H
              have c53b0 : (x6_1 == 10) = false := beq_eq_false_iff_ne.mpr c53
              have c53b1 : (x6_1 != 10) = true := bne_iff_ne.mpr c53
              (first | rw [c53b0] | (simp only [i64_w, i32_w]; rw [c53b0]) | skip)
              by_cases c54 : x6_1 = 12
              ·rw [if_pos c54] at H
               have c54b0 : (x6_1 == 12) = true := beq_iff_eq.mpr c54
               have c54b1 : (x6_1 != 12) = false := bne_eq_false_iff_eq.mpr c54
               clear c54
               have H' := Aside0.mk H
               clear H
               go_wp2
               go_meet
               case rel => exact ⟨_, ((x6_1 == 12)), (by first | rfl | (simp; done) | (simp [*]; done)), H', ⟨by have := HK1.out; have := HJ17.out; have := HJ28.out; first | omega | exact Nat.le_refl _⟩, ⟨by (with_reducible repeat (first | apply Kd.R_alloc | apply Kd.R_drewN | apply Kd.R_drew)); exact HO_11.out⟩, ⟨by (with_reducible repeat (first | refine blk_drewN ?_ _ | refine blk_drew ?_ | refine blk_alloc ?_ _)); exact BK166.out⟩, ⟨by (with_reducible repeat (first | refine blk_drewN ?_ _ | refine blk_drew ?_ | refine blk_alloc ?_ _)); exact BK170.out⟩, ⟨by repeat (first | (with_reducible first | exact HB.out | apply below_alloc | apply pw_below_drewN | apply below_drew1 | refine below_set ?_ GE166.out | refine below_set ?_ GE170.out) | exact HB.out)⟩⟩
              ·rw [if_neg c54] at H
               have c54b0 : (x6_1 == 12) = false := beq_eq_false_iff_ne.mpr c54
               have c54b1 : (x6_1 != 12) = true := bne_iff_ne.mpr c54
               have H' := Aside0.mk H
               clear H
               go_wp2
               go_meet
               case rel => exact ⟨_, ((x6_1 == 14)), (by first | rfl | (simp; done) | (simp [*]; done)), H', ⟨by have := HK1.out; have := HJ17.out; have := HJ28.out; first | omega | exact Nat.le_refl _⟩, ⟨by (with_reducible repeat (first | apply Kd.R_alloc | apply Kd.R_drewN | apply Kd.R_drew)); exact HO_11.out⟩, ⟨by (with_reducible repeat (first | refine blk_drewN ?_ _ | refine blk_drew ?_ | refine blk_alloc ?_ _)); exact BK166.out⟩, ⟨by (with_reducible repeat (first | refine blk_drewN ?_ _ | refine blk_drew ?_ | refine blk_alloc ?_ _)); exact BK170.out⟩, ⟨by repeat (first | (with_reducible first | exact HB.out | apply below_alloc | apply pw_below_drewN | apply below_drew1 | refine below_set ?_ GE166.out | refine below_set ?_ GE170.out) | exact HB.out)⟩⟩
            case rest =>
             clear HC52
             try clear c1
             try clear p1
             try clear q1
             try clear hx1
             try clear qi1
             try clear c2
             try clear p2
             try clear c3
             try clear c4
             try clear c4b0
             try clear c5
             try clear c6
             try clear c6b0
             try clear c6b1
             try clear p6
             try clear c7
             try clear c7b0
             try clear c7b1
             try clear c8
             try clear c8b0
             try clear c8b1
             try clear c15
             try clear c15b0
             try clear p16
             try clear q16
             try clear hx16
             try clear qi16
             try clear p17
             try clear q17
             try clear hx17
             try clear qi17
             try clear p18
             try clear q18
             try clear hx18
             try clear qi18
             try clear c20
             try clear c24
             try clear c24b0
             try clear c24b1
             try clear c25
             try clear c28
             try clear c28b0
             try clear c28b1
             try clear c31
             try clear c33
             try clear c33b0
             try clear c33b1
             try clear c34
             try clear c34b0
             try clear c34b1
             try clear c35
             try clear c35b0
             try clear c35b1
             try clear c36
             try clear c36b0
             try clear c36b1
             try clear c37
             try clear c38
             try clear c38b0
             try clear c38b1
             try clear c39
             try clear c39b0
             try clear c39b1
             try clear c40
             try clear c40b0
             try clear c40b1
             try clear c42
             try clear c45
             try clear c45b0
             try clear c45b1
             try clear c46
             try clear c46b0
             try clear c46b1
             try clear c47
             try clear c47b0
             try clear c47b1
             try clear c49
             try clear c53
             try clear c53b0
             try clear c53b1
             try clear c54
             try clear c54b0
             try clear c54b1
             try clear hcz16_0
             try clear hcz16_1
             try clear hcz16_2
             try clear hcz16_3
             try clear hcz16_4
             try clear hcz16_5
             try clear hcz21_0
             try clear hcz21_1
             try clear hcz21_2
             try clear hcz21_3
             try clear hcz21_4
             try clear hcz21_5
             try clear hcz32_0
             try clear hcz32_1
             try clear hcz32_2
             try clear hcz32_3
             try clear hcz32_4
             try clear hcz32_5
             try clear hcz43_0
             try clear hcz43_1
             try clear hcz43_2
             try clear hcz43_3
             try clear hcz43_4
             try clear hcz43_5
             try clear hcz44_0
             try clear hcz44_1
             try clear hcz44_2
             try clear hcz44_3
             try clear hcz44_4
             try clear hcz44_5
             try clear hcz50_0
             try clear hcz50_1
             try clear hcz50_2
             try clear hcz50_3
             try clear hcz50_4
             try clear hcz50_5
             try clear hcz51_0
             try clear hcz51_1
             try clear hcz51_2
             try clear hcz51_3
             try clear hcz51_4
             try clear hcz51_5
             try clear hfz16_0
             try clear hfz16_1
             try clear hfz16_2
             try clear hfz16_3
             try clear hfz16_4
             try clear hfz16_5
             try clear hfz21_0
             try clear hfz21_1
             try clear hfz21_2
             try clear hfz21_3
             try clear hfz21_4
             try clear hfz21_5
             try clear hfz32_0
             try clear hfz32_1
             try clear hfz32_2
             try clear hfz32_3
             try clear hfz32_4
             try clear hfz32_5
             try clear hfz43_0
             try clear hfz43_1
             try clear hfz43_2
             try clear hfz43_3
             try clear hfz43_4
             try clear hfz43_5
             try clear hfz44_0
             try clear hfz44_1
             try clear hfz44_2
             try clear hfz44_3
             try clear hfz44_4
             try clear hfz44_5
             try clear hfz50_0
             try clear hfz50_1
             try clear hfz50_2
             try clear hfz50_3
             try clear hfz50_4
             try clear hfz50_5
             try clear hfz51_0
             try clear hfz51_1
             try clear hfz51_2
             try clear hfz51_3
             try clear hfz51_4
             try clear hfz51_5
             try clear hx168_0
             try clear hx169_0
             try clear hx179_0
             try clear hx180_0
             try clear hx181_0
             try clear hx182_0
             try clear hx183_0
             try clear p1
             try clear p16
             try clear p168
             try clear p169
             try clear p179
             try clear p180
             try clear p181
             try clear p182
             try clear p183
             try clear p2
             try clear p6
             try clear q1
             try clear q16
             try clear q168
             try clear q169
             try clear q179
             try clear q180
             try clear q181
             try clear q182
             try clear q183
             obtain ⟨kq, x102_51, rfl, HA, HJ51, HO_11, BK166, BK170, HB⟩ := hcut
             cases kq with
             | zero => exact absurd HA.out (by simp [cubbyref08_ins.j3])
             | succ kj51 =>
              have H := HA.out
              clear HA
              simp only [cubbyref08_ins.j3] at H
              by_cases c55 : x102_51 = true
              ·subst c55
               have H1 : (if 0 < (t174.length : Int) then (some (x6_1, 0, rd t174 0, 0, t175, ([] : List Int), 0)) else (none)) = some (r1, r2, r3, r4, r5, r6, r7) := by rw [if_pos rfl] at H; exact H
               clear H
               have H := H1
               clear H1
               by_cases c56 : 0 < (t174.length : Int)
               ·rw [if_pos c56] at H
                have c56b0 : decide (0 < (t174.length : Int)) = true := decide_eq_true c56
                have c56b1 : decide (0 < t174.length) = true := decide_eq_true (by omega)
                clear c56
                simp only [Option.some.injEq, Prod.mk.injEq] at H
                obtain ⟨rfl, rfl, rfl, rfl, rfl, rfl, rfl⟩ := H
                obtain ⟨Ao57, co57, eo57⟩ := Kd.R_slice HO_11.out
                subst eo57
                have p184 : 0 ≤ (0 : Int) := (by omega)
                have q184 : 0 < (t174.length : Int) := of_decide_eq_true (by first | (with_reducible assumption) | assumption)
                obtain ⟨ad184, e184, hx184_0⟩ := Kd.at_int (Kd.R_reads' HO_11.out).2.2 0 p184 q184
                cases e184
                have qi184 : (0 < t174.length) = True := eq_true (by omega)
                (try rw [show ((0 : Int)).toNat = 0 from rfl] at hx184_0)
                (try rw [Addr.add_zero'] at hx184_0)
                replace p184 := eq_true p184
                replace q184 := eq_true q184
                have hnb58 := NB170_166.out
                have hnc58 := NB166_170.out
                have hcz59_0 : wc.cell? ⟨gb170, 0, none⟩ = some (.int .i64 x6_1) := (blk_cell BK170.out 0).trans rfl
                have hcz59_1 : wc.cell? ⟨gb170, 1, none⟩ = some (.int .i64 0) := (blk_cell BK170.out 1).trans rfl
                have hcz59_2 : wc.cell? ⟨gb170, 2, none⟩ = some (.int .i64 0) := (blk_cell BK170.out 2).trans rfl
                have hcz59_3 : wc.cell? ⟨gb170, 3, none⟩ = some (.int .i64 0) := (blk_cell BK170.out 3).trans rfl
                have hcz59_4 : wc.cell? ⟨gb170, 4, none⟩ = some (.string t175) := (blk_cell BK170.out 4).trans rfl
                have hcz59_5 : wc.cell? ⟨gb170, 5, none⟩ = some (.slice none 0 0) := (blk_cell BK170.out 5).trans rfl
                have hfz59_0 := blk_frozen BK170.out 0
                have hfz59_1 := blk_frozen BK170.out 1
                have hfz59_2 := blk_frozen BK170.out 2
                have hfz59_3 := blk_frozen BK170.out 3
                have hfz59_4 := blk_frozen BK170.out 4
                have hfz59_5 := blk_frozen BK170.out 5
                have hcz60_0 : wc.cell? ⟨gb166, 0, none⟩ = some (.int .i64 0) := (blk_cell BK166.out 0).trans rfl
                have hcz60_1 : wc.cell? ⟨gb166, 1, none⟩ = some (.int .i64 0) := (blk_cell BK166.out 1).trans rfl
                have hcz60_2 : wc.cell? ⟨gb166, 2, none⟩ = some (.int .i64 0) := (blk_cell BK166.out 2).trans rfl
                have hcz60_3 : wc.cell? ⟨gb166, 3, none⟩ = some (.int .i64 0) := (blk_cell BK166.out 3).trans rfl
                have hcz60_4 : wc.cell? ⟨gb166, 4, none⟩ = some (.string (⟨#[]⟩ : ByteArray)) := (blk_cell BK166.out 4).trans rfl
                have hcz60_5 : wc.cell? ⟨gb166, 5, none⟩ = some (.slice none 0 0) := (blk_cell BK166.out 5).trans rfl
                have hfz60_0 := blk_frozen BK166.out 0
                have hfz60_1 := blk_frozen BK166.out 1
                have hfz60_2 := blk_frozen BK166.out 2
                have hfz60_3 := blk_frozen BK166.out 3
                have hfz60_4 := blk_frozen BK166.out 4
                have hfz60_5 := blk_frozen BK166.out 5
                go_wp2
                refine bodyPost_ret (results_ct rfl _ _ gb166 72 #[.int .i64 x6_1, .int .i64 0, .int .i64 (rd t174 0), .int .i64 0, .string t175, .slice none 0 0] (0, 0) _ rfl (by (with_reducible repeat (first | refine blk_drewN ?_ _ | refine blk_drew ?_ | refine blk_alloc ?_ _)); refine blk_put (cs := #[.int .i64 x6_1, .int .i64 0, .int .i64 (rd t174 0), .int .i64 0, .string t175, .slice none 0 0]) ?_ 5 _ rfl; (with_reducible repeat (first | refine blk_drewN ?_ _ | refine blk_drew ?_ | refine blk_alloc ?_ _)); refine blk_put (cs := #[.int .i64 x6_1, .int .i64 0, .int .i64 (rd t174 0), .int .i64 0, .string (⟨#[]⟩ : ByteArray), .slice none 0 0]) ?_ 4 _ rfl; (with_reducible repeat (first | refine blk_drewN ?_ _ | refine blk_drew ?_ | refine blk_alloc ?_ _)); refine blk_put (cs := #[.int .i64 x6_1, .int .i64 0, .int .i64 (rd t174 0), .int .i64 0, .string (⟨#[]⟩ : ByteArray), .slice none 0 0]) ?_ 3 _ rfl; (with_reducible repeat (first | refine blk_drewN ?_ _ | refine blk_drew ?_ | refine blk_alloc ?_ _)); refine blk_put (cs := #[.int .i64 x6_1, .int .i64 0, .int .i64 0, .int .i64 0, .string (⟨#[]⟩ : ByteArray), .slice none 0 0]) ?_ 2 _ rfl; (with_reducible repeat (first | refine blk_drewN ?_ _ | refine blk_drew ?_ | refine blk_alloc ?_ _)); refine blk_put (cs := #[.int .i64 x6_1, .int .i64 0, .int .i64 0, .int .i64 0, .string (⟨#[]⟩ : ByteArray), .slice none 0 0]) ?_ 1 _ rfl; (with_reducible repeat (first | refine blk_drewN ?_ _ | refine blk_drew ?_ | refine blk_alloc ?_ _)); refine blk_put (cs := #[.int .i64 0, .int .i64 0, .int .i64 0, .int .i64 0, .string (⟨#[]⟩ : ByteArray), .slice none 0 0]) ?_ 0 _ rfl; (with_reducible repeat (first | refine blk_drewN ?_ _ | refine blk_drew ?_ | refine blk_alloc ?_ _)); refine blk_far ?_ NB166_170.out _; (with_reducible repeat (first | refine blk_drewN ?_ _ | refine blk_drew ?_ | refine blk_alloc ?_ _)); exact BK166.out) Tryd.underlying72 rfl (by kernel_rfl)) rfl ?_
                exact ⟨_, by first | rfl | (simp [errW_none, errW_some] <;> rfl) | (simp [*, errW_none, errW_some] <;> rfl), by first | exact Kd.R_nil _ _ _ _ _ | exact Kd.N_nil _ _ _ _ _ | exact Kd.V_nil _ _ _ _ _ | exact Kd.Q_nil _ _ _ _ _ | exact Kd.S_nil _ _ _ _ _, by repeat (first | (with_reducible first | exact HB.out | apply below_alloc | apply pw_below_drewN | apply below_drew1 | refine below_set ?_ GE166.out | refine below_set ?_ GE170.out) | exact HB.out)⟩
               ·rw [if_neg c56] at H
                exact absurd H (by simp)
              ·replace c55 := Bool.eq_false_iff.mpr c55
               subst c55
               have H1 : (if x6_1 = 13 then (if 0 < (t174.length : Int) then (if 1 < (t174.length : Int) then (if 2 < (t174.length : Int) then (some (x6_1, rd t174 2, rd t174 0, rd t174 1, t175, ([] : List Int), 0)) else (none)) else (none)) else (none)) else (if x6_1 = 11 then (if 0 < (t174.length : Int) then (if a1 = true then (if 1 < (t174.length : Int) then (some (x6_1, rd t174 0, rd t174 1, 0, t175, ([] : List Int), 0)) else (none)) else (if (t174.length : Int) > 1 then (if 1 ≤ (t174.length : Int) then ((some (t174.drop 1 : List Int)).bind fun y190 => (if ([] : List Int).length + y190.length < 17592186044416 then (some (x6_1, rd t174 0, 0, 0, t175, (([] : List Int) ++ y190), 0)) else (none))) else (none)) else (some (x6_1, rd t174 0, 0, 0, t175, ([] : List Int), 0)))) else (none)) else (if 0 < (t174.length : Int) then (if 1 < (t174.length : Int) then (some (x6_1, rd t174 0, rd t174 1, 0, t175, ([] : List Int), 0)) else (none)) else (none)))) = some (r1, r2, r3, r4, r5, r6, r7) := by rw [if_neg (show ¬ (false = true) by decide)] at H; exact H
               clear H
               have H := H1
               clear H1
               by_cases c61 : x6_1 = 13
               ·rw [if_pos c61] at H
                have c61b0 : (x6_1 == 13) = true := beq_iff_eq.mpr c61
                have c61b1 : (x6_1 != 13) = false := bne_eq_false_iff_eq.mpr c61
                clear c61
                by_cases c62 : 0 < (t174.length : Int)
                ·rw [if_pos c62] at H
                 have c62b0 : decide (0 < (t174.length : Int)) = true := decide_eq_true c62
                 have c62b1 : decide (0 < t174.length) = true := decide_eq_true (by omega)
                 clear c62
                 by_cases c63 : 1 < (t174.length : Int)
                 ·rw [if_pos c63] at H
                  have c63b0 : decide (1 < (t174.length : Int)) = true := decide_eq_true c63
                  have c63b1 : decide (1 < t174.length) = true := decide_eq_true (by omega)
                  clear c63
                  by_cases c64 : 2 < (t174.length : Int)
                  ·rw [if_pos c64] at H
                   have c64b0 : decide (2 < (t174.length : Int)) = true := decide_eq_true c64
                   have c64b1 : decide (2 < t174.length) = true := decide_eq_true (by omega)
                   clear c64
                   simp only [Option.some.injEq, Prod.mk.injEq] at H
                   obtain ⟨rfl, rfl, rfl, rfl, rfl, rfl, rfl⟩ := H
                   obtain ⟨Ao65, co65, eo65⟩ := Kd.R_slice HO_11.out
                   subst eo65
                   have p185 : 0 ≤ (0 : Int) := (by omega)
                   have q185 : 0 < (t174.length : Int) := of_decide_eq_true (by first | (with_reducible assumption) | assumption)
                   obtain ⟨ad185, e185, hx185_0⟩ := Kd.at_int (Kd.R_reads' HO_11.out).2.2 0 p185 q185
                   cases e185
                   have qi185 : (0 < t174.length) = True := eq_true (by omega)
                   (try rw [show ((0 : Int)).toNat = 0 from rfl] at hx185_0)
                   (try rw [Addr.add_zero'] at hx185_0)
                   replace p185 := eq_true p185
                   replace q185 := eq_true q185
                   have hnb66 := NB170_166.out
                   have hnc66 := NB166_170.out
                   have hcz67_0 : wc.cell? ⟨gb170, 0, none⟩ = some (.int .i64 x6_1) := (blk_cell BK170.out 0).trans rfl
                   have hcz67_1 : wc.cell? ⟨gb170, 1, none⟩ = some (.int .i64 0) := (blk_cell BK170.out 1).trans rfl
                   have hcz67_2 : wc.cell? ⟨gb170, 2, none⟩ = some (.int .i64 0) := (blk_cell BK170.out 2).trans rfl
                   have hcz67_3 : wc.cell? ⟨gb170, 3, none⟩ = some (.int .i64 0) := (blk_cell BK170.out 3).trans rfl
                   have hcz67_4 : wc.cell? ⟨gb170, 4, none⟩ = some (.string t175) := (blk_cell BK170.out 4).trans rfl
                   have hcz67_5 : wc.cell? ⟨gb170, 5, none⟩ = some (.slice none 0 0) := (blk_cell BK170.out 5).trans rfl
                   have hfz67_0 := blk_frozen BK170.out 0
                   have hfz67_1 := blk_frozen BK170.out 1
                   have hfz67_2 := blk_frozen BK170.out 2
                   have hfz67_3 := blk_frozen BK170.out 3
                   have hfz67_4 := blk_frozen BK170.out 4
                   have hfz67_5 := blk_frozen BK170.out 5
                   have p186 : 0 ≤ (1 : Int) := (by omega)
                   have q186 : 1 < (t174.length : Int) := of_decide_eq_true (by first | (with_reducible assumption) | assumption)
                   obtain ⟨ad186, e186, hx186_0⟩ := Kd.at_int (Kd.R_reads' HO_11.out).2.2 1 p186 q186
                   obtain rfl : ad185 = ad186 := (by injection e186)
                   (try simp only [show (1 : Int).toNat = 1 from rfl, Nat.reduceMul, Nat.reduceEqDiff, Go.Addr.add, ↓reduceIte] at hx186_0)
                   have qi186 : (1 < t174.length) = True := eq_true (by omega)
                   (try rw [show ((1 : Int)).toNat = 1 from rfl] at hx186_0)
                   have hn186_0 : ad185.block ≠ gb170 := Kd.own_blk (Kd.R_ne HO_11.out BK170.out (by decide))
                   replace hx186_0 := (cell_far (p := ⟨gb170, 2, none⟩) (by first | (rw [add_block]; exact hn186_0) | (show (Addr.add _ _).block ≠ _; rw [add_block]; exact hn186_0) | exact hn186_0) (.int .i64 (rd t174 0))).trans hx186_0
                   clear hn186_0
                   replace p186 := eq_true p186
                   replace q186 := eq_true q186
                   have p187 : 0 ≤ (2 : Int) := (by omega)
                   have q187 : 2 < (t174.length : Int) := of_decide_eq_true (by first | (with_reducible assumption) | assumption)
                   obtain ⟨ad187, e187, hx187_0⟩ := Kd.at_int (Kd.R_reads' HO_11.out).2.2 2 p187 q187
                   obtain rfl : ad185 = ad187 := (by injection e187)
                   (try simp only [show (2 : Int).toNat = 2 from rfl, Nat.reduceMul, Nat.reduceEqDiff, Go.Addr.add, ↓reduceIte] at hx187_0)
                   have qi187 : (2 < t174.length) = True := eq_true (by omega)
                   (try rw [show ((2 : Int)).toNat = 2 from rfl] at hx187_0)
                   have hn187_0 : ad185.block ≠ gb170 := Kd.own_blk (Kd.R_ne HO_11.out BK170.out (by decide))
                   have hn187_1 : ad185.block ≠ gb170 := Kd.own_blk (Kd.R_ne HO_11.out BK170.out (by decide))
                   replace hx187_0 := (cell_far (p := ⟨gb170, 2, none⟩) (by first | (rw [add_block]; exact hn187_0) | (show (Addr.add _ _).block ≠ _; rw [add_block]; exact hn187_0) | exact hn187_0) (.int .i64 (rd t174 0))).trans hx187_0
                   replace hx187_0 := (cell_far (p := ⟨gb170, 3, none⟩) (by first | (rw [add_block]; exact hn187_1) | (show (Addr.add _ _).block ≠ _; rw [add_block]; exact hn187_1) | exact hn187_1) (.int .i64 (rd t174 1))).trans hx187_0
                   clear hn187_0
                   clear hn187_1
                   replace p187 := eq_true p187
                   replace q187 := eq_true q187
                   have hcz68_0 : wc.cell? ⟨gb166, 0, none⟩ = some (.int .i64 0) := (blk_cell BK166.out 0).trans rfl
                   have hcz68_1 : wc.cell? ⟨gb166, 1, none⟩ = some (.int .i64 0) := (blk_cell BK166.out 1).trans rfl
                   have hcz68_2 : wc.cell? ⟨gb166, 2, none⟩ = some (.int .i64 0) := (blk_cell BK166.out 2).trans rfl
                   have hcz68_3 : wc.cell? ⟨gb166, 3, none⟩ = some (.int .i64 0) := (blk_cell BK166.out 3).trans rfl
                   have hcz68_4 : wc.cell? ⟨gb166, 4, none⟩ = some (.string (⟨#[]⟩ : ByteArray)) := (blk_cell BK166.out 4).trans rfl
                   have hcz68_5 : wc.cell? ⟨gb166, 5, none⟩ = some (.slice none 0 0) := (blk_cell BK166.out 5).trans rfl
                   have hfz68_0 := blk_frozen BK166.out 0
                   have hfz68_1 := blk_frozen BK166.out 1
                   have hfz68_2 := blk_frozen BK166.out 2
                   have hfz68_3 := blk_frozen BK166.out 3
                   have hfz68_4 := blk_frozen BK166.out 4
                   have hfz68_5 := blk_frozen BK166.out 5
                   go_wp2
                   refine bodyPost_ret (results_ct rfl _ _ gb166 72 #[.int .i64 x6_1, .int .i64 (rd t174 2), .int .i64 (rd t174 0), .int .i64 (rd t174 1), .string t175, .slice none 0 0] (0, 0) _ rfl (by (with_reducible repeat (first | refine blk_drewN ?_ _ | refine blk_drew ?_ | refine blk_alloc ?_ _)); refine blk_put (cs := #[.int .i64 x6_1, .int .i64 (rd t174 2), .int .i64 (rd t174 0), .int .i64 (rd t174 1), .string t175, .slice none 0 0]) ?_ 5 _ rfl; (with_reducible repeat (first | refine blk_drewN ?_ _ | refine blk_drew ?_ | refine blk_alloc ?_ _)); refine blk_put (cs := #[.int .i64 x6_1, .int .i64 (rd t174 2), .int .i64 (rd t174 0), .int .i64 (rd t174 1), .string (⟨#[]⟩ : ByteArray), .slice none 0 0]) ?_ 4 _ rfl; (with_reducible repeat (first | refine blk_drewN ?_ _ | refine blk_drew ?_ | refine blk_alloc ?_ _)); refine blk_put (cs := #[.int .i64 x6_1, .int .i64 (rd t174 2), .int .i64 (rd t174 0), .int .i64 0, .string (⟨#[]⟩ : ByteArray), .slice none 0 0]) ?_ 3 _ rfl; (with_reducible repeat (first | refine blk_drewN ?_ _ | refine blk_drew ?_ | refine blk_alloc ?_ _)); refine blk_put (cs := #[.int .i64 x6_1, .int .i64 (rd t174 2), .int .i64 0, .int .i64 0, .string (⟨#[]⟩ : ByteArray), .slice none 0 0]) ?_ 2 _ rfl; (with_reducible repeat (first | refine blk_drewN ?_ _ | refine blk_drew ?_ | refine blk_alloc ?_ _)); refine blk_put (cs := #[.int .i64 x6_1, .int .i64 0, .int .i64 0, .int .i64 0, .string (⟨#[]⟩ : ByteArray), .slice none 0 0]) ?_ 1 _ rfl; (with_reducible repeat (first | refine blk_drewN ?_ _ | refine blk_drew ?_ | refine blk_alloc ?_ _)); refine blk_put (cs := #[.int .i64 0, .int .i64 0, .int .i64 0, .int .i64 0, .string (⟨#[]⟩ : ByteArray), .slice none 0 0]) ?_ 0 _ rfl; (with_reducible repeat (first | refine blk_drewN ?_ _ | refine blk_drew ?_ | refine blk_alloc ?_ _)); refine blk_far ?_ NB166_170.out _; (with_reducible repeat (first | refine blk_drewN ?_ _ | refine blk_drew ?_ | refine blk_alloc ?_ _)); refine blk_far ?_ NB166_170.out _; (with_reducible repeat (first | refine blk_drewN ?_ _ | refine blk_drew ?_ | refine blk_alloc ?_ _)); refine blk_far ?_ NB166_170.out _; (with_reducible repeat (first | refine blk_drewN ?_ _ | refine blk_drew ?_ | refine blk_alloc ?_ _)); exact BK166.out) Tryd.underlying72 rfl (by kernel_rfl)) rfl ?_
                   exact ⟨_, by first | rfl | (simp [errW_none, errW_some] <;> rfl) | (simp [*, errW_none, errW_some] <;> rfl), by first | exact Kd.R_nil _ _ _ _ _ | exact Kd.N_nil _ _ _ _ _ | exact Kd.V_nil _ _ _ _ _ | exact Kd.Q_nil _ _ _ _ _ | exact Kd.S_nil _ _ _ _ _, by repeat (first | (with_reducible first | exact HB.out | apply below_alloc | apply pw_below_drewN | apply below_drew1 | refine below_set ?_ GE166.out | refine below_set ?_ GE170.out) | exact HB.out)⟩
                  ·rw [if_neg c64] at H
                   exact absurd H (by simp)
                 ·rw [if_neg c63] at H
                  exact absurd H (by simp)
                ·rw [if_neg c62] at H
                 exact absurd H (by simp)
               ·rw [if_neg c61] at H
                have c61b0 : (x6_1 == 13) = false := beq_eq_false_iff_ne.mpr c61
                have c61b1 : (x6_1 != 13) = true := bne_iff_ne.mpr c61
                by_cases c69 : x6_1 = 11
                ·rw [if_pos c69] at H
                 have c69b0 : (x6_1 == 11) = true := beq_iff_eq.mpr c69
                 have c69b1 : (x6_1 != 11) = false := bne_eq_false_iff_eq.mpr c69
                 clear c69
                 by_cases c70 : 0 < (t174.length : Int)
                 ·rw [if_pos c70] at H
                  have c70b0 : decide (0 < (t174.length : Int)) = true := decide_eq_true c70
                  have c70b1 : decide (0 < t174.length) = true := decide_eq_true (by omega)
                  clear c70
                  by_cases c71 : a1 = true
                  ·subst c71
                   have H1 : (if 1 < (t174.length : Int) then (some (x6_1, rd t174 0, rd t174 1, 0, t175, ([] : List Int), 0)) else (none)) = some (r1, r2, r3, r4, r5, r6, r7) := by rw [if_pos rfl] at H; exact H
                   clear H
                   have H := H1
                   clear H1
                   by_cases c72 : 1 < (t174.length : Int)
                   ·rw [if_pos c72] at H
                    have c72b0 : decide (1 < (t174.length : Int)) = true := decide_eq_true c72
                    have c72b1 : decide (1 < t174.length) = true := decide_eq_true (by omega)
                    clear c72
                    simp only [Option.some.injEq, Prod.mk.injEq] at H
                    obtain ⟨rfl, rfl, rfl, rfl, rfl, rfl, rfl⟩ := H
                    obtain ⟨Ao73, co73, eo73⟩ := Kd.R_slice HO_11.out
                    subst eo73
                    have p188 : 0 ≤ (0 : Int) := (by omega)
                    have q188 : 0 < (t174.length : Int) := of_decide_eq_true (by first | (with_reducible assumption) | assumption)
                    obtain ⟨ad188, e188, hx188_0⟩ := Kd.at_int (Kd.R_reads' HO_11.out).2.2 0 p188 q188
                    cases e188
                    have qi188 : (0 < t174.length) = True := eq_true (by omega)
                    (try rw [show ((0 : Int)).toNat = 0 from rfl] at hx188_0)
                    (try rw [Addr.add_zero'] at hx188_0)
                    replace p188 := eq_true p188
                    replace q188 := eq_true q188
                    have hnb74 := NB170_166.out
                    have hnc74 := NB166_170.out
                    have hcz75_0 : wc.cell? ⟨gb170, 0, none⟩ = some (.int .i64 x6_1) := (blk_cell BK170.out 0).trans rfl
                    have hcz75_1 : wc.cell? ⟨gb170, 1, none⟩ = some (.int .i64 0) := (blk_cell BK170.out 1).trans rfl
                    have hcz75_2 : wc.cell? ⟨gb170, 2, none⟩ = some (.int .i64 0) := (blk_cell BK170.out 2).trans rfl
                    have hcz75_3 : wc.cell? ⟨gb170, 3, none⟩ = some (.int .i64 0) := (blk_cell BK170.out 3).trans rfl
                    have hcz75_4 : wc.cell? ⟨gb170, 4, none⟩ = some (.string t175) := (blk_cell BK170.out 4).trans rfl
                    have hcz75_5 : wc.cell? ⟨gb170, 5, none⟩ = some (.slice none 0 0) := (blk_cell BK170.out 5).trans rfl
                    have hfz75_0 := blk_frozen BK170.out 0
                    have hfz75_1 := blk_frozen BK170.out 1
                    have hfz75_2 := blk_frozen BK170.out 2
                    have hfz75_3 := blk_frozen BK170.out 3
                    have hfz75_4 := blk_frozen BK170.out 4
                    have hfz75_5 := blk_frozen BK170.out 5
                    have p189 : 0 ≤ (1 : Int) := (by omega)
                    have q189 : 1 < (t174.length : Int) := of_decide_eq_true (by first | (with_reducible assumption) | assumption)
                    obtain ⟨ad189, e189, hx189_0⟩ := Kd.at_int (Kd.R_reads' HO_11.out).2.2 1 p189 q189
                    obtain rfl : ad188 = ad189 := (by injection e189)
                    (try simp only [show (1 : Int).toNat = 1 from rfl, Nat.reduceMul, Nat.reduceEqDiff, Go.Addr.add, ↓reduceIte] at hx189_0)
                    have qi189 : (1 < t174.length) = True := eq_true (by omega)
                    (try rw [show ((1 : Int)).toNat = 1 from rfl] at hx189_0)
                    have hn189_0 : ad188.block ≠ gb170 := Kd.own_blk (Kd.R_ne HO_11.out BK170.out (by decide))
                    replace hx189_0 := (cell_far (p := ⟨gb170, 1, none⟩) (by first | (rw [add_block]; exact hn189_0) | (show (Addr.add _ _).block ≠ _; rw [add_block]; exact hn189_0) | exact hn189_0) (.int .i64 (rd t174 0))).trans hx189_0
                    clear hn189_0
                    replace p189 := eq_true p189
                    replace q189 := eq_true q189
                    have hcz76_0 : wc.cell? ⟨gb166, 0, none⟩ = some (.int .i64 0) := (blk_cell BK166.out 0).trans rfl
                    have hcz76_1 : wc.cell? ⟨gb166, 1, none⟩ = some (.int .i64 0) := (blk_cell BK166.out 1).trans rfl
                    have hcz76_2 : wc.cell? ⟨gb166, 2, none⟩ = some (.int .i64 0) := (blk_cell BK166.out 2).trans rfl
                    have hcz76_3 : wc.cell? ⟨gb166, 3, none⟩ = some (.int .i64 0) := (blk_cell BK166.out 3).trans rfl
                    have hcz76_4 : wc.cell? ⟨gb166, 4, none⟩ = some (.string (⟨#[]⟩ : ByteArray)) := (blk_cell BK166.out 4).trans rfl
                    have hcz76_5 : wc.cell? ⟨gb166, 5, none⟩ = some (.slice none 0 0) := (blk_cell BK166.out 5).trans rfl
                    have hfz76_0 := blk_frozen BK166.out 0
                    have hfz76_1 := blk_frozen BK166.out 1
                    have hfz76_2 := blk_frozen BK166.out 2
                    have hfz76_3 := blk_frozen BK166.out 3
                    have hfz76_4 := blk_frozen BK166.out 4
                    have hfz76_5 := blk_frozen BK166.out 5
                    go_wp2
                    refine bodyPost_ret (results_ct rfl _ _ gb166 72 #[.int .i64 x6_1, .int .i64 (rd t174 0), .int .i64 (rd t174 1), .int .i64 0, .string t175, .slice none 0 0] (0, 0) _ rfl (by (with_reducible repeat (first | refine blk_drewN ?_ _ | refine blk_drew ?_ | refine blk_alloc ?_ _)); refine blk_put (cs := #[.int .i64 x6_1, .int .i64 (rd t174 0), .int .i64 (rd t174 1), .int .i64 0, .string t175, .slice none 0 0]) ?_ 5 _ rfl; (with_reducible repeat (first | refine blk_drewN ?_ _ | refine blk_drew ?_ | refine blk_alloc ?_ _)); refine blk_put (cs := #[.int .i64 x6_1, .int .i64 (rd t174 0), .int .i64 (rd t174 1), .int .i64 0, .string (⟨#[]⟩ : ByteArray), .slice none 0 0]) ?_ 4 _ rfl; (with_reducible repeat (first | refine blk_drewN ?_ _ | refine blk_drew ?_ | refine blk_alloc ?_ _)); refine blk_put (cs := #[.int .i64 x6_1, .int .i64 (rd t174 0), .int .i64 (rd t174 1), .int .i64 0, .string (⟨#[]⟩ : ByteArray), .slice none 0 0]) ?_ 3 _ rfl; (with_reducible repeat (first | refine blk_drewN ?_ _ | refine blk_drew ?_ | refine blk_alloc ?_ _)); refine blk_put (cs := #[.int .i64 x6_1, .int .i64 (rd t174 0), .int .i64 0, .int .i64 0, .string (⟨#[]⟩ : ByteArray), .slice none 0 0]) ?_ 2 _ rfl; (with_reducible repeat (first | refine blk_drewN ?_ _ | refine blk_drew ?_ | refine blk_alloc ?_ _)); refine blk_put (cs := #[.int .i64 x6_1, .int .i64 0, .int .i64 0, .int .i64 0, .string (⟨#[]⟩ : ByteArray), .slice none 0 0]) ?_ 1 _ rfl; (with_reducible repeat (first | refine blk_drewN ?_ _ | refine blk_drew ?_ | refine blk_alloc ?_ _)); refine blk_put (cs := #[.int .i64 0, .int .i64 0, .int .i64 0, .int .i64 0, .string (⟨#[]⟩ : ByteArray), .slice none 0 0]) ?_ 0 _ rfl; (with_reducible repeat (first | refine blk_drewN ?_ _ | refine blk_drew ?_ | refine blk_alloc ?_ _)); refine blk_far ?_ NB166_170.out _; (with_reducible repeat (first | refine blk_drewN ?_ _ | refine blk_drew ?_ | refine blk_alloc ?_ _)); refine blk_far ?_ NB166_170.out _; (with_reducible repeat (first | refine blk_drewN ?_ _ | refine blk_drew ?_ | refine blk_alloc ?_ _)); exact BK166.out) Tryd.underlying72 rfl (by kernel_rfl)) rfl ?_
                    exact ⟨_, by first | rfl | (simp [errW_none, errW_some] <;> rfl) | (simp [*, errW_none, errW_some] <;> rfl), by first | exact Kd.R_nil _ _ _ _ _ | exact Kd.N_nil _ _ _ _ _ | exact Kd.V_nil _ _ _ _ _ | exact Kd.Q_nil _ _ _ _ _ | exact Kd.S_nil _ _ _ _ _, by repeat (first | (with_reducible first | exact HB.out | apply below_alloc | apply pw_below_drewN | apply below_drew1 | refine below_set ?_ GE166.out | refine below_set ?_ GE170.out) | exact HB.out)⟩
                   ·rw [if_neg c72] at H
                    exact absurd H (by simp)
                  ·replace c71 := Bool.eq_false_iff.mpr c71
                   subst c71
                   have H1 : (if (t174.length : Int) > 1 then (if 1 ≤ (t174.length : Int) then ((some (t174.drop 1 : List Int)).bind fun y190 => (if ([] : List Int).length + y190.length < 17592186044416 then (some (x6_1, rd t174 0, 0, 0, t175, (([] : List Int) ++ y190), 0)) else (none))) else (none)) else (some (x6_1, rd t174 0, 0, 0, t175, ([] : List Int), 0))) = some (r1, r2, r3, r4, r5, r6, r7) := by rw [if_neg (show ¬ (false = true) by decide)] at H; exact H
                   clear H
                   have H := H1
                   clear H1
                   by_cases c77 : (t174.length : Int) > 1
                   ·rw [if_pos c77] at H
                    have c77b0 : decide (1 < (t174.length : Int)) = true := decide_eq_true c77
                    have c77b1 : decide (1 < t174.length) = true := decide_eq_true (by omega)
                    clear c77
                    by_cases c78 : 1 ≤ (t174.length : Int)
                    ·rw [if_pos c78] at H
                     have c78b0 := eq_true c78
                     have c78b1 : decide (1 ≤ (t174.length : Int)) = true := decide_eq_true c78
                     clear c78
                     obtain ⟨y190, hy190⟩ : ∃ y_ : List Int, y_ = (t174.drop 1) := ⟨_, rfl⟩
                     replace H : (if ([] : List Int).length + y190.length < 17592186044416 then (some (x6_1, rd t174 0, 0, 0, t175, (([] : List Int) ++ y190), 0)) else (none)) = some (r1, r2, r3, r4, r5, r6, r7) := by first | (rw [hy190]; with_reducible exact H) | (have H2_ := (Option.bind_some _ _).symm.trans H; rw [hy190]; with_reducible exact H2_) | (have H2_ := (Option.bind_some _ _).symm.trans H; with_reducible exact H2_) | with_reducible exact H | (rw [hy190]; exact H) | exact H
                     have Ny190 := Aside0.mk hy190
                     clear hy190
                     by_cases c79 : ([] : List Int).length + y190.length < 17592186044416
                     ·rw [if_pos c79] at H
                      have LMc79 := Aside0.mk c79
                      clear c79
                      obtain ⟨y194, hy194⟩ : ∃ y_ : List Int, y_ = (([] : List Int) ++ y190) := ⟨_, rfl⟩
                      replace H : (some (x6_1, rd t174 0, 0, 0, t175, y194, 0)) = some (r1, r2, r3, r4, r5, r6, r7) := by first | (rw [hy194]; with_reducible exact H) | (have H2_ := (Option.bind_some _ _).symm.trans H; rw [hy194]; with_reducible exact H2_) | (have H2_ := (Option.bind_some _ _).symm.trans H; with_reducible exact H2_) | with_reducible exact H | (rw [hy194]; exact H) | exact H
                      have Ny194 := Aside0.mk hy194
                      clear hy194
                      simp only [Option.some.injEq, Prod.mk.injEq] at H
                      obtain ⟨rfl, rfl, rfl, rfl, rfl, rfl, rfl⟩ := H
                      obtain ⟨Ao80, co80, eo80⟩ := Kd.R_slice HO_11.out
                      subst eo80
                      have p188 : 0 ≤ (0 : Int) := (by omega)
                      have q188 : 0 < (t174.length : Int) := of_decide_eq_true (by first | (with_reducible assumption) | assumption)
                      obtain ⟨ad188, e188, hx188_0⟩ := Kd.at_int (Kd.R_reads' HO_11.out).2.2 0 p188 q188
                      cases e188
                      have qi188 : (0 < t174.length) = True := eq_true (by omega)
                      (try rw [show ((0 : Int)).toNat = 0 from rfl] at hx188_0)
                      (try rw [Addr.add_zero'] at hx188_0)
                      replace p188 := eq_true p188
                      replace q188 := eq_true q188
                      have hnb81 := NB170_166.out
                      have hnc81 := NB166_170.out
                      have hcz82_0 : wc.cell? ⟨gb170, 0, none⟩ = some (.int .i64 x6_1) := (blk_cell BK170.out 0).trans rfl
                      have hcz82_1 : wc.cell? ⟨gb170, 1, none⟩ = some (.int .i64 0) := (blk_cell BK170.out 1).trans rfl
                      have hcz82_2 : wc.cell? ⟨gb170, 2, none⟩ = some (.int .i64 0) := (blk_cell BK170.out 2).trans rfl
                      have hcz82_3 : wc.cell? ⟨gb170, 3, none⟩ = some (.int .i64 0) := (blk_cell BK170.out 3).trans rfl
                      have hcz82_4 : wc.cell? ⟨gb170, 4, none⟩ = some (.string t175) := (blk_cell BK170.out 4).trans rfl
                      have hcz82_5 : wc.cell? ⟨gb170, 5, none⟩ = some (.slice none 0 0) := (blk_cell BK170.out 5).trans rfl
                      have hfz82_0 := blk_frozen BK170.out 0
                      have hfz82_1 := blk_frozen BK170.out 1
                      have hfz82_2 := blk_frozen BK170.out 2
                      have hfz82_3 := blk_frozen BK170.out 3
                      have hfz82_4 := blk_frozen BK170.out 4
                      have hfz82_5 := blk_frozen BK170.out 5
                      try go_wp2
                      have n0_ : Aside0 (Kd.R (Kd.int .i64) 3 (wc.setCell ⟨gb170, 1, none⟩ (.int .i64 (rd t174 0))) w.heap.size (fun _ => True) (.slice (some ad188) t174.length co80) t174) := ⟨by (with_reducible repeat (first | apply Kd.R_alloc | apply Kd.R_drewN | apply Kd.R_drew)); exact Kd.R_mono (Kd.R_far (p := ⟨gb170, 1, none⟩) (Kd.R_types HO_11.out BK170.out (by decide)) (fun _ hk => hk.2) (.int .i64 (rd t174 0))) (fun _ hk => trivial)⟩
                      have n1_ : Aside0 ((wc.setCell ⟨gb170, 1, none⟩ (.int .i64 (rd t174 0))).heap[gb166]? = some (.cells #[.int .i64 0, .int .i64 0, .int .i64 0, .int .i64 0, .string (⟨#[]⟩ : ByteArray), .slice none 0 0] 72 (0, 0))) := ⟨by (with_reducible repeat (first | refine blk_drewN ?_ _ | refine blk_drew ?_ | refine blk_alloc ?_ _)); refine blk_far ?_ NB166_170.out _; (with_reducible repeat (first | refine blk_drewN ?_ _ | refine blk_drew ?_ | refine blk_alloc ?_ _)); exact BK166.out⟩
                      have n2_ : Aside0 ((wc.setCell ⟨gb170, 1, none⟩ (.int .i64 (rd t174 0))).heap[gb170]? = some (.cells #[.int .i64 x6_1, .int .i64 (rd t174 0), .int .i64 0, .int .i64 0, .string t175, .slice none 0 0] 72 (0, 0))) := ⟨by (with_reducible repeat (first | refine blk_drewN ?_ _ | refine blk_drew ?_ | refine blk_alloc ?_ _)); refine blk_put (cs := #[.int .i64 x6_1, .int .i64 0, .int .i64 0, .int .i64 0, .string t175, .slice none 0 0]) ?_ 1 _ rfl; (with_reducible repeat (first | refine blk_drewN ?_ _ | refine blk_drew ?_ | refine blk_alloc ?_ _)); exact BK170.out⟩
                      have n3_ : Aside0 (Below w.heap.size w (wc.setCell ⟨gb170, 1, none⟩ (.int .i64 (rd t174 0)))) := ⟨by repeat (first | (with_reducible first | exact HB.out | apply below_alloc | apply pw_below_drewN | apply below_drew1 | refine below_set ?_ GE166.out | refine below_set ?_ GE170.out) | exact HB.out)⟩
                      (try clear HO_11)
                      (try clear BK166)
                      (try clear BK170)
                      (try clear HB)
                      generalize (wc.setCell ⟨gb170, 1, none⟩ (.int .i64 (rd t174 0))) = w83 at n0_ n1_ n2_ n3_ ⊢
                      have HO_11 := n0_
                      have BK166 := n1_
                      have BK170 := n2_
                      have HB := n3_
                      clear n0_ n1_ n2_ n3_
                      have n0_ := Aside0.mk (Kd.R_drew HO_11.out)
                      have n1_ := Aside0.mk (blk_drew BK166.out)
                      have n2_ := Aside0.mk (blk_drew BK170.out)
                      have n3_ := Aside0.mk (below_drew1 HB.out)
                      clear HO_11
                      clear BK166
                      clear BK170
                      clear HB
                      have HO_11 := n0_
                      have BK166 := n1_
                      have BK170 := n2_
                      have HB := n3_
                      clear n0_ n1_ n2_ n3_
                      have q85 : (1 : Int) ≤ ((t174.length : Int) : Int) := of_decide_eq_true (by first | (with_reducible assumption) | assumption)
                      obtain ⟨i085, hi085, _, hsz85, _⟩ := info_parts info3
                      have hroom85 : t174.length ≤ co80 := (Kd.R_reads' HO_11.out).2.1
                      have hC85 : Kd.C (Kd.int .i64) _ (some ad188) t174.length t174 := (Kd.R_reads' HO_11.out).2.2
                      have hcut85 := cut_from (P := Tryd.prog) 66 3 .i64 Tryd.underlying66 hi085 1 hsz85 (some ad188) t174.length co80 1 (by omega) q85
                      have hr85 := Kd.C_drop (m := (1 : Int).toNat) (c := co80) hC85 (by omega) hroom85
                      obtain ⟨A85, hA85⟩ : ∃ A1, A1 = (if co80 = (1 : Int).toNat then (some ad188) else ((some ad188) : Option Addr).map (·.add ((1 : Int).toNat * 1))) := ⟨_, rfl⟩
                      obtain ⟨c85, hc85⟩ : ∃ c1, c1 = co80 - (1 : Int).toNat := ⟨_, rfl⟩
                      have hy85 : y190.length = t174.length - (1 : Int).toNat := (by rw [Ny190.out, List.length_drop] <;> omega)
                      rw [show (t174).drop (1 : Int).toNat = y190 from Ny190.out.symm] at hr85
                      replace hr85 : Kd.C (Kd.int .i64) _ A85 y190.length y190 := (by rw [hA85]; exact hr85)
                      rw [← hy85, ← hA85, ← hc85] at hcut85
                      have HR193 := Aside0.mk hr85
                      have HC193 := Aside0.mk (show y190.length ≤ c85 from by rw [hy85, hc85]; exact Nat.sub_le_sub_right hroom85 _)
                      clear hr85 hC85 hroom85 hi085 hsz85 hc85
                      have KY85 := Aside0.mk hy85
                      have KA85 := Aside0.mk hA85
                      clear hy85 hA85
                      have KL85 := Aside0.mk (show 1 ≤ t174.length from by omega)
                      replace q85 := eq_true q85
                      refine start_ (n := 7) (S := fun w' => w'.cell? ⟨gb170, 0, none⟩ = some (.int .i64 x6_1) ∧ w'.cell? ⟨gb170, 1, none⟩ = some (.int .i64 (rd t174 0)) ∧ w'.cell? ⟨gb170, 2, none⟩ = some (.int .i64 0) ∧ w'.cell? ⟨gb170, 3, none⟩ = some (.int .i64 0) ∧ w'.cell? ⟨gb170, 4, none⟩ = some (.string t175) ∧ w'.cell? ⟨gb170, 5, none⟩ = some (.slice none 0 0)) (ds := [6]) #[false, false, false, false, false, false, false] (by kernel_rfl) rfl rfl ⟨(blk_cell BK170.out 0).trans rfl, (blk_cell BK170.out 1).trans rfl, (blk_cell BK170.out 2).trans rfl, (blk_cell BK170.out 3).trans rfl, (blk_cell BK170.out 4).trans rfl, (blk_cell BK170.out 5).trans rfl⟩ (fun hHeld => ?_)
                      generalize w83.drew = w84 at HO_11 BK166 BK170 HB HR193 hHeld ⊢
                      refine pure_ (i := 0) (N := some 138) (v := ?_) (a' := ?_) #[true, false, false, false, false, false, false] rfl rfl (by kernel_rfl) (fun _ _ _ h => h) (Or.inl ⟨by rfl, ?_⟩) ?_ ?_
                      rotate_left
                      ·intro w'
                       go_simp
                       with_reducible rfl
                      rotate_left
                      ·simp only [Act.put, List.setIfInBounds_toArray, List.set_cons_zero, List.set_cons_succ, i64_w, i32_w]
                       rfl
                      refine pure_ (i := 2) (N := some 140) (v := ?_) (a' := ?_) #[true, false, true, false, false, false, false] rfl rfl (by kernel_rfl) (fun _ _ _ h => h) (Or.inl ⟨by rfl, ?_⟩) ?_ ?_
                      rotate_left
                      ·intro w'
                       go_simp
                       with_reducible rfl
                      rotate_left
                      ·simp only [Act.put, List.setIfInBounds_toArray, List.set_cons_zero, List.set_cons_succ, i64_w, i32_w]
                       rfl
                      refine pure_ (i := 3) (N := some 141) (v := ?_) (a' := ?_) #[true, false, true, true, false, false, false] rfl rfl (by kernel_rfl) (fun _ _ _ h => h) (Or.inl ⟨by rfl, ?_⟩) ?_ ?_
                      rotate_left
                      ·intro w'
                       go_simp
                       with_reducible rfl
                      rotate_left
                      ·simp only [Act.put, List.setIfInBounds_toArray, List.set_cons_zero, List.set_cons_succ, i64_w, i32_w]
                       rfl
                      refine take_ (i := 1) (N := some 139) (v := ?_) (a' := ?_) #[true, true, true, true, false, false, false] rfl rfl (by kernel_rfl) (fun _ _ _ h => h) (Or.inl ⟨by rfl, ?_⟩) hHeld ?_ ?_
                      rotate_left
                      ·rintro w' ⟨s0, s1, s2, s3, s4, s5⟩
                       go_simp
                       with_reducible rfl
                      rotate_left
                      ·simp only [Act.put, List.setIfInBounds_toArray, List.set_cons_zero, List.set_cons_succ, i64_w, i32_w]
                       rfl
                      refine one_ (i := 4) (N := some 142) #[true, true, true, true, true, false, false] rfl rfl (by kernel_rfl) (by decide) (fun K hK => ?_)
                      refine Kd.R_append_rows_step (Kd.int .i64) (w0 := w) w.heap.size (by rfl) (.tmp 139) (.tmp 141) 66 3 (.int .i64 0) 8 rfl Tryd.underlying66 info3 rfl (by decide) (by omega) (.slice none 0 0) ([] : List Int) y190 _ _ _ (fun k_ => some k_ ≠ (.slice (some ad188) t174.length co80 : Value).ownBlock) (fun _ => False) rfl rfl ?aO ?aR (fun _ _ h => h) (fun _ h => h.elim) ?aF ?aB ?aS ?aL ?_
                      (case aR => repeat (first | exact (by repeat (first | (with_reducible exact HR193.out) | (with_reducible refine Kd.C_alloc ?_ _) | (with_reducible refine Kd.C_drewN ?_ _) | (with_reducible refine Kd.C_drew ?_) | exact HR193.out)) | (with_reducible refine Kd.C_alloc ?_ _) | (with_reducible refine Kd.C_drewN ?_ _) | (with_reducible refine Kd.C_drew ?_)))
                      (case aB => exact (by repeat (first | (with_reducible first | exact HB.out | apply below_alloc | apply pw_below_drewN | apply below_drew1 | refine below_set ?_ GE166.out | refine below_set ?_ GE170.out) | exact HB.out)))
                      (case aF => exact (fun k_ hk => Kd.fresh' (Kd.R_lt (by (with_reducible repeat (first | apply Kd.R_alloc | apply Kd.R_drewN | apply Kd.R_drew)); exact HO_11.out)) k_ hk))
                      (case aO => exact ((Kd.R_nil _ _ _ _ (fun k_ => some k_ ≠ (.slice (some ad188) t174.length co80 : Value).ownBlock))))
                      (case aS => exact (below_size (by repeat (first | (with_reducible first | exact HB.out | apply below_alloc | apply pw_below_drewN | apply below_drew1 | refine below_set ?_ GE166.out | refine below_set ?_ GE170.out) | exact HB.out))))
                      (case aL => have := LMc79.out; omega)
                      intro v195 w86 ho hb hg hat
                      rw [← Ny194.out] at ho
                      have n0_ := Aside0.mk (Kd.R_after (Kd.R_apart_nil (by (with_reducible repeat (first | apply Kd.R_alloc | apply Kd.R_drewN | apply Kd.R_drew)); exact HO_11.out)) hg hat)
                      have n1_ := Aside0.mk (blk_grown (g := gb166) (o := .cells #[.int .i64 0, .int .i64 0, .int .i64 0, .int .i64 0, .string (⟨#[]⟩ : ByteArray), .slice none 0 0] 72 (0, 0)) (by (with_reducible repeat (first | refine blk_drewN ?_ _ | refine blk_drew ?_ | refine blk_alloc ?_ _)); exact BK166.out) hg (by simp [Value.ownBlock]))
                      have n2_ := Aside0.mk (blk_grown (g := gb170) (o := .cells #[.int .i64 x6_1, .int .i64 (rd t174 0), .int .i64 0, .int .i64 0, .string t175, .slice none 0 0] 72 (0, 0)) (by (with_reducible repeat (first | refine blk_drewN ?_ _ | refine blk_drew ?_ | refine blk_alloc ?_ _)); exact BK170.out) hg (by simp [Value.ownBlock]))
                      have n3_ := Aside0.mk (hb)
                      have n4_ := Aside0.mk ((show Kd.C (Kd.int .i64) w86 A85 y190.length y190 from by rw [Ny190.out, KA85.out]; exact Kd.C_drop (m := 1) (c := co80) ((Kd.R_reads' (Kd.R_after (Kd.R_apart_nil (by (with_reducible repeat (first | apply Kd.R_alloc | apply Kd.R_drewN | apply Kd.R_drew)); exact HO_11.out)) hg hat)).2.2) KL85.out ((Kd.R_reads' (Kd.R_after (Kd.R_apart_nil (by (with_reducible repeat (first | apply Kd.R_alloc | apply Kd.R_drewN | apply Kd.R_drew)); exact HO_11.out)) hg hat)).2.1)))
                      have n5_ := Aside0.mk (ho)
                      clear HO_11
                      clear BK166
                      clear BK170
                      clear HB
                      clear HR193
                      have HO_11 := n0_
                      have BK166 := n1_
                      have BK170 := n2_
                      have HB := n3_
                      have HR193 := n4_
                      have HO196 := n5_
                      clear n0_ n1_ n2_ n3_ n4_ n5_
                      clear ho hb hg hat
                      obtain ⟨Ao87, co87, eo87⟩ := Kd.R_slice HO196.out
                      (first | subst eo87 | (injection eo87 with f1_ f2_ f3_; have f4_ := f1_.symm; have f5_ := f3_.symm; clear f1_ f2_ f3_; subst f4_; subst f5_))
                      refine hK.out _ _ ⟨(blk_cell BK170.out 0).trans rfl, (blk_cell BK170.out 1).trans rfl, (blk_cell BK170.out 2).trans rfl, (blk_cell BK170.out 3).trans rfl, (blk_cell BK170.out 4).trans rfl, (blk_cell BK170.out 5).trans rfl⟩ (fun hHeld => ?_)
                      clear hK K
                      refine norm_ (a' := ?_) ?_ ?_
                      rotate_left
                      ·show Act.put _ (some 142) _ = _
                       simp only [Act.put, List.setIfInBounds_toArray, List.set_cons_zero, List.set_cons_succ, i64_w, i32_w]
                       rfl
                      refine pure_ (i := 5) (N := some 143) (v := ?_) (a' := ?_) #[true, true, true, true, true, true, false] rfl rfl (by kernel_rfl) (fun _ _ _ h => h) (Or.inl ⟨by rfl, ?_⟩) ?_ ?_
                      rotate_left
                      ·intro w'
                       go_simp
                       with_reducible rfl
                      rotate_left
                      ·simp only [Act.put, List.setIfInBounds_toArray, List.set_cons_zero, List.set_cons_succ, i64_w, i32_w]
                       rfl
                      refine last_ (i := 6) (N := none) #[true, true, true, true, true, true, true] rfl rfl (by kernel_rfl) (by decide) (fun K hK => ?_)
                      have hs88 : w86.cell? ⟨gb170, 5, none⟩ = some (.slice none 0 0) := (blk_cell BK170.out 5).trans rfl
                      have hfs88 := blk_frozen BK170.out 5
                      have hns88_0 := NB166_170.out
                      have hms88_0 := NB170_166.out
                      refine skip_ (w1 := ?_) (by rfl) rfl ?_ ?_
                      rotate_left
                      ·go_simp
                       rfl
                      refine hK.out _ _ ?_
                      clear hK K
                      refine done_ (by kernel_rfl) ?_
                      have hcz89_0 : w86.cell? ⟨gb170, 0, none⟩ = some (.int .i64 x6_1) := (blk_cell BK170.out 0).trans rfl
                      have hcz89_1 : w86.cell? ⟨gb170, 1, none⟩ = some (.int .i64 (rd t174 0)) := (blk_cell BK170.out 1).trans rfl
                      have hcz89_2 : w86.cell? ⟨gb170, 2, none⟩ = some (.int .i64 0) := (blk_cell BK170.out 2).trans rfl
                      have hcz89_3 : w86.cell? ⟨gb170, 3, none⟩ = some (.int .i64 0) := (blk_cell BK170.out 3).trans rfl
                      have hcz89_4 : w86.cell? ⟨gb170, 4, none⟩ = some (.string t175) := (blk_cell BK170.out 4).trans rfl
                      have hcz89_5 : w86.cell? ⟨gb170, 5, none⟩ = some (.slice none 0 0) := (blk_cell BK170.out 5).trans rfl
                      have hfz89_0 := blk_frozen BK170.out 0
                      have hfz89_1 := blk_frozen BK170.out 1
                      have hfz89_2 := blk_frozen BK170.out 2
                      have hfz89_3 := blk_frozen BK170.out 3
                      have hfz89_4 := blk_frozen BK170.out 4
                      have hfz89_5 := blk_frozen BK170.out 5
                      have hcz90_0 : w86.cell? ⟨gb166, 0, none⟩ = some (.int .i64 0) := (blk_cell BK166.out 0).trans rfl
                      have hcz90_1 : w86.cell? ⟨gb166, 1, none⟩ = some (.int .i64 0) := (blk_cell BK166.out 1).trans rfl
                      have hcz90_2 : w86.cell? ⟨gb166, 2, none⟩ = some (.int .i64 0) := (blk_cell BK166.out 2).trans rfl
                      have hcz90_3 : w86.cell? ⟨gb166, 3, none⟩ = some (.int .i64 0) := (blk_cell BK166.out 3).trans rfl
                      have hcz90_4 : w86.cell? ⟨gb166, 4, none⟩ = some (.string (⟨#[]⟩ : ByteArray)) := (blk_cell BK166.out 4).trans rfl
                      have hcz90_5 : w86.cell? ⟨gb166, 5, none⟩ = some (.slice none 0 0) := (blk_cell BK166.out 5).trans rfl
                      have hfz90_0 := blk_frozen BK166.out 0
                      have hfz90_1 := blk_frozen BK166.out 1
                      have hfz90_2 := blk_frozen BK166.out 2
                      have hfz90_3 := blk_frozen BK166.out 3
                      have hfz90_4 := blk_frozen BK166.out 4
                      have hfz90_5 := blk_frozen BK166.out 5
                      try go_wp2
                      refine bodyPost_ret (results_ct rfl _ _ gb166 72 #[.int .i64 x6_1, .int .i64 (rd t174 0), .int .i64 0, .int .i64 0, .string t175, .slice Ao87 y194.length co87] (0, 0) _ rfl (by (with_reducible repeat (first | refine blk_drewN ?_ _ | refine blk_drew ?_ | refine blk_alloc ?_ _)); refine blk_put (cs := #[.int .i64 x6_1, .int .i64 (rd t174 0), .int .i64 0, .int .i64 0, .string t175, .slice none 0 0]) ?_ 5 _ rfl; (with_reducible repeat (first | refine blk_drewN ?_ _ | refine blk_drew ?_ | refine blk_alloc ?_ _)); refine blk_put (cs := #[.int .i64 x6_1, .int .i64 (rd t174 0), .int .i64 0, .int .i64 0, .string (⟨#[]⟩ : ByteArray), .slice none 0 0]) ?_ 4 _ rfl; (with_reducible repeat (first | refine blk_drewN ?_ _ | refine blk_drew ?_ | refine blk_alloc ?_ _)); refine blk_put (cs := #[.int .i64 x6_1, .int .i64 (rd t174 0), .int .i64 0, .int .i64 0, .string (⟨#[]⟩ : ByteArray), .slice none 0 0]) ?_ 3 _ rfl; (with_reducible repeat (first | refine blk_drewN ?_ _ | refine blk_drew ?_ | refine blk_alloc ?_ _)); refine blk_put (cs := #[.int .i64 x6_1, .int .i64 (rd t174 0), .int .i64 0, .int .i64 0, .string (⟨#[]⟩ : ByteArray), .slice none 0 0]) ?_ 2 _ rfl; (with_reducible repeat (first | refine blk_drewN ?_ _ | refine blk_drew ?_ | refine blk_alloc ?_ _)); refine blk_put (cs := #[.int .i64 x6_1, .int .i64 0, .int .i64 0, .int .i64 0, .string (⟨#[]⟩ : ByteArray), .slice none 0 0]) ?_ 1 _ rfl; (with_reducible repeat (first | refine blk_drewN ?_ _ | refine blk_drew ?_ | refine blk_alloc ?_ _)); refine blk_put (cs := #[.int .i64 0, .int .i64 0, .int .i64 0, .int .i64 0, .string (⟨#[]⟩ : ByteArray), .slice none 0 0]) ?_ 0 _ rfl; (with_reducible repeat (first | refine blk_drewN ?_ _ | refine blk_drew ?_ | refine blk_alloc ?_ _)); refine blk_far ?_ NB166_170.out _; (with_reducible repeat (first | refine blk_drewN ?_ _ | refine blk_drew ?_ | refine blk_alloc ?_ _)); exact BK166.out) Tryd.underlying72 rfl (by kernel_rfl)) rfl ?_
                      exact ⟨_, by first | rfl | (simp [errW_none, errW_some] <;> rfl) | (simp [*, errW_none, errW_some] <;> rfl), by (with_reducible repeat (first | apply Kd.R_alloc | apply Kd.R_drewN | apply Kd.R_drew)); exact Kd.R_mono (Kd.R_far (p := ⟨gb166, 5, none⟩) (Kd.R_far (p := ⟨gb166, 4, none⟩) (Kd.R_far (p := ⟨gb166, 3, none⟩) (Kd.R_far (p := ⟨gb166, 2, none⟩) (Kd.R_far (p := ⟨gb166, 1, none⟩) (Kd.R_far (p := ⟨gb166, 0, none⟩) (Kd.R_far (p := ⟨gb170, 5, none⟩) (Kd.R_types (Kd.R_types HO196.out BK170.out (by decide)) BK166.out (by decide)) (fun _ hk => hk.1.2) (.slice Ao87 y194.length co87)) (fun _ hk => hk.2) (.int .i64 x6_1)) (fun _ hk => hk.2) (.int .i64 (rd t174 0))) (fun _ hk => hk.2) (.int .i64 0)) (fun _ hk => hk.2) (.int .i64 0)) (fun _ hk => hk.2) (.string t175)) (fun _ hk => hk.2) (.slice Ao87 y194.length co87)) (fun _ hk => trivial), by repeat (first | (with_reducible first | exact HB.out | apply below_alloc | apply pw_below_drewN | apply below_drew1 | refine below_set ?_ GE166.out | refine below_set ?_ GE170.out) | exact HB.out)⟩
                     ·rw [if_neg c79] at H
                      exact absurd H (by simp)
                    ·rw [if_neg c78] at H
                     exact absurd H (by simp)
                   ·rw [if_neg c77] at H
                    have c77b0 : decide (1 < (t174.length : Int)) = false := decide_eq_false c77
                    have c77b1 : decide (1 < t174.length) = false := decide_eq_false (by omega)
                    clear c77
                    simp only [Option.some.injEq, Prod.mk.injEq] at H
                    obtain ⟨rfl, rfl, rfl, rfl, rfl, rfl, rfl⟩ := H
                    obtain ⟨Ao91, co91, eo91⟩ := Kd.R_slice HO_11.out
                    subst eo91
                    have p188 : 0 ≤ (0 : Int) := (by omega)
                    have q188 : 0 < (t174.length : Int) := of_decide_eq_true (by first | (with_reducible assumption) | assumption)
                    obtain ⟨ad188, e188, hx188_0⟩ := Kd.at_int (Kd.R_reads' HO_11.out).2.2 0 p188 q188
                    cases e188
                    have qi188 : (0 < t174.length) = True := eq_true (by omega)
                    (try rw [show ((0 : Int)).toNat = 0 from rfl] at hx188_0)
                    (try rw [Addr.add_zero'] at hx188_0)
                    replace p188 := eq_true p188
                    replace q188 := eq_true q188
                    have hnb92 := NB170_166.out
                    have hnc92 := NB166_170.out
                    have hcz93_0 : wc.cell? ⟨gb170, 0, none⟩ = some (.int .i64 x6_1) := (blk_cell BK170.out 0).trans rfl
                    have hcz93_1 : wc.cell? ⟨gb170, 1, none⟩ = some (.int .i64 0) := (blk_cell BK170.out 1).trans rfl
                    have hcz93_2 : wc.cell? ⟨gb170, 2, none⟩ = some (.int .i64 0) := (blk_cell BK170.out 2).trans rfl
                    have hcz93_3 : wc.cell? ⟨gb170, 3, none⟩ = some (.int .i64 0) := (blk_cell BK170.out 3).trans rfl
                    have hcz93_4 : wc.cell? ⟨gb170, 4, none⟩ = some (.string t175) := (blk_cell BK170.out 4).trans rfl
                    have hcz93_5 : wc.cell? ⟨gb170, 5, none⟩ = some (.slice none 0 0) := (blk_cell BK170.out 5).trans rfl
                    have hfz93_0 := blk_frozen BK170.out 0
                    have hfz93_1 := blk_frozen BK170.out 1
                    have hfz93_2 := blk_frozen BK170.out 2
                    have hfz93_3 := blk_frozen BK170.out 3
                    have hfz93_4 := blk_frozen BK170.out 4
                    have hfz93_5 := blk_frozen BK170.out 5
                    have hcz94_0 : wc.cell? ⟨gb166, 0, none⟩ = some (.int .i64 0) := (blk_cell BK166.out 0).trans rfl
                    have hcz94_1 : wc.cell? ⟨gb166, 1, none⟩ = some (.int .i64 0) := (blk_cell BK166.out 1).trans rfl
                    have hcz94_2 : wc.cell? ⟨gb166, 2, none⟩ = some (.int .i64 0) := (blk_cell BK166.out 2).trans rfl
                    have hcz94_3 : wc.cell? ⟨gb166, 3, none⟩ = some (.int .i64 0) := (blk_cell BK166.out 3).trans rfl
                    have hcz94_4 : wc.cell? ⟨gb166, 4, none⟩ = some (.string (⟨#[]⟩ : ByteArray)) := (blk_cell BK166.out 4).trans rfl
                    have hcz94_5 : wc.cell? ⟨gb166, 5, none⟩ = some (.slice none 0 0) := (blk_cell BK166.out 5).trans rfl
                    have hfz94_0 := blk_frozen BK166.out 0
                    have hfz94_1 := blk_frozen BK166.out 1
                    have hfz94_2 := blk_frozen BK166.out 2
                    have hfz94_3 := blk_frozen BK166.out 3
                    have hfz94_4 := blk_frozen BK166.out 4
                    have hfz94_5 := blk_frozen BK166.out 5
                    go_wp2
                    refine bodyPost_ret (results_ct rfl _ _ gb166 72 #[.int .i64 x6_1, .int .i64 (rd t174 0), .int .i64 0, .int .i64 0, .string t175, .slice none 0 0] (0, 0) _ rfl (by (with_reducible repeat (first | refine blk_drewN ?_ _ | refine blk_drew ?_ | refine blk_alloc ?_ _)); refine blk_put (cs := #[.int .i64 x6_1, .int .i64 (rd t174 0), .int .i64 0, .int .i64 0, .string t175, .slice none 0 0]) ?_ 5 _ rfl; (with_reducible repeat (first | refine blk_drewN ?_ _ | refine blk_drew ?_ | refine blk_alloc ?_ _)); refine blk_put (cs := #[.int .i64 x6_1, .int .i64 (rd t174 0), .int .i64 0, .int .i64 0, .string (⟨#[]⟩ : ByteArray), .slice none 0 0]) ?_ 4 _ rfl; (with_reducible repeat (first | refine blk_drewN ?_ _ | refine blk_drew ?_ | refine blk_alloc ?_ _)); refine blk_put (cs := #[.int .i64 x6_1, .int .i64 (rd t174 0), .int .i64 0, .int .i64 0, .string (⟨#[]⟩ : ByteArray), .slice none 0 0]) ?_ 3 _ rfl; (with_reducible repeat (first | refine blk_drewN ?_ _ | refine blk_drew ?_ | refine blk_alloc ?_ _)); refine blk_put (cs := #[.int .i64 x6_1, .int .i64 (rd t174 0), .int .i64 0, .int .i64 0, .string (⟨#[]⟩ : ByteArray), .slice none 0 0]) ?_ 2 _ rfl; (with_reducible repeat (first | refine blk_drewN ?_ _ | refine blk_drew ?_ | refine blk_alloc ?_ _)); refine blk_put (cs := #[.int .i64 x6_1, .int .i64 0, .int .i64 0, .int .i64 0, .string (⟨#[]⟩ : ByteArray), .slice none 0 0]) ?_ 1 _ rfl; (with_reducible repeat (first | refine blk_drewN ?_ _ | refine blk_drew ?_ | refine blk_alloc ?_ _)); refine blk_put (cs := #[.int .i64 0, .int .i64 0, .int .i64 0, .int .i64 0, .string (⟨#[]⟩ : ByteArray), .slice none 0 0]) ?_ 0 _ rfl; (with_reducible repeat (first | refine blk_drewN ?_ _ | refine blk_drew ?_ | refine blk_alloc ?_ _)); refine blk_far ?_ NB166_170.out _; (with_reducible repeat (first | refine blk_drewN ?_ _ | refine blk_drew ?_ | refine blk_alloc ?_ _)); exact BK166.out) Tryd.underlying72 rfl (by kernel_rfl)) rfl ?_
                    exact ⟨_, by first | rfl | (simp [errW_none, errW_some] <;> rfl) | (simp [*, errW_none, errW_some] <;> rfl), by first | exact Kd.R_nil _ _ _ _ _ | exact Kd.N_nil _ _ _ _ _ | exact Kd.V_nil _ _ _ _ _ | exact Kd.Q_nil _ _ _ _ _ | exact Kd.S_nil _ _ _ _ _, by repeat (first | (with_reducible first | exact HB.out | apply below_alloc | apply pw_below_drewN | apply below_drew1 | refine below_set ?_ GE166.out | refine below_set ?_ GE170.out) | exact HB.out)⟩
                 ·rw [if_neg c70] at H
                  exact absurd H (by simp)
                ·rw [if_neg c69] at H
                 have c69b0 : (x6_1 == 11) = false := beq_eq_false_iff_ne.mpr c69
                 have c69b1 : (x6_1 != 11) = true := bne_iff_ne.mpr c69
                 by_cases c95 : 0 < (t174.length : Int)
                 ·rw [if_pos c95] at H
                  have c95b0 : decide (0 < (t174.length : Int)) = true := decide_eq_true c95
                  have c95b1 : decide (0 < t174.length) = true := decide_eq_true (by omega)
                  clear c95
                  by_cases c96 : 1 < (t174.length : Int)
                  ·rw [if_pos c96] at H
                   have c96b0 : decide (1 < (t174.length : Int)) = true := decide_eq_true c96
                   have c96b1 : decide (1 < t174.length) = true := decide_eq_true (by omega)
                   clear c96
                   simp only [Option.some.injEq, Prod.mk.injEq] at H
                   obtain ⟨rfl, rfl, rfl, rfl, rfl, rfl, rfl⟩ := H
                   obtain ⟨Ao97, co97, eo97⟩ := Kd.R_slice HO_11.out
                   subst eo97
                   have p197 : 0 ≤ (0 : Int) := (by omega)
                   have q197 : 0 < (t174.length : Int) := of_decide_eq_true (by first | (with_reducible assumption) | assumption)
                   obtain ⟨ad197, e197, hx197_0⟩ := Kd.at_int (Kd.R_reads' HO_11.out).2.2 0 p197 q197
                   cases e197
                   have qi197 : (0 < t174.length) = True := eq_true (by omega)
                   (try rw [show ((0 : Int)).toNat = 0 from rfl] at hx197_0)
                   (try rw [Addr.add_zero'] at hx197_0)
                   replace p197 := eq_true p197
                   replace q197 := eq_true q197
                   have hnb98 := NB170_166.out
                   have hnc98 := NB166_170.out
                   have hcz99_0 : wc.cell? ⟨gb170, 0, none⟩ = some (.int .i64 x6_1) := (blk_cell BK170.out 0).trans rfl
                   have hcz99_1 : wc.cell? ⟨gb170, 1, none⟩ = some (.int .i64 0) := (blk_cell BK170.out 1).trans rfl
                   have hcz99_2 : wc.cell? ⟨gb170, 2, none⟩ = some (.int .i64 0) := (blk_cell BK170.out 2).trans rfl
                   have hcz99_3 : wc.cell? ⟨gb170, 3, none⟩ = some (.int .i64 0) := (blk_cell BK170.out 3).trans rfl
                   have hcz99_4 : wc.cell? ⟨gb170, 4, none⟩ = some (.string t175) := (blk_cell BK170.out 4).trans rfl
                   have hcz99_5 : wc.cell? ⟨gb170, 5, none⟩ = some (.slice none 0 0) := (blk_cell BK170.out 5).trans rfl
                   have hfz99_0 := blk_frozen BK170.out 0
                   have hfz99_1 := blk_frozen BK170.out 1
                   have hfz99_2 := blk_frozen BK170.out 2
                   have hfz99_3 := blk_frozen BK170.out 3
                   have hfz99_4 := blk_frozen BK170.out 4
                   have hfz99_5 := blk_frozen BK170.out 5
                   have p198 : 0 ≤ (1 : Int) := (by omega)
                   have q198 : 1 < (t174.length : Int) := of_decide_eq_true (by first | (with_reducible assumption) | assumption)
                   obtain ⟨ad198, e198, hx198_0⟩ := Kd.at_int (Kd.R_reads' HO_11.out).2.2 1 p198 q198
                   obtain rfl : ad197 = ad198 := (by injection e198)
                   (try simp only [show (1 : Int).toNat = 1 from rfl, Nat.reduceMul, Nat.reduceEqDiff, Go.Addr.add, ↓reduceIte] at hx198_0)
                   have qi198 : (1 < t174.length) = True := eq_true (by omega)
                   (try rw [show ((1 : Int)).toNat = 1 from rfl] at hx198_0)
                   have hn198_0 : ad197.block ≠ gb170 := Kd.own_blk (Kd.R_ne HO_11.out BK170.out (by decide))
                   replace hx198_0 := (cell_far (p := ⟨gb170, 1, none⟩) (by first | (rw [add_block]; exact hn198_0) | (show (Addr.add _ _).block ≠ _; rw [add_block]; exact hn198_0) | exact hn198_0) (.int .i64 (rd t174 0))).trans hx198_0
                   clear hn198_0
                   replace p198 := eq_true p198
                   replace q198 := eq_true q198
                   have hcz100_0 : wc.cell? ⟨gb166, 0, none⟩ = some (.int .i64 0) := (blk_cell BK166.out 0).trans rfl
                   have hcz100_1 : wc.cell? ⟨gb166, 1, none⟩ = some (.int .i64 0) := (blk_cell BK166.out 1).trans rfl
                   have hcz100_2 : wc.cell? ⟨gb166, 2, none⟩ = some (.int .i64 0) := (blk_cell BK166.out 2).trans rfl
                   have hcz100_3 : wc.cell? ⟨gb166, 3, none⟩ = some (.int .i64 0) := (blk_cell BK166.out 3).trans rfl
                   have hcz100_4 : wc.cell? ⟨gb166, 4, none⟩ = some (.string (⟨#[]⟩ : ByteArray)) := (blk_cell BK166.out 4).trans rfl
                   have hcz100_5 : wc.cell? ⟨gb166, 5, none⟩ = some (.slice none 0 0) := (blk_cell BK166.out 5).trans rfl
                   have hfz100_0 := blk_frozen BK166.out 0
                   have hfz100_1 := blk_frozen BK166.out 1
                   have hfz100_2 := blk_frozen BK166.out 2
                   have hfz100_3 := blk_frozen BK166.out 3
                   have hfz100_4 := blk_frozen BK166.out 4
                   have hfz100_5 := blk_frozen BK166.out 5
                   go_wp2
                   refine bodyPost_ret (results_ct rfl _ _ gb166 72 #[.int .i64 x6_1, .int .i64 (rd t174 0), .int .i64 (rd t174 1), .int .i64 0, .string t175, .slice none 0 0] (0, 0) _ rfl (by (with_reducible repeat (first | refine blk_drewN ?_ _ | refine blk_drew ?_ | refine blk_alloc ?_ _)); refine blk_put (cs := #[.int .i64 x6_1, .int .i64 (rd t174 0), .int .i64 (rd t174 1), .int .i64 0, .string t175, .slice none 0 0]) ?_ 5 _ rfl; (with_reducible repeat (first | refine blk_drewN ?_ _ | refine blk_drew ?_ | refine blk_alloc ?_ _)); refine blk_put (cs := #[.int .i64 x6_1, .int .i64 (rd t174 0), .int .i64 (rd t174 1), .int .i64 0, .string (⟨#[]⟩ : ByteArray), .slice none 0 0]) ?_ 4 _ rfl; (with_reducible repeat (first | refine blk_drewN ?_ _ | refine blk_drew ?_ | refine blk_alloc ?_ _)); refine blk_put (cs := #[.int .i64 x6_1, .int .i64 (rd t174 0), .int .i64 (rd t174 1), .int .i64 0, .string (⟨#[]⟩ : ByteArray), .slice none 0 0]) ?_ 3 _ rfl; (with_reducible repeat (first | refine blk_drewN ?_ _ | refine blk_drew ?_ | refine blk_alloc ?_ _)); refine blk_put (cs := #[.int .i64 x6_1, .int .i64 (rd t174 0), .int .i64 0, .int .i64 0, .string (⟨#[]⟩ : ByteArray), .slice none 0 0]) ?_ 2 _ rfl; (with_reducible repeat (first | refine blk_drewN ?_ _ | refine blk_drew ?_ | refine blk_alloc ?_ _)); refine blk_put (cs := #[.int .i64 x6_1, .int .i64 0, .int .i64 0, .int .i64 0, .string (⟨#[]⟩ : ByteArray), .slice none 0 0]) ?_ 1 _ rfl; (with_reducible repeat (first | refine blk_drewN ?_ _ | refine blk_drew ?_ | refine blk_alloc ?_ _)); refine blk_put (cs := #[.int .i64 0, .int .i64 0, .int .i64 0, .int .i64 0, .string (⟨#[]⟩ : ByteArray), .slice none 0 0]) ?_ 0 _ rfl; (with_reducible repeat (first | refine blk_drewN ?_ _ | refine blk_drew ?_ | refine blk_alloc ?_ _)); refine blk_far ?_ NB166_170.out _; (with_reducible repeat (first | refine blk_drewN ?_ _ | refine blk_drew ?_ | refine blk_alloc ?_ _)); refine blk_far ?_ NB166_170.out _; (with_reducible repeat (first | refine blk_drewN ?_ _ | refine blk_drew ?_ | refine blk_alloc ?_ _)); exact BK166.out) Tryd.underlying72 rfl (by kernel_rfl)) rfl ?_
                   exact ⟨_, by first | rfl | (simp [errW_none, errW_some] <;> rfl) | (simp [*, errW_none, errW_some] <;> rfl), by first | exact Kd.R_nil _ _ _ _ _ | exact Kd.N_nil _ _ _ _ _ | exact Kd.V_nil _ _ _ _ _ | exact Kd.Q_nil _ _ _ _ _ | exact Kd.S_nil _ _ _ _ _, by repeat (first | (with_reducible first | exact HB.out | apply below_alloc | apply pw_below_drewN | apply below_drew1 | refine below_set ?_ GE166.out | refine below_set ?_ GE170.out) | exact HB.out)⟩
                  ·rw [if_neg c96] at H
                   exact absurd H (by simp)
                 ·rw [if_neg c95] at H
                  exact absurd H (by simp)
       ·rw [if_neg c28] at H
        have c28b0 : (t176 == 0) = false := beq_eq_false_iff_ne.mpr c28
        have c28b1 : (t176 != 0) = true := bne_iff_ne.mpr c28
        simp only [Option.some.injEq, Prod.mk.injEq] at H
        obtain ⟨rfl, rfl, rfl, rfl, rfl, rfl, rfl⟩ := H
        go_wp2_with (first | ((with_reducible refine gate_callee (f := 53) rfl ?_); refine goesL_ (some 55) rfl rfl Tryd.func53 (by kernel_rfl) rfl #[.slice A0 l0.length c0, .int .i64 x9_17, .int .i64 x10_17] rfl (by (try simp only [List.map_toArray, List.map_cons, List.map_nil]); first | done | rfl | (simp only [List.length_drop, List.length_take]; rfl)) ?_; (with_reducible refine (cubbyref08_read.calls kj17 _ _ l0 x9_17 x10_17 t174 t175 t176 _ ?side1 ?side2 ?side3 A27.out).mono ?_); (case side1 => exact GW_below hGA.out (by repeat (first | (with_reducible first | exact HB.out | apply below_alloc | apply pw_below_drewN | apply below_drew1 | refine below_set ?_ GE166.out | refine below_set ?_ GE170.out) | exact HB.out))); (case side2 => repeat (first | exact (Kd.C_below HR0.out HB.out) | (with_reducible refine Kd.C_alloc ?_ _) | (with_reducible refine Kd.C_drewN ?_ _) | (with_reducible refine Kd.C_drew ?_))); (case side3 => exact HC0.out); rintro e w101 ⟨v177, rfl, ho0, hb⟩; refine ⟨_, rfl, ?_⟩; have n0_ := Aside0.mk (Kd.R_lower ho0 (below_size (by repeat (first | (with_reducible first | exact HB.out | apply below_alloc | apply pw_below_drewN | apply below_drew1 | refine below_set ?_ GE166.out | refine below_set ?_ GE170.out) | exact HB.out)))); have n1_ := Aside0.mk (blk_below (g := gb166) (o := .cells #[.int .i64 0, .int .i64 0, .int .i64 0, .int .i64 0, .string (⟨#[]⟩ : ByteArray), .slice none 0 0] 72 (0, 0)) (by (with_reducible repeat (first | refine blk_drewN ?_ _ | refine blk_drew ?_ | refine blk_alloc ?_ _)); exact BK166.out) hb); have n2_ := Aside0.mk (blk_below (g := gb170) (o := .cells #[.int .i64 x6_1, .int .i64 0, .int .i64 0, .int .i64 0, .string (⟨#[]⟩ : ByteArray), .slice none 0 0] 72 (0, 0)) (by (with_reducible repeat (first | refine blk_drewN ?_ _ | refine blk_drew ?_ | refine blk_alloc ?_ _)); exact BK170.out) hb); have n3_ := Aside0.mk (below_step (by repeat (first | (with_reducible first | exact HB.out | apply below_alloc | apply pw_below_drewN | apply below_drew1 | refine below_set ?_ GE166.out | refine below_set ?_ GE170.out) | exact HB.out)) hb); clear BK166; clear BK170; clear HB; have HO178 := n0_; have BK166 := n1_; have BK170 := n2_; have HB := n3_; clear n0_ n1_ n2_ n3_; (try clear hb); (try clear hb2); (try clear hk); (try clear hi); (try clear ho0); have hnb102 := NB166_170.out; have hnc102 := NB170_166.out; have hcz103_0 : w101.cell? ⟨gb166, 0, none⟩ = some (.int .i64 0) := (blk_cell BK166.out 0).trans rfl; have hcz103_1 : w101.cell? ⟨gb166, 1, none⟩ = some (.int .i64 0) := (blk_cell BK166.out 1).trans rfl; have hcz103_2 : w101.cell? ⟨gb166, 2, none⟩ = some (.int .i64 0) := (blk_cell BK166.out 2).trans rfl; have hcz103_3 : w101.cell? ⟨gb166, 3, none⟩ = some (.int .i64 0) := (blk_cell BK166.out 3).trans rfl; have hcz103_4 : w101.cell? ⟨gb166, 4, none⟩ = some (.string (⟨#[]⟩ : ByteArray)) := (blk_cell BK166.out 4).trans rfl; have hcz103_5 : w101.cell? ⟨gb166, 5, none⟩ = some (.slice none 0 0) := (blk_cell BK166.out 5).trans rfl; have hfz103_0 := blk_frozen BK166.out 0; have hfz103_1 := blk_frozen BK166.out 1; have hfz103_2 := blk_frozen BK166.out 2; have hfz103_3 := blk_frozen BK166.out 3; have hfz103_4 := blk_frozen BK166.out 4; have hfz103_5 := blk_frozen BK166.out 5))
        refine bodyPost_ret (results_ct rfl _ _ gb166 72 #[.int .i64 0, .int .i64 0, .int .i64 0, .int .i64 0, .string (⟨#[]⟩ : ByteArray), .slice none 0 0] (0, 0) _ rfl (by (with_reducible repeat (first | refine blk_drewN ?_ _ | refine blk_drew ?_ | refine blk_alloc ?_ _)); refine blk_put (cs := #[.int .i64 0, .int .i64 0, .int .i64 0, .int .i64 0, .string (⟨#[]⟩ : ByteArray), .slice none 0 0]) ?_ 5 _ rfl; (with_reducible repeat (first | refine blk_drewN ?_ _ | refine blk_drew ?_ | refine blk_alloc ?_ _)); refine blk_put (cs := #[.int .i64 0, .int .i64 0, .int .i64 0, .int .i64 0, .string (⟨#[]⟩ : ByteArray), .slice none 0 0]) ?_ 4 _ rfl; (with_reducible repeat (first | refine blk_drewN ?_ _ | refine blk_drew ?_ | refine blk_alloc ?_ _)); refine blk_put (cs := #[.int .i64 0, .int .i64 0, .int .i64 0, .int .i64 0, .string (⟨#[]⟩ : ByteArray), .slice none 0 0]) ?_ 3 _ rfl; (with_reducible repeat (first | refine blk_drewN ?_ _ | refine blk_drew ?_ | refine blk_alloc ?_ _)); refine blk_put (cs := #[.int .i64 0, .int .i64 0, .int .i64 0, .int .i64 0, .string (⟨#[]⟩ : ByteArray), .slice none 0 0]) ?_ 2 _ rfl; (with_reducible repeat (first | refine blk_drewN ?_ _ | refine blk_drew ?_ | refine blk_alloc ?_ _)); refine blk_put (cs := #[.int .i64 0, .int .i64 0, .int .i64 0, .int .i64 0, .string (⟨#[]⟩ : ByteArray), .slice none 0 0]) ?_ 1 _ rfl; (with_reducible repeat (first | refine blk_drewN ?_ _ | refine blk_drew ?_ | refine blk_alloc ?_ _)); refine blk_put (cs := #[.int .i64 0, .int .i64 0, .int .i64 0, .int .i64 0, .string (⟨#[]⟩ : ByteArray), .slice none 0 0]) ?_ 0 _ rfl; (with_reducible repeat (first | refine blk_drewN ?_ _ | refine blk_drew ?_ | refine blk_alloc ?_ _)); exact BK166.out) Tryd.underlying72 rfl (by kernel_rfl)) rfl ?_
        exact ⟨_, by first | rfl | (simp [errW_none, errW_some] <;> rfl) | (simp [*, errW_none, errW_some] <;> rfl), by first | exact Kd.R_nil _ _ _ _ _ | exact Kd.N_nil _ _ _ _ _ | exact Kd.V_nil _ _ _ _ _ | exact Kd.Q_nil _ _ _ _ _ | exact Kd.S_nil _ _ _ _ _, by repeat (first | (with_reducible first | exact HB.out | apply below_alloc | apply pw_below_drewN | apply below_drew1 | refine below_set ?_ GE166.out | refine below_set ?_ GE170.out) | exact HB.out)⟩

end Go.Proofs.YtfibkajflenekaaDoor.PTx
