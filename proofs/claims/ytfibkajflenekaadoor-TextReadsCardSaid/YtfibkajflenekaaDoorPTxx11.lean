-- PRINTED by print.py (a twelfth state) out of the translation. Not trusted: Lean checks it.
import Derived.Test.YtfibkajflenekaaDoorPTxx0
import Derived.Test.YtfibkajflenekaaDoorRParse
namespace Go.Proofs.YtfibkajflenekaaDoor.PTx
open Go.Proofs.YtfibkajflenekaaDoor.G
open Go.RowKit Go.Proofs.YtfibkajflenekaaDoorW.PrintWords Go.Proofs.YtfibkajflenekaaDoorW.PrintLast
set_option linter.unusedVariables false
set_option linter.unusedSimpArgs false

/-! ### cubbyref08_ParseCode: function 19 -/
def cubbyref08_ParseCode.f (k : Nat) (a0 : ByteArray) : Option (ByteArray × Int × Int × Int × (List (List (S72))) × Int × Int) := (cubbyref08_parse.f k a0 (⟨#[99, 111, 100, 101]⟩ : ByteArray) 4 true).bind fun bt262 => (if bt262.2.2.2.2 = 0 then (if 0 < (bt262.2.1.length : Int) then (if 1 < (bt262.2.1.length : Int) then (if 2 < (bt262.2.1.length : Int) then (some (bt262.1, rd bt262.2.1 0, rd bt262.2.1 1, rd bt262.2.1 2, bt262.2.2.1, 0, 0)) else (none)) else (none)) else (none)) else (some ((⟨#[]⟩ : ByteArray), 0, 0, 0, ([] : List (List (S72))), bt262.2.2.2.1, bt262.2.2.2.2)))
theorem cubbyref08_ParseCode.mono : ∀ a0 k, LeO (cubbyref08_ParseCode.f k a0) (cubbyref08_ParseCode.f (k + 1) a0) := by
 intro a0 k
 unfold cubbyref08_ParseCode.f
 repeat' first
   | (with_reducible exact cubbyref08_parse.mono _ _ _ _ _)
   | (with_reducible exact LeO.refl _)
   | (with_reducible exact LeO.none _)
   | (with_reducible refine LeO.ite ?_ ?_)
   | (with_reducible refine LeO.bind ?_ (fun _ => ?_))
   | exact cubbyref08_parse.mono _ _ _ _ _
   | exact LeO.none _
   | refine LeO.ite ?_ ?_
   | refine LeO.bind ?_ (fun _ => ?_)
def cubbyref08_ParseCode.T4 : Bool × List (List Nat × List Nat) := (true, [([], []), ([], []), ([1], [1]), ([2], [2]), ([], []), ([4], [4]), ([5], [5]), ([], []), ([7], [7]), ([8], [8]), ([], []), ([0, 3, 6, 9, 10], [0, 3, 6, 9, 10]), ([11, 0, 1, 2, 3, 4, 5, 6, 7, 8, 9, 10, 11], [11]), ([12, 0, 1, 2, 3, 4, 5, 6, 7, 8, 9, 10, 11, 12], []), ([13, 0, 1, 2, 3, 4, 5, 6, 7, 8, 9, 10, 11, 12, 13], [])])
def cubbyref08_ParseCode.B4 : List Nat := [0, 0, 2, 6, 0, 16, 48, 0, 128, 384, 0, 2047, 4095, 8191, 16383]
theorem cubbyref08_ParseCode.tab4 : rtab .any (opsOf Tryd.f19 4) = cubbyref08_ParseCode.T4 := by kernel_rfl
theorem cubbyref08_ParseCode.bits4 : waitsOk cubbyref08_ParseCode.T4.2 cubbyref08_ParseCode.B4 = true := by kernel_rfl
set_option maxHeartbeats 8000000 in
set_option maxRecDepth 100000 in
theorem cubbyref08_ParseCode.calls (k : Nat) (a0 : ByteArray) (r1 : ByteArray) (r2 : Int) (r3 : Int) (r4 : Int) (r5 : List (List (S72))) (r6 : Int) (r7 : Int) (w : World) (hG : GW w) (h : cubbyref08_ParseCode.f k a0 = some (r1, r2, r3, r4, r5, r6, r7)) :
  Calls Tryd.prog 19 #[.string a0] w fun e w' => ∃ v4_ : Value, e = .returned (.tuple #[.agg #[.string r1, .int .i64 r2, .int .i64 r3, .int .i64 r4, v4_], .int .i64 r6, .int .i64 r7]) ∧ Kd.R (Kd.slice 72 k72) 48 w' w.heap.size (fun _ => True) v4_ r5 ∧ Below w.heap.size w w' := by
 have hu52 := Tryd.underlying52
 have hGA := Aside0.mk hG
 clear hG
 have HB := Aside0.mk (Below.refl w.heap.size w)
 have H : ((cubbyref08_parse.f k a0 (⟨#[99, 111, 100, 101]⟩ : ByteArray) 4 true).bind fun bt262 => (if bt262.2.2.2.2 = 0 then (if 0 < (bt262.2.1.length : Int) then (if 1 < (bt262.2.1.length : Int) then (if 2 < (bt262.2.1.length : Int) then (some (bt262.1, rd bt262.2.1 0, rd bt262.2.1 1, rd bt262.2.1 2, bt262.2.2.1, 0, 0)) else (none)) else (none)) else (none)) else (some ((⟨#[]⟩ : ByteArray), 0, 0, 0, ([] : List (List (S72))), bt262.2.2.2.1, bt262.2.2.2.2)))) = some (r1, r2, r3, r4, r5, r6, r7) := h
 clear h
 replace H := Option.bind_eq_some_iff.mp H
 obtain ⟨⟨t262, t263, t264, t265, t266⟩, A20, H⟩ := H
 replace H : (if t266 = 0 then (if 0 < (t263.length : Int) then (if 1 < (t263.length : Int) then (if 2 < (t263.length : Int) then (some (t262, rd t263 0, rd t263 1, rd t263 2, t264, 0, 0)) else (none)) else (none)) else (none)) else (some ((⟨#[]⟩ : ByteArray), 0, 0, 0, ([] : List (List (S72))), t265, t266))) = some (r1, r2, r3, r4, r5, r6, r7) := H
 have A2 := Aside0.mk A20
 clear A20
 by_cases c3 : t266 = 0
 ·rw [if_pos c3] at H
  have c3b0 : (t266 == 0) = true := beq_iff_eq.mpr c3
  have c3b1 : (t266 != 0) = false := bne_eq_false_iff_eq.mpr c3
  clear c3
  by_cases c4 : 0 < (t263.length : Int)
  ·rw [if_pos c4] at H
   have c4b0 : decide (0 < (t263.length : Int)) = true := decide_eq_true c4
   have c4b1 : decide (0 < t263.length) = true := decide_eq_true (by omega)
   clear c4
   by_cases c5 : 1 < (t263.length : Int)
   ·rw [if_pos c5] at H
    have c5b0 : decide (1 < (t263.length : Int)) = true := decide_eq_true c5
    have c5b1 : decide (1 < t263.length) = true := decide_eq_true (by omega)
    clear c5
    by_cases c6 : 2 < (t263.length : Int)
    ·rw [if_pos c6] at H
     have c6b0 : decide (2 < (t263.length : Int)) = true := decide_eq_true c6
     have c6b1 : decide (2 < t263.length) = true := decide_eq_true (by omega)
     clear c6
     simp only [Option.some.injEq, Prod.mk.injEq] at H
     obtain ⟨rfl, rfl, rfl, rfl, rfl, rfl, rfl⟩ := H
     go_enter Tryd.func19, Tryd.ntmps19
     try go_wp2_with (first | ((with_reducible refine gate_dst (N := 2) rfl ?_); refine box_event ?hg (N := 2) ?hd (cs := #[.string (⟨#[]⟩ : ByteArray), .int .i64 0, .int .i64 0, .int .i64 0, .slice none 0 0]) (t := 52) ?hr ?_; (case hd => rfl); (case hg => rfl); (case hr => first | (go_simp; done) | (go_simp; rfl)); intro gb261 hg w7 hbox hb; have n0_ := Aside0.mk (below_step (by repeat (first | (with_reducible first | exact HB.out | apply below_alloc | apply pw_below_drewN | apply below_drew1) | exact HB.out)) hb); have n1_ := Aside0.mk (hbox); have n2_ := Aside0.mk ((by rw [hg]; exact (below_size (by repeat (first | (with_reducible first | exact HB.out | apply below_alloc | apply pw_below_drewN | apply below_drew1) | exact HB.out))) : w.heap.size ≤ gb261)); have n3_ := Aside0.mk ((by rw [hg]; exact (below_size (by repeat (first | (with_reducible first | exact HB.out | apply below_alloc | apply pw_below_drewN | apply below_drew1) | exact HB.out))) : w.heap.size ≤ gb261)); clear HB; have HB := n0_; have BK261 := n1_; have GW261 := n2_; have GE261 := n3_; clear n0_ n1_ n2_ n3_; clear hb hbox hg) | ((with_reducible refine gate_callee (f := 35) rfl ?_); refine goesL_ (some 12) rfl rfl Tryd.func35 (by kernel_rfl) rfl #[.string a0, .string (⟨#[99, 111, 100, 101]⟩ : ByteArray), .int .i64 4, .bool true] rfl (by (try simp only [List.map_toArray, List.map_cons, List.map_nil]); first | done | rfl | (simp only [List.length_drop, List.length_take]; rfl)) ?_; (with_reducible refine (cubbyref08_parse.calls k a0 (⟨#[99, 111, 100, 101]⟩ : ByteArray) 4 true t262 t263 t264 t265 t266 _ ?side1 A2.out).mono ?_); (case side1 => exact GW_below hGA.out (by repeat (first | (with_reducible first | exact HB.out | apply below_alloc | apply pw_below_drewN | apply below_drew1 | refine below_set ?_ GE261.out) | exact HB.out))); rintro e w8 ⟨v267, v269, rfl, ho0, ho1, hb⟩; refine ⟨_, rfl, ?_⟩; have n0_ := Aside0.mk (Kd.R_lower ho0 (below_size (by repeat (first | (with_reducible first | exact HB.out | apply below_alloc | apply pw_below_drewN | apply below_drew1 | refine below_set ?_ GE261.out) | exact HB.out)))); have n1_ := Aside0.mk (Kd.R_lower ho1 (below_size (by repeat (first | (with_reducible first | exact HB.out | apply below_alloc | apply pw_below_drewN | apply below_drew1 | refine below_set ?_ GE261.out) | exact HB.out)))); have n2_ := Aside0.mk (blk_below (g := gb261) (o := .cells #[.string (⟨#[]⟩ : ByteArray), .int .i64 0, .int .i64 0, .int .i64 0, .slice none 0 0] 52 (0, 0)) (by (with_reducible repeat (first | refine blk_drewN ?_ _ | refine blk_drew ?_ | refine blk_alloc ?_ _)); exact BK261.out) hb); have n3_ := Aside0.mk (below_step (by repeat (first | (with_reducible first | exact HB.out | apply below_alloc | apply pw_below_drewN | apply below_drew1 | refine below_set ?_ GE261.out) | exact HB.out)) hb); clear BK261; clear HB; have HO268 := n0_; have HO270 := n1_; have BK261 := n2_; have HB := n3_; clear n0_ n1_ n2_ n3_; (try clear hb); (try clear hb2); (try clear hk); (try clear hi); (try clear ho0); (try clear ho1)))
     have n0_ := Aside0.mk (Kd.R_drew HO268.out)
     have n1_ := Aside0.mk (Kd.R_drew HO270.out)
     have n2_ := Aside0.mk (blk_drew BK261.out)
     have n3_ := Aside0.mk (below_drew1 HB.out)
     clear HO268
     clear HO270
     clear BK261
     clear HB
     have HO268 := n0_
     have HO270 := n1_
     have BK261 := n2_
     have HB := n3_
     clear n0_ n1_ n2_ n3_
     obtain ⟨Ao10, co10, eo10⟩ := Kd.R_slice HO268.out
     (first | subst eo10 | (injection eo10 with f1_ f2_ f3_; have f4_ := f1_.symm; have f5_ := f3_.symm; clear f1_ f2_ f3_; subst f4_; subst f5_))
     have p271 : 0 ≤ (0 : Int) := (by omega)
     have q271 : 0 < (t263.length : Int) := of_decide_eq_true (by first | (with_reducible assumption) | assumption)
     obtain ⟨ad271, e271, hx271_0⟩ := Kd.at_int (Kd.R_reads' HO268.out).2.2 0 p271 q271
     cases e271
     have qi271 : (0 < t263.length) = True := eq_true (by omega)
     (try rw [show ((0 : Int)).toNat = 0 from rfl] at hx271_0)
     (try rw [Addr.add_zero'] at hx271_0)
     replace p271 := eq_true p271
     replace q271 := eq_true q271
     have p272 : 0 ≤ (1 : Int) := (by omega)
     have q272 : 1 < (t263.length : Int) := of_decide_eq_true (by first | (with_reducible assumption) | assumption)
     obtain ⟨ad272, e272, hx272_0⟩ := Kd.at_int (Kd.R_reads' HO268.out).2.2 1 p272 q272
     obtain rfl : ad271 = ad272 := (by injection e272)
     (try simp only [show (1 : Int).toNat = 1 from rfl, Nat.reduceMul, Nat.reduceEqDiff, Go.Addr.add, ↓reduceIte] at hx272_0)
     have qi272 : (1 < t263.length) = True := eq_true (by omega)
     (try rw [show ((1 : Int)).toNat = 1 from rfl] at hx272_0)
     replace p272 := eq_true p272
     replace q272 := eq_true q272
     have p273 : 0 ≤ (2 : Int) := (by omega)
     have q273 : 2 < (t263.length : Int) := of_decide_eq_true (by first | (with_reducible assumption) | assumption)
     obtain ⟨ad273, e273, hx273_0⟩ := Kd.at_int (Kd.R_reads' HO268.out).2.2 2 p273 q273
     obtain rfl : ad271 = ad273 := (by injection e273)
     (try simp only [show (2 : Int).toNat = 2 from rfl, Nat.reduceMul, Nat.reduceEqDiff, Go.Addr.add, ↓reduceIte] at hx273_0)
     have qi273 : (2 < t263.length) = True := eq_true (by omega)
     (try rw [show ((2 : Int)).toNat = 2 from rfl] at hx273_0)
     replace p273 := eq_true p273
     replace q273 := eq_true q273
     obtain ⟨Ao11, co11, eo11⟩ := Kd.R_slice HO270.out
     (first | subst eo11 | (injection eo11 with f1_ f2_ f3_; have f4_ := f1_.symm; have f5_ := f3_.symm; clear f1_ f2_ f3_; subst f4_; subst f5_))
     refine start_ (n := 15) (S := fun w' => w'.cell? ad271 = some (.int .i64 (rd t263 0)) ∧ w'.cell? ⟨ad271.block, ad271.off + 1, none⟩ = some (.int .i64 (rd t263 1)) ∧ w'.cell? ⟨ad271.block, ad271.off + 2, none⟩ = some (.int .i64 (rd t263 2))) (ds := []) #[false, false, false, false, false, false, false, false, false, false, false, false, false, false, false] (by kernel_rfl) rfl rfl ⟨hx271_0, hx272_0, hx273_0⟩ (fun hHeld => ?_); refine with_tabW cubbyref08_ParseCode.tab4 cubbyref08_ParseCode.bits4 (fun HT_ HW_ => ?_)
     generalize w8.drew = w9 at HO268 HO270 BK261 HB hx271_0 hx272_0 hx273_0 hHeld ⊢
     refine pure_ (i := 0) (N := some 23) (v := ?_) (a' := ?_) #[true, false, false, false, false, false, false, false, false, false, false, false, false, false, false] rfl rfl (any_of HT_.out (by kernel_rfl)) (fun _ _ _ h => h) (Or.inl ⟨by rfl, ?_⟩) ?_ ?_
     rotate_left
     ·intro w'
      go_simp
      with_reducible rfl
     rotate_left
     ·simp only [Act.put, List.setIfInBounds_toArray, List.set_cons_zero, List.set_cons_succ, i64_w, i32_w]
      rfl
     refine pure_ (i := 1) (N := some 24) (v := ?_) (a' := ?_) #[true, true, false, false, false, false, false, false, false, false, false, false, false, false, false] rfl rfl (any_of HT_.out (by kernel_rfl)) (fun _ _ _ h => h) (Or.inl ⟨by rfl, ?_⟩) ?_ ?_
     rotate_left
     ·intro w'
      go_simp
      with_reducible rfl
     rotate_left
     ·simp only [Act.put, List.setIfInBounds_toArray, List.set_cons_zero, List.set_cons_succ, i64_w, i32_w]
      rfl
     refine pure_ (i := 2) (N := some 25) (v := ?_) (a' := ?_) #[true, true, true, false, false, false, false, false, false, false, false, false, false, false, false] rfl rfl (any_of HT_.out (by kernel_rfl)) (fun _ _ _ h => h) (Or.inl ⟨by rfl, ?_⟩) ?_ ?_
     rotate_left
     ·intro w'
      go_simp
      with_reducible rfl
     rotate_left
     ·simp only [Act.put, List.setIfInBounds_toArray, List.set_cons_zero, List.set_cons_succ, i64_w, i32_w]
      rfl
     refine pure_ (i := 4) (N := some 27) (v := ?_) (a' := ?_) #[true, true, true, false, true, false, false, false, false, false, false, false, false, false, false] rfl rfl (any_of HT_.out (by kernel_rfl)) (fun _ _ _ h => h) (Or.inl ⟨by rfl, ?_⟩) ?_ ?_
     rotate_left
     ·intro w'
      go_simp
      with_reducible rfl
     rotate_left
     ·simp only [Act.put, List.setIfInBounds_toArray, List.set_cons_zero, List.set_cons_succ, i64_w, i32_w]
      rfl
     refine pure_ (i := 5) (N := some 28) (v := ?_) (a' := ?_) #[true, true, true, false, true, true, false, false, false, false, false, false, false, false, false] rfl rfl (any_of HT_.out (by kernel_rfl)) (fun _ _ _ h => h) (Or.inl ⟨by rfl, ?_⟩) ?_ ?_
     rotate_left
     ·intro w'
      go_simp
      with_reducible rfl
     rotate_left
     ·simp only [Act.put, List.setIfInBounds_toArray, List.set_cons_zero, List.set_cons_succ, i64_w, i32_w]
      rfl
     refine pure_ (i := 7) (N := some 30) (v := ?_) (a' := ?_) #[true, true, true, false, true, true, false, true, false, false, false, false, false, false, false] rfl rfl (any_of HT_.out (by kernel_rfl)) (fun _ _ _ h => h) (Or.inl ⟨by rfl, ?_⟩) ?_ ?_
     rotate_left
     ·intro w'
      go_simp
      with_reducible rfl
     rotate_left
     ·simp only [Act.put, List.setIfInBounds_toArray, List.set_cons_zero, List.set_cons_succ, i64_w, i32_w]
      rfl
     refine pure_ (i := 8) (N := some 31) (v := ?_) (a' := ?_) #[true, true, true, false, true, true, false, true, true, false, false, false, false, false, false] rfl rfl (any_of HT_.out (by kernel_rfl)) (fun _ _ _ h => h) (Or.inl ⟨by rfl, ?_⟩) ?_ ?_
     rotate_left
     ·intro w'
      go_simp
      with_reducible rfl
     rotate_left
     ·simp only [Act.put, List.setIfInBounds_toArray, List.set_cons_zero, List.set_cons_succ, i64_w, i32_w]
      rfl
     refine pure_ (i := 10) (N := some 33) (v := ?_) (a' := ?_) #[true, true, true, false, true, true, false, true, true, false, true, false, false, false, false] rfl rfl (any_of HT_.out (by kernel_rfl)) (fun _ _ _ h => h) (Or.inl ⟨by rfl, ?_⟩) ?_ ?_
     rotate_left
     ·intro w'
      go_simp
      with_reducible rfl
     rotate_left
     ·simp only [Act.put, List.setIfInBounds_toArray, List.set_cons_zero, List.set_cons_succ, i64_w, i32_w]
      rfl
     refine take_ (i := 3) (N := some 26) (v := ?_) (a' := ?_) #[true, true, true, true, true, true, false, true, true, false, true, false, false, false, false] rfl rfl (take_ofW HT_.out HW_.out (by kernel_rfl)) (fun _ _ _ h => h) (Or.inl ⟨by rfl, ?_⟩) hHeld ?_ ?_
     rotate_left
     ·rintro w' ⟨s0, s1, s2⟩
      go_simp
      with_reducible rfl
     rotate_left
     ·simp only [Act.put, List.setIfInBounds_toArray, List.set_cons_zero, List.set_cons_succ, i64_w, i32_w]
      rfl
     refine take_ (i := 6) (N := some 29) (v := ?_) (a' := ?_) #[true, true, true, true, true, true, true, true, true, false, true, false, false, false, false] rfl rfl (take_ofW HT_.out HW_.out (by kernel_rfl)) (fun _ _ _ h => h) (Or.inl ⟨by rfl, ?_⟩) hHeld ?_ ?_
     rotate_left
     ·rintro w' ⟨s0, s1, s2⟩
      go_simp
      with_reducible rfl
     rotate_left
     ·simp only [Act.put, List.setIfInBounds_toArray, List.set_cons_zero, List.set_cons_succ, i64_w, i32_w]
      rfl
     refine take_ (i := 9) (N := some 32) (v := ?_) (a' := ?_) #[true, true, true, true, true, true, true, true, true, true, true, false, false, false, false] rfl rfl (take_ofW HT_.out HW_.out (by kernel_rfl)) (fun _ _ _ h => h) (Or.inl ⟨by rfl, ?_⟩) hHeld ?_ ?_
     rotate_left
     ·rintro w' ⟨s0, s1, s2⟩
      go_simp
      with_reducible rfl
     rotate_left
     ·simp only [Act.put, List.setIfInBounds_toArray, List.set_cons_zero, List.set_cons_succ, i64_w, i32_w]
      rfl
     refine pure_ (i := 11) (N := some 34) (v := ?_) (a' := ?_) #[true, true, true, true, true, true, true, true, true, true, true, true, false, false, false] rfl rfl (any_of HT_.out (by kernel_rfl)) (fun _ _ _ h => h) (Or.inl ⟨by rfl, ?_⟩) ?_ ?_
     rotate_left
     ·intro w'
      go_simp
      with_reducible rfl
     rotate_left
     ·simp only [Act.put, List.setIfInBounds_toArray, List.set_cons_zero, List.set_cons_succ, i64_w, i32_w]
      rfl
     refine one_ (i := 12) (N := none) #[true, true, true, true, true, true, true, true, true, true, true, true, true, false, false] rfl rfl (one_of HT_.out (by kernel_rfl)) (by decide) (fun K hK => ?_)
     have hs12 : w9.cell? ⟨gb261, 0, none⟩ = some (.string (⟨#[]⟩ : ByteArray)) := (blk_cell BK261.out 0).trans rfl
     have hfs12 := blk_frozen BK261.out 0
     have hs13 : w9.cell? ⟨gb261, 1, none⟩ = some (.int .i64 0) := (blk_cell BK261.out 1).trans rfl
     have hfs13 := blk_frozen BK261.out 1
     have hs14 : w9.cell? ⟨gb261, 2, none⟩ = some (.int .i64 0) := (blk_cell BK261.out 2).trans rfl
     have hfs14 := blk_frozen BK261.out 2
     have hs15 : w9.cell? ⟨gb261, 3, none⟩ = some (.int .i64 0) := (blk_cell BK261.out 3).trans rfl
     have hfs15 := blk_frozen BK261.out 3
     have hs16 : w9.cell? ⟨gb261, 4, none⟩ = some (.slice none 0 0) := (blk_cell BK261.out 4).trans rfl
     have hfs16 := blk_frozen BK261.out 4
     refine skip_ (w1 := ?_) (by rfl) rfl ?_ ?_
     rotate_left
     ·go_simp
      rfl
     refine hK.out _ _ ⟨((cell_far (p := ⟨gb261, _, none⟩) (by first | exact Kd.own_blk (Kd.R_ne HO268.out BK261.out (by decide)) | (rw [add_block]; exact Kd.own_blk (Kd.R_ne HO268.out BK261.out (by decide))) | (show (Addr.add _ _).block ≠ _; rw [add_block]; exact Kd.own_blk (Kd.R_ne HO268.out BK261.out (by decide))) | (dsimp only; exact Kd.own_blk (Kd.R_ne HO268.out BK261.out (by decide)))) _).trans (((cell_far (p := ⟨gb261, _, none⟩) (by first | exact Kd.own_blk (Kd.R_ne HO268.out BK261.out (by decide)) | (rw [add_block]; exact Kd.own_blk (Kd.R_ne HO268.out BK261.out (by decide))) | (show (Addr.add _ _).block ≠ _; rw [add_block]; exact Kd.own_blk (Kd.R_ne HO268.out BK261.out (by decide))) | (dsimp only; exact Kd.own_blk (Kd.R_ne HO268.out BK261.out (by decide)))) _).trans (((cell_far (p := ⟨gb261, _, none⟩) (by first | exact Kd.own_blk (Kd.R_ne HO268.out BK261.out (by decide)) | (rw [add_block]; exact Kd.own_blk (Kd.R_ne HO268.out BK261.out (by decide))) | (show (Addr.add _ _).block ≠ _; rw [add_block]; exact Kd.own_blk (Kd.R_ne HO268.out BK261.out (by decide))) | (dsimp only; exact Kd.own_blk (Kd.R_ne HO268.out BK261.out (by decide)))) _).trans (((cell_far (p := ⟨gb261, _, none⟩) (by first | exact Kd.own_blk (Kd.R_ne HO268.out BK261.out (by decide)) | (rw [add_block]; exact Kd.own_blk (Kd.R_ne HO268.out BK261.out (by decide))) | (show (Addr.add _ _).block ≠ _; rw [add_block]; exact Kd.own_blk (Kd.R_ne HO268.out BK261.out (by decide))) | (dsimp only; exact Kd.own_blk (Kd.R_ne HO268.out BK261.out (by decide)))) _).trans (((cell_far (p := ⟨gb261, _, none⟩) (by first | exact Kd.own_blk (Kd.R_ne HO268.out BK261.out (by decide)) | (rw [add_block]; exact Kd.own_blk (Kd.R_ne HO268.out BK261.out (by decide))) | (show (Addr.add _ _).block ≠ _; rw [add_block]; exact Kd.own_blk (Kd.R_ne HO268.out BK261.out (by decide))) | (dsimp only; exact Kd.own_blk (Kd.R_ne HO268.out BK261.out (by decide)))) _).trans (hHeld.1)))))))))), ((cell_far (p := ⟨gb261, _, none⟩) (by first | exact Kd.own_blk (Kd.R_ne HO268.out BK261.out (by decide)) | (rw [add_block]; exact Kd.own_blk (Kd.R_ne HO268.out BK261.out (by decide))) | (show (Addr.add _ _).block ≠ _; rw [add_block]; exact Kd.own_blk (Kd.R_ne HO268.out BK261.out (by decide))) | (dsimp only; exact Kd.own_blk (Kd.R_ne HO268.out BK261.out (by decide)))) _).trans (((cell_far (p := ⟨gb261, _, none⟩) (by first | exact Kd.own_blk (Kd.R_ne HO268.out BK261.out (by decide)) | (rw [add_block]; exact Kd.own_blk (Kd.R_ne HO268.out BK261.out (by decide))) | (show (Addr.add _ _).block ≠ _; rw [add_block]; exact Kd.own_blk (Kd.R_ne HO268.out BK261.out (by decide))) | (dsimp only; exact Kd.own_blk (Kd.R_ne HO268.out BK261.out (by decide)))) _).trans (((cell_far (p := ⟨gb261, _, none⟩) (by first | exact Kd.own_blk (Kd.R_ne HO268.out BK261.out (by decide)) | (rw [add_block]; exact Kd.own_blk (Kd.R_ne HO268.out BK261.out (by decide))) | (show (Addr.add _ _).block ≠ _; rw [add_block]; exact Kd.own_blk (Kd.R_ne HO268.out BK261.out (by decide))) | (dsimp only; exact Kd.own_blk (Kd.R_ne HO268.out BK261.out (by decide)))) _).trans (((cell_far (p := ⟨gb261, _, none⟩) (by first | exact Kd.own_blk (Kd.R_ne HO268.out BK261.out (by decide)) | (rw [add_block]; exact Kd.own_blk (Kd.R_ne HO268.out BK261.out (by decide))) | (show (Addr.add _ _).block ≠ _; rw [add_block]; exact Kd.own_blk (Kd.R_ne HO268.out BK261.out (by decide))) | (dsimp only; exact Kd.own_blk (Kd.R_ne HO268.out BK261.out (by decide)))) _).trans (((cell_far (p := ⟨gb261, _, none⟩) (by first | exact Kd.own_blk (Kd.R_ne HO268.out BK261.out (by decide)) | (rw [add_block]; exact Kd.own_blk (Kd.R_ne HO268.out BK261.out (by decide))) | (show (Addr.add _ _).block ≠ _; rw [add_block]; exact Kd.own_blk (Kd.R_ne HO268.out BK261.out (by decide))) | (dsimp only; exact Kd.own_blk (Kd.R_ne HO268.out BK261.out (by decide)))) _).trans (hHeld.2.1)))))))))), ((cell_far (p := ⟨gb261, _, none⟩) (by first | exact Kd.own_blk (Kd.R_ne HO268.out BK261.out (by decide)) | (rw [add_block]; exact Kd.own_blk (Kd.R_ne HO268.out BK261.out (by decide))) | (show (Addr.add _ _).block ≠ _; rw [add_block]; exact Kd.own_blk (Kd.R_ne HO268.out BK261.out (by decide))) | (dsimp only; exact Kd.own_blk (Kd.R_ne HO268.out BK261.out (by decide)))) _).trans (((cell_far (p := ⟨gb261, _, none⟩) (by first | exact Kd.own_blk (Kd.R_ne HO268.out BK261.out (by decide)) | (rw [add_block]; exact Kd.own_blk (Kd.R_ne HO268.out BK261.out (by decide))) | (show (Addr.add _ _).block ≠ _; rw [add_block]; exact Kd.own_blk (Kd.R_ne HO268.out BK261.out (by decide))) | (dsimp only; exact Kd.own_blk (Kd.R_ne HO268.out BK261.out (by decide)))) _).trans (((cell_far (p := ⟨gb261, _, none⟩) (by first | exact Kd.own_blk (Kd.R_ne HO268.out BK261.out (by decide)) | (rw [add_block]; exact Kd.own_blk (Kd.R_ne HO268.out BK261.out (by decide))) | (show (Addr.add _ _).block ≠ _; rw [add_block]; exact Kd.own_blk (Kd.R_ne HO268.out BK261.out (by decide))) | (dsimp only; exact Kd.own_blk (Kd.R_ne HO268.out BK261.out (by decide)))) _).trans (((cell_far (p := ⟨gb261, _, none⟩) (by first | exact Kd.own_blk (Kd.R_ne HO268.out BK261.out (by decide)) | (rw [add_block]; exact Kd.own_blk (Kd.R_ne HO268.out BK261.out (by decide))) | (show (Addr.add _ _).block ≠ _; rw [add_block]; exact Kd.own_blk (Kd.R_ne HO268.out BK261.out (by decide))) | (dsimp only; exact Kd.own_blk (Kd.R_ne HO268.out BK261.out (by decide)))) _).trans (((cell_far (p := ⟨gb261, _, none⟩) (by first | exact Kd.own_blk (Kd.R_ne HO268.out BK261.out (by decide)) | (rw [add_block]; exact Kd.own_blk (Kd.R_ne HO268.out BK261.out (by decide))) | (show (Addr.add _ _).block ≠ _; rw [add_block]; exact Kd.own_blk (Kd.R_ne HO268.out BK261.out (by decide))) | (dsimp only; exact Kd.own_blk (Kd.R_ne HO268.out BK261.out (by decide)))) _).trans (hHeld.2.2))))))))))⟩ (fun hHeld => ?_)
     clear hK K
     refine pure_ (i := 13) (N := some 3) (v := ?_) (a' := ?_) #[true, true, true, true, true, true, true, true, true, true, true, true, true, true, false] rfl rfl (any_of HT_.out (by kernel_rfl)) (fun _ _ _ h => h) (Or.inl ⟨by rfl, ?_⟩) ?_ ?_
     rotate_left
     ·intro w'
      go_simp
      with_reducible rfl
     rotate_left
     ·simp only [Act.put, List.setIfInBounds_toArray, List.set_cons_zero, List.set_cons_succ, i64_w, i32_w]
      rfl
     refine pure_ (i := 14) (N := some 4) (v := ?_) (a' := ?_) #[true, true, true, true, true, true, true, true, true, true, true, true, true, true, true] rfl rfl (any_of HT_.out (by kernel_rfl)) (fun _ _ _ h => h) (Or.inl ⟨by rfl, ?_⟩) ?_ ?_
     rotate_left
     ·intro w'
      go_simp
      with_reducible rfl
     rotate_left
     ·simp only [Act.put, List.setIfInBounds_toArray, List.set_cons_zero, List.set_cons_succ, i64_w, i32_w]
      rfl
     refine done_ (done_of HT_.out (by kernel_rfl)) ?_
     try go_wp2
     refine bodyPost_ret (results_ctt rfl _ _ gb261 52 #[.string t262, .int .i64 (rd t263 0), .int .i64 (rd t263 1), .int .i64 (rd t263 2), .slice Ao11 t264.length co11] (0, 0) _ rfl (by (with_reducible repeat (first | refine blk_drewN ?_ _ | refine blk_drew ?_ | refine blk_alloc ?_ _)); refine blk_put (cs := #[.string t262, .int .i64 (rd t263 0), .int .i64 (rd t263 1), .int .i64 (rd t263 2), .slice none 0 0]) ?_ 4 _ rfl; (with_reducible repeat (first | refine blk_drewN ?_ _ | refine blk_drew ?_ | refine blk_alloc ?_ _)); refine blk_put (cs := #[.string t262, .int .i64 (rd t263 0), .int .i64 (rd t263 1), .int .i64 0, .slice none 0 0]) ?_ 3 _ rfl; (with_reducible repeat (first | refine blk_drewN ?_ _ | refine blk_drew ?_ | refine blk_alloc ?_ _)); refine blk_put (cs := #[.string t262, .int .i64 (rd t263 0), .int .i64 0, .int .i64 0, .slice none 0 0]) ?_ 2 _ rfl; (with_reducible repeat (first | refine blk_drewN ?_ _ | refine blk_drew ?_ | refine blk_alloc ?_ _)); refine blk_put (cs := #[.string t262, .int .i64 0, .int .i64 0, .int .i64 0, .slice none 0 0]) ?_ 1 _ rfl; (with_reducible repeat (first | refine blk_drewN ?_ _ | refine blk_drew ?_ | refine blk_alloc ?_ _)); refine blk_put (cs := #[.string (⟨#[]⟩ : ByteArray), .int .i64 0, .int .i64 0, .int .i64 0, .slice none 0 0]) ?_ 0 _ rfl; (with_reducible repeat (first | refine blk_drewN ?_ _ | refine blk_drew ?_ | refine blk_alloc ?_ _)); exact BK261.out) Tryd.underlying52 rfl (by kernel_rfl)) rfl ?_
     exact ⟨_, by first | rfl | (simp [errW_none, errW_some] <;> rfl) | (simp [*, errW_none, errW_some] <;> rfl), by (with_reducible repeat (first | apply Kd.R_alloc | apply Kd.R_drewN | apply Kd.R_drew)); exact Kd.R_mono (Kd.R_far (p := ⟨gb261, 4, none⟩) (Kd.R_far (p := ⟨gb261, 3, none⟩) (Kd.R_far (p := ⟨gb261, 2, none⟩) (Kd.R_far (p := ⟨gb261, 1, none⟩) (Kd.R_far (p := ⟨gb261, 0, none⟩) (Kd.R_types HO270.out BK261.out (by decide)) (fun _ hk => hk.2) (.string t262)) (fun _ hk => hk.2) (.int .i64 (rd t263 0))) (fun _ hk => hk.2) (.int .i64 (rd t263 1))) (fun _ hk => hk.2) (.int .i64 (rd t263 2))) (fun _ hk => hk.2) (.slice Ao11 t264.length co11)) (fun _ hk => trivial), by repeat (first | (with_reducible first | exact HB.out | apply below_alloc | apply pw_below_drewN | apply below_drew1 | refine below_set ?_ GE261.out) | exact HB.out)⟩
    ·rw [if_neg c6] at H
     exact absurd H (by simp)
   ·rw [if_neg c5] at H
    exact absurd H (by simp)
  ·rw [if_neg c4] at H
   exact absurd H (by simp)
 ·rw [if_neg c3] at H
  have c3b0 : (t266 == 0) = false := beq_eq_false_iff_ne.mpr c3
  have c3b1 : (t266 != 0) = true := bne_iff_ne.mpr c3
  simp only [Option.some.injEq, Prod.mk.injEq] at H
  obtain ⟨rfl, rfl, rfl, rfl, rfl, rfl, rfl⟩ := H
  go_enter Tryd.func19, Tryd.ntmps19
  go_wp2_with (first | ((with_reducible refine gate_dst (N := 2) rfl ?_); refine box_event ?hg (N := 2) ?hd (cs := #[.string (⟨#[]⟩ : ByteArray), .int .i64 0, .int .i64 0, .int .i64 0, .slice none 0 0]) (t := 52) ?hr ?_; (case hd => rfl); (case hg => rfl); (case hr => first | (go_simp; done) | (go_simp; rfl)); intro gb261 hg w17 hbox hb; have n0_ := Aside0.mk (below_step (by repeat (first | (with_reducible first | exact HB.out | apply below_alloc | apply pw_below_drewN | apply below_drew1) | exact HB.out)) hb); have n1_ := Aside0.mk (hbox); have n2_ := Aside0.mk ((by rw [hg]; exact (below_size (by repeat (first | (with_reducible first | exact HB.out | apply below_alloc | apply pw_below_drewN | apply below_drew1) | exact HB.out))) : w.heap.size ≤ gb261)); have n3_ := Aside0.mk ((by rw [hg]; exact (below_size (by repeat (first | (with_reducible first | exact HB.out | apply below_alloc | apply pw_below_drewN | apply below_drew1) | exact HB.out))) : w.heap.size ≤ gb261)); clear HB; have HB := n0_; have BK261 := n1_; have GW261 := n2_; have GE261 := n3_; clear n0_ n1_ n2_ n3_; clear hb hbox hg) | ((with_reducible refine gate_callee (f := 35) rfl ?_); refine goesL_ (some 12) rfl rfl Tryd.func35 (by kernel_rfl) rfl #[.string a0, .string (⟨#[99, 111, 100, 101]⟩ : ByteArray), .int .i64 4, .bool true] rfl (by (try simp only [List.map_toArray, List.map_cons, List.map_nil]); first | done | rfl | (simp only [List.length_drop, List.length_take]; rfl)) ?_; (with_reducible refine (cubbyref08_parse.calls k a0 (⟨#[99, 111, 100, 101]⟩ : ByteArray) 4 true t262 t263 t264 t265 t266 _ ?side1 A2.out).mono ?_); (case side1 => exact GW_below hGA.out (by repeat (first | (with_reducible first | exact HB.out | apply below_alloc | apply pw_below_drewN | apply below_drew1 | refine below_set ?_ GE261.out) | exact HB.out))); rintro e w18 ⟨v267, v269, rfl, ho0, ho1, hb⟩; refine ⟨_, rfl, ?_⟩; have n0_ := Aside0.mk (Kd.R_lower ho0 (below_size (by repeat (first | (with_reducible first | exact HB.out | apply below_alloc | apply pw_below_drewN | apply below_drew1 | refine below_set ?_ GE261.out) | exact HB.out)))); have n1_ := Aside0.mk (Kd.R_lower ho1 (below_size (by repeat (first | (with_reducible first | exact HB.out | apply below_alloc | apply pw_below_drewN | apply below_drew1 | refine below_set ?_ GE261.out) | exact HB.out)))); have n2_ := Aside0.mk (blk_below (g := gb261) (o := .cells #[.string (⟨#[]⟩ : ByteArray), .int .i64 0, .int .i64 0, .int .i64 0, .slice none 0 0] 52 (0, 0)) (by (with_reducible repeat (first | refine blk_drewN ?_ _ | refine blk_drew ?_ | refine blk_alloc ?_ _)); exact BK261.out) hb); have n3_ := Aside0.mk (below_step (by repeat (first | (with_reducible first | exact HB.out | apply below_alloc | apply pw_below_drewN | apply below_drew1 | refine below_set ?_ GE261.out) | exact HB.out)) hb); clear BK261; clear HB; have HO268 := n0_; have HO270 := n1_; have BK261 := n2_; have HB := n3_; clear n0_ n1_ n2_ n3_; (try clear hb); (try clear hb2); (try clear hk); (try clear hi); (try clear ho0); (try clear ho1); have hcz19_0 : w18.cell? ⟨gb261, 0, none⟩ = some (.string (⟨#[]⟩ : ByteArray)) := (blk_cell BK261.out 0).trans rfl; have hcz19_1 : w18.cell? ⟨gb261, 1, none⟩ = some (.int .i64 0) := (blk_cell BK261.out 1).trans rfl; have hcz19_2 : w18.cell? ⟨gb261, 2, none⟩ = some (.int .i64 0) := (blk_cell BK261.out 2).trans rfl; have hcz19_3 : w18.cell? ⟨gb261, 3, none⟩ = some (.int .i64 0) := (blk_cell BK261.out 3).trans rfl; have hcz19_4 : w18.cell? ⟨gb261, 4, none⟩ = some (.slice none 0 0) := (blk_cell BK261.out 4).trans rfl; have hfz19_0 := blk_frozen BK261.out 0; have hfz19_1 := blk_frozen BK261.out 1; have hfz19_2 := blk_frozen BK261.out 2; have hfz19_3 := blk_frozen BK261.out 3; have hfz19_4 := blk_frozen BK261.out 4))
  refine bodyPost_ret (results_ctt rfl _ _ gb261 52 #[.string (⟨#[]⟩ : ByteArray), .int .i64 0, .int .i64 0, .int .i64 0, .slice none 0 0] (0, 0) _ rfl (by (with_reducible repeat (first | refine blk_drewN ?_ _ | refine blk_drew ?_ | refine blk_alloc ?_ _)); refine blk_put (cs := #[.string (⟨#[]⟩ : ByteArray), .int .i64 0, .int .i64 0, .int .i64 0, .slice none 0 0]) ?_ 4 _ rfl; (with_reducible repeat (first | refine blk_drewN ?_ _ | refine blk_drew ?_ | refine blk_alloc ?_ _)); refine blk_put (cs := #[.string (⟨#[]⟩ : ByteArray), .int .i64 0, .int .i64 0, .int .i64 0, .slice none 0 0]) ?_ 3 _ rfl; (with_reducible repeat (first | refine blk_drewN ?_ _ | refine blk_drew ?_ | refine blk_alloc ?_ _)); refine blk_put (cs := #[.string (⟨#[]⟩ : ByteArray), .int .i64 0, .int .i64 0, .int .i64 0, .slice none 0 0]) ?_ 2 _ rfl; (with_reducible repeat (first | refine blk_drewN ?_ _ | refine blk_drew ?_ | refine blk_alloc ?_ _)); refine blk_put (cs := #[.string (⟨#[]⟩ : ByteArray), .int .i64 0, .int .i64 0, .int .i64 0, .slice none 0 0]) ?_ 1 _ rfl; (with_reducible repeat (first | refine blk_drewN ?_ _ | refine blk_drew ?_ | refine blk_alloc ?_ _)); refine blk_put (cs := #[.string (⟨#[]⟩ : ByteArray), .int .i64 0, .int .i64 0, .int .i64 0, .slice none 0 0]) ?_ 0 _ rfl; (with_reducible repeat (first | refine blk_drewN ?_ _ | refine blk_drew ?_ | refine blk_alloc ?_ _)); exact BK261.out) Tryd.underlying52 rfl (by kernel_rfl)) rfl ?_
  exact ⟨_, by first | rfl | (simp [errW_none, errW_some] <;> rfl) | (simp [*, errW_none, errW_some] <;> rfl), by first | exact Kd.R_nil _ _ _ _ _ | exact Kd.N_nil _ _ _ _ _ | exact Kd.V_nil _ _ _ _ _ | exact Kd.Q_nil _ _ _ _ _ | exact Kd.S_nil _ _ _ _ _, by repeat (first | (with_reducible first | exact HB.out | apply below_alloc | apply pw_below_drewN | apply below_drew1 | refine below_set ?_ GE261.out) | exact HB.out)⟩

end Go.Proofs.YtfibkajflenekaaDoor.PTx
