-- PRINTED by print.py (a twelfth state) out of the translation. Not trusted: Lean checks it.
import Derived.Test.YtfibkajflenekaaDoorPAskx0
import Derived.Test.YtfibkajflenekaaDoorPAskx4
namespace Go.Proofs.YtfibkajflenekaaDoor.PAsk
open Go.Proofs.YtfibkajflenekaaDoor.G
open Go.RowKit Go.Proofs.YtfibkajflenekaaDoorW.PrintWords Go.Proofs.YtfibkajflenekaaDoorW.PrintLast Go.Proofs.YtfibkajflenekaaDoorW.PrintMore
attribute [local go_sem] max2_int min2_int max_two min_two max_three min_three max_four min_four   -- for this text's walks alone
set_option linter.unusedVariables false
set_option linter.unusedSimpArgs false

/-! ### cubbyref21_Tell: function 30 -/
mutual
def cubbyref21_Tell.j0 : Nat → Bool → Bool → Bool → Bool → Int → Int → Int → Int → ByteArray → Option (ByteArray × Int)
  | 0, _, _, _, _, _, _, _, _, _ => none
  | k + 1, x4, x5, x6, x16, x137000, x137001, x137002, x137003, x137004 => if x16 = true then ((cubbyref08_Digits.f k x137001).bind fun t140 => (if 3 + t140.size ≤ 9223372036854775807 then (some ((⟨#[111, 107, 32]⟩ : ByteArray) ++ t140, 0)) else (none))) else (if x137000 = 2 then (if 5 + x137004.size ≤ 9223372036854775807 then (some ((⟨#[99, 111, 100, 101, 10]⟩ : ByteArray) ++ x137004, 0)) else (none)) else (if x137000 = 3 then (some ((⟨#[109, 105, 115, 115]⟩ : ByteArray), 0)) else (if x137000 = 4 then (if x4 = true then (cubbyref21_Tell.j1 k x4 x5 x6 x5 x137000 x137001 x137002 x137003 x137004) else (cubbyref21_Tell.j1 k x4 x5 x6 false x137000 x137001 x137002 x137003 x137004)) else (cubbyref21_Tell.j1 k x4 x5 x6 false x137000 x137001 x137002 x137003 x137004))))
def cubbyref21_Tell.j1 : Nat → Bool → Bool → Bool → Bool → Int → Int → Int → Int → ByteArray → Option (ByteArray × Int)
  | 0, _, _, _, _, _, _, _, _, _ => none
  | k + 1, x4, x5, x6, x38, x137000, x137001, x137002, x137003, x137004 => if x38 = true then ((cubbyref08_Digits.f k x137001).bind fun t141 => (if 6 + t141.size ≤ 9223372036854775807 then (if ((⟨#[101, 114, 114, 111, 114, 32]⟩ : ByteArray) ++ t141).size + 1 ≤ 9223372036854775807 then ((cubbyref08_Digits.f k x137002).bind fun t142 => (if (((⟨#[101, 114, 114, 111, 114, 32]⟩ : ByteArray) ++ t141) ++ (⟨#[32]⟩ : ByteArray)).size + t142.size ≤ 9223372036854775807 then (some ((((⟨#[101, 114, 114, 111, 114, 32]⟩ : ByteArray) ++ t141) ++ (⟨#[32]⟩ : ByteArray)) ++ t142, 0)) else (none))) else (none)) else (none))) else (if x137000 = 5 then (if x4 = true then (if x5 = true then (cubbyref21_Tell.j2 k x6 x137000 x137001 x137002 x137003 x137004) else (cubbyref21_Tell.j2 k false x137000 x137001 x137002 x137003 x137004)) else (cubbyref21_Tell.j2 k false x137000 x137001 x137002 x137003 x137004)) else (cubbyref21_Tell.j2 k false x137000 x137001 x137002 x137003 x137004))
def cubbyref21_Tell.j2 : Nat → Bool → Int → Int → Int → Int → ByteArray → Option (ByteArray × Int)
  | 0, _, _, _, _, _, _ => none
  | k + 1, x57, x137000, x137001, x137002, x137003, x137004 => if x57 = true then ((cubbyref08_Digits.f k x137001).bind fun t143 => (if 6 + t143.size ≤ 9223372036854775807 then (if ((⟨#[115, 116, 97, 116, 115, 32]⟩ : ByteArray) ++ t143).size + 1 ≤ 9223372036854775807 then ((cubbyref08_Digits.f k x137002).bind fun t144 => (if (((⟨#[115, 116, 97, 116, 115, 32]⟩ : ByteArray) ++ t143) ++ (⟨#[32]⟩ : ByteArray)).size + t144.size ≤ 9223372036854775807 then (if ((((⟨#[115, 116, 97, 116, 115, 32]⟩ : ByteArray) ++ t143) ++ (⟨#[32]⟩ : ByteArray)) ++ t144).size + 1 ≤ 9223372036854775807 then ((cubbyref08_Digits.f k x137003).bind fun t145 => (if (((((⟨#[115, 116, 97, 116, 115, 32]⟩ : ByteArray) ++ t143) ++ (⟨#[32]⟩ : ByteArray)) ++ t144) ++ (⟨#[32]⟩ : ByteArray)).size + t145.size ≤ 9223372036854775807 then (some ((((((⟨#[115, 116, 97, 116, 115, 32]⟩ : ByteArray) ++ t143) ++ (⟨#[32]⟩ : ByteArray)) ++ t144) ++ (⟨#[32]⟩ : ByteArray)) ++ t145, 0)) else (none))) else (none)) else (none))) else (none)) else (none))) else (some ((⟨#[]⟩ : ByteArray), 210))
end
def cubbyref21_Tell.f (k : Nat) (a0_0 : Int) (a0_1 : Int) (a0_2 : Int) (a0_3 : Int) (a0_4 : ByteArray) : Option (ByteArray × Int) := (cubbyref21_number.f a0_1).bind fun t137 => ((cubbyref21_number.f a0_2).bind fun t138 => ((cubbyref21_number.f a0_3).bind fun t139 => (if a0_0 = 1 then (cubbyref21_Tell.j0 k t137 t138 t139 t137 a0_0 a0_1 a0_2 a0_3 a0_4) else (cubbyref21_Tell.j0 k t137 t138 t139 false a0_0 a0_1 a0_2 a0_3 a0_4))))
theorem cubbyref21_Tell.mono_l : ∀ k, (∀ y0 y1 y2 y3 y4 y5 y6 y7 y8, LeO (cubbyref21_Tell.j0 k y0 y1 y2 y3 y4 y5 y6 y7 y8) (cubbyref21_Tell.j0 (k + 1) y0 y1 y2 y3 y4 y5 y6 y7 y8)) ∧ (∀ y0 y1 y2 y3 y4 y5 y6 y7 y8, LeO (cubbyref21_Tell.j1 k y0 y1 y2 y3 y4 y5 y6 y7 y8) (cubbyref21_Tell.j1 (k + 1) y0 y1 y2 y3 y4 y5 y6 y7 y8)) ∧ (∀ y0 y1 y2 y3 y4 y5, LeO (cubbyref21_Tell.j2 k y0 y1 y2 y3 y4 y5) (cubbyref21_Tell.j2 (k + 1) y0 y1 y2 y3 y4 y5))
  | 0 => ⟨fun _ _ _ _ _ _ _ _ _ r h => by simp [cubbyref21_Tell.j0] at h, fun _ _ _ _ _ _ _ _ _ r h => by simp [cubbyref21_Tell.j1] at h, fun _ _ _ _ _ _ r h => by simp [cubbyref21_Tell.j2] at h⟩
  | k + 1 => by
    obtain ⟨ih0, ih1, ih2⟩ := cubbyref21_Tell.mono_l k
    refine ⟨?_, ?_, ?_⟩
    · intro y0 y1 y2 y3 y4 y5 y6 y7 y8
      unfold cubbyref21_Tell.j0
      repeat' first
      | (with_reducible exact ih0 _ _ _ _ _ _ _ _ _)
      | (with_reducible exact ih1 _ _ _ _ _ _ _ _ _)
      | (with_reducible exact ih2 _ _ _ _ _ _)
      | (with_reducible exact cubbyref08_Digits.mono _ _)
      | (with_reducible exact LeO.refl _)
      | (with_reducible exact LeO.none _)
      | (with_reducible refine LeO.ite ?_ ?_)
      | (with_reducible refine LeO.bind ?_ (fun _ => ?_))
      | exact ih0 _ _ _ _ _ _ _ _ _
      | exact ih1 _ _ _ _ _ _ _ _ _
      | exact ih2 _ _ _ _ _ _
      | exact cubbyref08_Digits.mono _ _
      | exact LeO.none _
      | refine LeO.ite ?_ ?_
      | refine LeO.bind ?_ (fun _ => ?_)
    · intro y0 y1 y2 y3 y4 y5 y6 y7 y8
      unfold cubbyref21_Tell.j1
      repeat' first
      | (with_reducible exact ih0 _ _ _ _ _ _ _ _ _)
      | (with_reducible exact ih1 _ _ _ _ _ _ _ _ _)
      | (with_reducible exact ih2 _ _ _ _ _ _)
      | (with_reducible exact cubbyref08_Digits.mono _ _)
      | (with_reducible exact LeO.refl _)
      | (with_reducible exact LeO.none _)
      | (with_reducible refine LeO.ite ?_ ?_)
      | (with_reducible refine LeO.bind ?_ (fun _ => ?_))
      | exact ih0 _ _ _ _ _ _ _ _ _
      | exact ih1 _ _ _ _ _ _ _ _ _
      | exact ih2 _ _ _ _ _ _
      | exact cubbyref08_Digits.mono _ _
      | exact LeO.none _
      | refine LeO.ite ?_ ?_
      | refine LeO.bind ?_ (fun _ => ?_)
    · intro y0 y1 y2 y3 y4 y5
      unfold cubbyref21_Tell.j2
      repeat' first
      | (with_reducible exact ih0 _ _ _ _ _ _ _ _ _)
      | (with_reducible exact ih1 _ _ _ _ _ _ _ _ _)
      | (with_reducible exact ih2 _ _ _ _ _ _)
      | (with_reducible exact cubbyref08_Digits.mono _ _)
      | (with_reducible exact LeO.refl _)
      | (with_reducible exact LeO.none _)
      | (with_reducible refine LeO.ite ?_ ?_)
      | (with_reducible refine LeO.bind ?_ (fun _ => ?_))
      | exact ih0 _ _ _ _ _ _ _ _ _
      | exact ih1 _ _ _ _ _ _ _ _ _
      | exact ih2 _ _ _ _ _ _
      | exact cubbyref08_Digits.mono _ _
      | exact LeO.none _
      | refine LeO.ite ?_ ?_
      | refine LeO.bind ?_ (fun _ => ?_)
theorem cubbyref21_Tell.mono : ∀ a0 a1 a2 a3 a4 k, LeO (cubbyref21_Tell.f k a0 a1 a2 a3 a4) (cubbyref21_Tell.f (k + 1) a0 a1 a2 a3 a4) := by
  intro a0 a1 a2 a3 a4 k
  obtain ⟨ih0, ih1, ih2⟩ := cubbyref21_Tell.mono_l k
  unfold cubbyref21_Tell.f
  repeat' first
      | (with_reducible exact ih0 _ _ _ _ _ _ _ _ _)
      | (with_reducible exact ih1 _ _ _ _ _ _ _ _ _)
      | (with_reducible exact ih2 _ _ _ _ _ _)
      | (with_reducible exact cubbyref08_Digits.mono _ _)
      | (with_reducible exact LeO.refl _)
      | (with_reducible exact LeO.none _)
      | (with_reducible refine LeO.ite ?_ ?_)
      | (with_reducible refine LeO.bind ?_ (fun _ => ?_))
      | exact ih0 _ _ _ _ _ _ _ _ _
      | exact ih1 _ _ _ _ _ _ _ _ _
      | exact ih2 _ _ _ _ _ _
      | exact cubbyref08_Digits.mono _ _
      | exact LeO.none _
      | refine LeO.ite ?_ ?_
      | refine LeO.bind ?_ (fun _ => ?_)
set_option maxHeartbeats 8000000 in
set_option maxRecDepth 100000 in
theorem cubbyref21_Tell.calls (k : Nat) (a0_0 : Int) (a0_1 : Int) (a0_2 : Int) (a0_3 : Int) (a0_4 : ByteArray) (r1 : ByteArray) (r2 : Int) (w : World) (hG : GW w) (h : cubbyref21_Tell.f k a0_0 a0_1 a0_2 a0_3 a0_4 = some (r1, r2)) :
    Calls Tryd.prog 30 #[.agg #[.int .i64 a0_0, .int .i64 a0_1, .int .i64 a0_2, .int .i64 a0_3, .string a0_4]] w fun e w' => e = .returned (.tuple #[.string r1, .int .i64 r2]) ∧ Below w.heap.size w w' := by
  have hu34 := Tryd.underlying34
  have hGA := Aside0.mk hG
  clear hG
  have HB := Aside0.mk (Below.refl w.heap.size w)
  have H : ((cubbyref21_number.f a0_1).bind fun t137 => ((cubbyref21_number.f a0_2).bind fun t138 => ((cubbyref21_number.f a0_3).bind fun t139 => (if a0_0 = 1 then (cubbyref21_Tell.j0 k t137 t138 t139 t137 a0_0 a0_1 a0_2 a0_3 a0_4) else (cubbyref21_Tell.j0 k t137 t138 t139 false a0_0 a0_1 a0_2 a0_3 a0_4))))) = some (r1, r2) := h
  clear h
  replace H := Option.bind_eq_some_iff.mp H
  obtain ⟨t137, A20, H⟩ := H
  replace H : ((cubbyref21_number.f a0_2).bind fun t138 => ((cubbyref21_number.f a0_3).bind fun t139 => (if a0_0 = 1 then (cubbyref21_Tell.j0 k t137 t138 t139 t137 a0_0 a0_1 a0_2 a0_3 a0_4) else (cubbyref21_Tell.j0 k t137 t138 t139 false a0_0 a0_1 a0_2 a0_3 a0_4)))) = some (r1, r2) := H
  have A2 := Aside0.mk A20
  clear A20
  replace H := Option.bind_eq_some_iff.mp H
  obtain ⟨t138, A30, H⟩ := H
  replace H : ((cubbyref21_number.f a0_3).bind fun t139 => (if a0_0 = 1 then (cubbyref21_Tell.j0 k t137 t138 t139 t137 a0_0 a0_1 a0_2 a0_3 a0_4) else (cubbyref21_Tell.j0 k t137 t138 t139 false a0_0 a0_1 a0_2 a0_3 a0_4))) = some (r1, r2) := H
  have A3 := Aside0.mk A30
  clear A30
  replace H := Option.bind_eq_some_iff.mp H
  obtain ⟨t139, A40, H⟩ := H
  replace H : (if a0_0 = 1 then (cubbyref21_Tell.j0 k t137 t138 t139 t137 a0_0 a0_1 a0_2 a0_3 a0_4) else (cubbyref21_Tell.j0 k t137 t138 t139 false a0_0 a0_1 a0_2 a0_3 a0_4)) = some (r1, r2) := H
  have A4 := Aside0.mk A40
  clear A40
  have HC5 := Aside0.mk H
  clear H
  go_enter Tryd.func30, Tryd.ntmps30
  go_upto_region 4 with (first | ((with_reducible refine gate_dst (N := 1) rfl ?_); refine box_event ?hg (N := 1) ?hd (cs := #[.int .i64 a0_0, .int .i64 a0_1, .int .i64 a0_2, .int .i64 a0_3, .string a0_4]) (t := 34) ?hr ?_; (case hd => rfl); (case hg => rfl); (case hr => first | (go_simp; done) | (go_simp; rfl)); intro gb136 hg w6 hbox hb; have n0_ := Aside0.mk (below_step (by repeat (first | (with_reducible first | exact HB.out | apply below_alloc | apply pw_below_drewN | apply below_drew1) | exact HB.out)) hb); have n1_ := Aside0.mk (hbox); have n2_ := Aside0.mk ((by rw [hg]; exact (below_size (by repeat (first | (with_reducible first | exact HB.out | apply below_alloc | apply pw_below_drewN | apply below_drew1) | exact HB.out))) : w.heap.size ≤ gb136)); have n3_ := Aside0.mk ((by rw [hg]; exact (below_size (by repeat (first | (with_reducible first | exact HB.out | apply below_alloc | apply pw_below_drewN | apply below_drew1) | exact HB.out))) : w.heap.size ≤ gb136)); clear HB; have HB := n0_; have BK136 := n1_; have GW136 := n2_; have GE136 := n3_; clear n0_ n1_ n2_ n3_; clear hb hbox hg; have hcz7_0 : w6.cell? ⟨gb136, 0, none⟩ = some (.int .i64 a0_0) := (blk_cell BK136.out 0).trans rfl; have hcz7_1 : w6.cell? ⟨gb136, 1, none⟩ = some (.int .i64 a0_1) := (blk_cell BK136.out 1).trans rfl; have hcz7_2 : w6.cell? ⟨gb136, 2, none⟩ = some (.int .i64 a0_2) := (blk_cell BK136.out 2).trans rfl; have hcz7_3 : w6.cell? ⟨gb136, 3, none⟩ = some (.int .i64 a0_3) := (blk_cell BK136.out 3).trans rfl; have hcz7_4 : w6.cell? ⟨gb136, 4, none⟩ = some (.string a0_4) := (blk_cell BK136.out 4).trans rfl; have hfz7_0 := blk_frozen BK136.out 0; have hfz7_1 := blk_frozen BK136.out 1; have hfz7_2 := blk_frozen BK136.out 2; have hfz7_3 := blk_frozen BK136.out 3; have hfz7_4 := blk_frozen BK136.out 4) | (go_at_call 44; (with_reducible refine (cubbyref21_number.calls a0_1 t137 _ ?side1 A2.out).mono ?_); (case side1 => exact GW_below hGA.out (by repeat (first | (with_reducible first | exact HB.out | apply below_alloc | apply pw_below_drewN | apply below_drew1 | refine below_set ?_ GE136.out) | exact HB.out))); rintro e w' ⟨rfl, ⟨nd, rfl⟩⟩; (try first | exact ⟨rfl, _, World.drewN_drewN _ _ _⟩ | exact ⟨rfl, _, Eq.trans (World.drewN_drewN _ _ _) (congrArg (World.drewN _) (Nat.add_assoc _ _ _))⟩)) | (go_at_call 44; (with_reducible refine (cubbyref21_number.calls a0_2 t138 _ ?side1 A3.out).mono ?_); (case side1 => exact GW_below hGA.out (by repeat (first | (with_reducible first | exact HB.out | apply below_alloc | apply pw_below_drewN | apply below_drew1 | refine below_set ?_ GE136.out) | exact HB.out))); rintro e w' ⟨rfl, ⟨nd, rfl⟩⟩; (try first | exact ⟨rfl, _, World.drewN_drewN _ _ _⟩ | exact ⟨rfl, _, Eq.trans (World.drewN_drewN _ _ _) (congrArg (World.drewN _) (Nat.add_assoc _ _ _))⟩)) | (go_at_call 44; (with_reducible refine (cubbyref21_number.calls a0_3 t139 _ ?side1 A4.out).mono ?_); (case side1 => exact GW_below hGA.out (by repeat (first | (with_reducible first | exact HB.out | apply below_alloc | apply pw_below_drewN | apply below_drew1 | refine below_set ?_ GE136.out) | exact HB.out))); rintro e w' ⟨rfl, ⟨nd, rfl⟩⟩; (try first | exact ⟨rfl, _, World.drewN_drewN _ _ _⟩ | exact ⟨rfl, _, Eq.trans (World.drewN_drewN _ _ _) (congrArg (World.drewN _) (Nat.add_assoc _ _ _))⟩)))
  repeat (go_quiet (first | ((with_reducible refine gate_dst (N := 1) rfl ?_); refine box_event ?hg (N := 1) ?hd (cs := #[.int .i64 a0_0, .int .i64 a0_1, .int .i64 a0_2, .int .i64 a0_3, .string a0_4]) (t := 34) ?hr ?_; (case hd => rfl); (case hg => rfl); (case hr => first | (go_simp; done) | (go_simp; rfl)); intro gb136 hg w6 hbox hb; have n0_ := Aside0.mk (below_step (by repeat (first | (with_reducible first | exact HB.out | apply below_alloc | apply pw_below_drewN | apply below_drew1) | exact HB.out)) hb); have n1_ := Aside0.mk (hbox); have n2_ := Aside0.mk ((by rw [hg]; exact (below_size (by repeat (first | (with_reducible first | exact HB.out | apply below_alloc | apply pw_below_drewN | apply below_drew1) | exact HB.out))) : w.heap.size ≤ gb136)); have n3_ := Aside0.mk ((by rw [hg]; exact (below_size (by repeat (first | (with_reducible first | exact HB.out | apply below_alloc | apply pw_below_drewN | apply below_drew1) | exact HB.out))) : w.heap.size ≤ gb136)); clear HB; have HB := n0_; have BK136 := n1_; have GW136 := n2_; have GE136 := n3_; clear n0_ n1_ n2_ n3_; clear hb hbox hg; have hcz7_0 : w6.cell? ⟨gb136, 0, none⟩ = some (.int .i64 a0_0) := (blk_cell BK136.out 0).trans rfl; have hcz7_1 : w6.cell? ⟨gb136, 1, none⟩ = some (.int .i64 a0_1) := (blk_cell BK136.out 1).trans rfl; have hcz7_2 : w6.cell? ⟨gb136, 2, none⟩ = some (.int .i64 a0_2) := (blk_cell BK136.out 2).trans rfl; have hcz7_3 : w6.cell? ⟨gb136, 3, none⟩ = some (.int .i64 a0_3) := (blk_cell BK136.out 3).trans rfl; have hcz7_4 : w6.cell? ⟨gb136, 4, none⟩ = some (.string a0_4) := (blk_cell BK136.out 4).trans rfl; have hfz7_0 := blk_frozen BK136.out 0; have hfz7_1 := blk_frozen BK136.out 1; have hfz7_2 := blk_frozen BK136.out 2; have hfz7_3 := blk_frozen BK136.out 3; have hfz7_4 := blk_frozen BK136.out 4) | (go_at_call 44; (with_reducible refine (cubbyref21_number.calls a0_1 t137 _ ?side1 A2.out).mono ?_); (case side1 => exact GW_below hGA.out (by repeat (first | (with_reducible first | exact HB.out | apply below_alloc | apply pw_below_drewN | apply below_drew1 | refine below_set ?_ GE136.out) | exact HB.out))); rintro e w' ⟨rfl, ⟨nd, rfl⟩⟩; (try first | exact ⟨rfl, _, World.drewN_drewN _ _ _⟩ | exact ⟨rfl, _, Eq.trans (World.drewN_drewN _ _ _) (congrArg (World.drewN _) (Nat.add_assoc _ _ _))⟩)) | (go_at_call 44; (with_reducible refine (cubbyref21_number.calls a0_2 t138 _ ?side1 A3.out).mono ?_); (case side1 => exact GW_below hGA.out (by repeat (first | (with_reducible first | exact HB.out | apply below_alloc | apply pw_below_drewN | apply below_drew1 | refine below_set ?_ GE136.out) | exact HB.out))); rintro e w' ⟨rfl, ⟨nd, rfl⟩⟩; (try first | exact ⟨rfl, _, World.drewN_drewN _ _ _⟩ | exact ⟨rfl, _, Eq.trans (World.drewN_drewN _ _ _) (congrArg (World.drewN _) (Nat.add_assoc _ _ _))⟩)) | (go_at_call 44; (with_reducible refine (cubbyref21_number.calls a0_3 t139 _ ?side1 A4.out).mono ?_); (case side1 => exact GW_below hGA.out (by repeat (first | (with_reducible first | exact HB.out | apply below_alloc | apply pw_below_drewN | apply below_drew1 | refine below_set ?_ GE136.out) | exact HB.out))); rintro e w' ⟨rfl, ⟨nd, rfl⟩⟩; (try first | exact ⟨rfl, _, World.drewN_drewN _ _ _⟩ | exact ⟨rfl, _, Eq.trans (World.drewN_drewN _ _ _) (congrArg (World.drewN _) (Nat.add_assoc _ _ _))⟩))); go_upto_region 4 with (first | ((with_reducible refine gate_dst (N := 1) rfl ?_); refine box_event ?hg (N := 1) ?hd (cs := #[.int .i64 a0_0, .int .i64 a0_1, .int .i64 a0_2, .int .i64 a0_3, .string a0_4]) (t := 34) ?hr ?_; (case hd => rfl); (case hg => rfl); (case hr => first | (go_simp; done) | (go_simp; rfl)); intro gb136 hg w6 hbox hb; have n0_ := Aside0.mk (below_step (by repeat (first | (with_reducible first | exact HB.out | apply below_alloc | apply pw_below_drewN | apply below_drew1) | exact HB.out)) hb); have n1_ := Aside0.mk (hbox); have n2_ := Aside0.mk ((by rw [hg]; exact (below_size (by repeat (first | (with_reducible first | exact HB.out | apply below_alloc | apply pw_below_drewN | apply below_drew1) | exact HB.out))) : w.heap.size ≤ gb136)); have n3_ := Aside0.mk ((by rw [hg]; exact (below_size (by repeat (first | (with_reducible first | exact HB.out | apply below_alloc | apply pw_below_drewN | apply below_drew1) | exact HB.out))) : w.heap.size ≤ gb136)); clear HB; have HB := n0_; have BK136 := n1_; have GW136 := n2_; have GE136 := n3_; clear n0_ n1_ n2_ n3_; clear hb hbox hg; have hcz7_0 : w6.cell? ⟨gb136, 0, none⟩ = some (.int .i64 a0_0) := (blk_cell BK136.out 0).trans rfl; have hcz7_1 : w6.cell? ⟨gb136, 1, none⟩ = some (.int .i64 a0_1) := (blk_cell BK136.out 1).trans rfl; have hcz7_2 : w6.cell? ⟨gb136, 2, none⟩ = some (.int .i64 a0_2) := (blk_cell BK136.out 2).trans rfl; have hcz7_3 : w6.cell? ⟨gb136, 3, none⟩ = some (.int .i64 a0_3) := (blk_cell BK136.out 3).trans rfl; have hcz7_4 : w6.cell? ⟨gb136, 4, none⟩ = some (.string a0_4) := (blk_cell BK136.out 4).trans rfl; have hfz7_0 := blk_frozen BK136.out 0; have hfz7_1 := blk_frozen BK136.out 1; have hfz7_2 := blk_frozen BK136.out 2; have hfz7_3 := blk_frozen BK136.out 3; have hfz7_4 := blk_frozen BK136.out 4) | (go_at_call 44; (with_reducible refine (cubbyref21_number.calls a0_1 t137 _ ?side1 A2.out).mono ?_); (case side1 => exact GW_below hGA.out (by repeat (first | (with_reducible first | exact HB.out | apply below_alloc | apply pw_below_drewN | apply below_drew1 | refine below_set ?_ GE136.out) | exact HB.out))); rintro e w' ⟨rfl, ⟨nd, rfl⟩⟩; (try first | exact ⟨rfl, _, World.drewN_drewN _ _ _⟩ | exact ⟨rfl, _, Eq.trans (World.drewN_drewN _ _ _) (congrArg (World.drewN _) (Nat.add_assoc _ _ _))⟩)) | (go_at_call 44; (with_reducible refine (cubbyref21_number.calls a0_2 t138 _ ?side1 A3.out).mono ?_); (case side1 => exact GW_below hGA.out (by repeat (first | (with_reducible first | exact HB.out | apply below_alloc | apply pw_below_drewN | apply below_drew1 | refine below_set ?_ GE136.out) | exact HB.out))); rintro e w' ⟨rfl, ⟨nd, rfl⟩⟩; (try first | exact ⟨rfl, _, World.drewN_drewN _ _ _⟩ | exact ⟨rfl, _, Eq.trans (World.drewN_drewN _ _ _) (congrArg (World.drewN _) (Nat.add_assoc _ _ _))⟩)) | (go_at_call 44; (with_reducible refine (cubbyref21_number.calls a0_3 t139 _ ?side1 A4.out).mono ?_); (case side1 => exact GW_below hGA.out (by repeat (first | (with_reducible first | exact HB.out | apply below_alloc | apply pw_below_drewN | apply below_drew1 | refine below_set ?_ GE136.out) | exact HB.out))); rintro e w' ⟨rfl, ⟨nd, rfl⟩⟩; (try first | exact ⟨rfl, _, World.drewN_drewN _ _ _⟩ | exact ⟨rfl, _, Eq.trans (World.drewN_drewN _ _ _) (congrArg (World.drewN _) (Nat.add_assoc _ _ _))⟩))))
  (try simp only [Act.put, List.setIfInBounds_toArray, List.set_cons_zero, List.set_cons_succ])
  go_cut [16] (fun v16 wc => ∃ (kq : Nat) (x16_4 : Bool), v16 = .bool x16_4 ∧ Aside0 (cubbyref21_Tell.j0 kq t137 t138 t139 x16_4 a0_0 a0_1 a0_2 a0_3 a0_4 = some (r1, r2)) ∧ Aside0 (kq ≤ k) ∧ Aside0 (wc.heap[gb136]? = some (.cells #[.int .i64 a0_0, .int .i64 a0_1, .int .i64 a0_2, .int .i64 a0_3, .string a0_4] 34 (0, 0))) ∧ Aside0 (Below w.heap.size w wc))
  case first =>
    have H := HC5.out
    clear HC5
    by_cases c8 : a0_0 = 1
    · rw [if_pos c8] at H
      have c8b0 : (a0_0 == 1) = true := beq_iff_eq.mpr c8
      have c8b1 : (a0_0 != 1) = false := bne_eq_false_iff_eq.mpr c8
      clear c8
      (first | rw [c8b0] | (simp only [i64_w, i32_w]; rw [c8b0]) | skip)
      have H' := Aside0.mk H
      clear H
      have hcz9_0 : w6.cell? ⟨gb136, 0, none⟩ = some (.int .i64 a0_0) := (blk_cell BK136.out 0).trans rfl
      have hcz9_1 : w6.cell? ⟨gb136, 1, none⟩ = some (.int .i64 a0_1) := (blk_cell BK136.out 1).trans rfl
      have hcz9_2 : w6.cell? ⟨gb136, 2, none⟩ = some (.int .i64 a0_2) := (blk_cell BK136.out 2).trans rfl
      have hcz9_3 : w6.cell? ⟨gb136, 3, none⟩ = some (.int .i64 a0_3) := (blk_cell BK136.out 3).trans rfl
      have hcz9_4 : w6.cell? ⟨gb136, 4, none⟩ = some (.string a0_4) := (blk_cell BK136.out 4).trans rfl
      have hfz9_0 := blk_frozen BK136.out 0
      have hfz9_1 := blk_frozen BK136.out 1
      have hfz9_2 := blk_frozen BK136.out 2
      have hfz9_3 := blk_frozen BK136.out 3
      have hfz9_4 := blk_frozen BK136.out 4
      go_wp2
      repeat (go_quiet (fail); try go_wp2)
      go_meet
      case rel => exact ⟨_, (t137), (by first | rfl | (simp; done) | (simp [*]; done)), H', ⟨by first | omega | exact Nat.le_refl _⟩, ⟨by (with_reducible repeat (first | refine blk_drewN ?_ _ | refine blk_drew ?_ | refine blk_alloc ?_ _)); exact BK136.out⟩, ⟨by repeat (first | (with_reducible first | exact HB.out | apply below_alloc | apply pw_below_drewN | apply below_drew1 | refine below_set ?_ GE136.out) | exact HB.out)⟩⟩
    · rw [if_neg c8] at H
      have c8b0 : (a0_0 == 1) = false := beq_eq_false_iff_ne.mpr c8
      have c8b1 : (a0_0 != 1) = true := bne_iff_ne.mpr c8
      (first | rw [c8b0] | (simp only [i64_w, i32_w]; rw [c8b0]) | skip)
      have H' := Aside0.mk H
      clear H
      have hcz10_0 : w6.cell? ⟨gb136, 0, none⟩ = some (.int .i64 a0_0) := (blk_cell BK136.out 0).trans rfl
      have hcz10_1 : w6.cell? ⟨gb136, 1, none⟩ = some (.int .i64 a0_1) := (blk_cell BK136.out 1).trans rfl
      have hcz10_2 : w6.cell? ⟨gb136, 2, none⟩ = some (.int .i64 a0_2) := (blk_cell BK136.out 2).trans rfl
      have hcz10_3 : w6.cell? ⟨gb136, 3, none⟩ = some (.int .i64 a0_3) := (blk_cell BK136.out 3).trans rfl
      have hcz10_4 : w6.cell? ⟨gb136, 4, none⟩ = some (.string a0_4) := (blk_cell BK136.out 4).trans rfl
      have hfz10_0 := blk_frozen BK136.out 0
      have hfz10_1 := blk_frozen BK136.out 1
      have hfz10_2 := blk_frozen BK136.out 2
      have hfz10_3 := blk_frozen BK136.out 3
      have hfz10_4 := blk_frozen BK136.out 4
      go_wp2
      repeat (go_quiet (fail); try go_wp2)
      go_meet
      case rel => exact ⟨_, (false), (by first | rfl | (simp; done) | (simp [*]; done)), H', ⟨by first | omega | exact Nat.le_refl _⟩, ⟨by (with_reducible repeat (first | refine blk_drewN ?_ _ | refine blk_drew ?_ | refine blk_alloc ?_ _)); exact BK136.out⟩, ⟨by repeat (first | (with_reducible first | exact HB.out | apply below_alloc | apply pw_below_drewN | apply below_drew1 | refine below_set ?_ GE136.out) | exact HB.out)⟩⟩
  case rest =>
    clear HC5
    try clear p2
    try clear c3
    try clear c8
    try clear c8b0
    try clear c8b1
    try clear hcz10_0
    try clear hcz10_1
    try clear hcz10_2
    try clear hcz10_3
    try clear hcz10_4
    try clear hcz7_0
    try clear hcz7_1
    try clear hcz7_2
    try clear hcz7_3
    try clear hcz7_4
    try clear hcz9_0
    try clear hcz9_1
    try clear hcz9_2
    try clear hcz9_3
    try clear hcz9_4
    try clear hfz10_0
    try clear hfz10_1
    try clear hfz10_2
    try clear hfz10_3
    try clear hfz10_4
    try clear hfz7_0
    try clear hfz7_1
    try clear hfz7_2
    try clear hfz7_3
    try clear hfz7_4
    try clear hfz9_0
    try clear hfz9_1
    try clear hfz9_2
    try clear hfz9_3
    try clear hfz9_4
    obtain ⟨kq, x16_4, rfl, HA, HJ4, BK136, HB⟩ := hcut
    cases kq with
    | zero => exact absurd HA.out (by simp [cubbyref21_Tell.j0])
    | succ kj4 =>
      have H := HA.out
      clear HA
      simp only [cubbyref21_Tell.j0] at H
      by_cases c11 : x16_4 = true
      · subst c11
        have H1 : ((cubbyref08_Digits.f kj4 a0_1).bind fun t140 => (if 3 + t140.size ≤ 9223372036854775807 then (some ((⟨#[111, 107, 32]⟩ : ByteArray) ++ t140, 0)) else (none))) = some (r1, r2) := by rw [if_pos rfl] at H; exact H
        clear H
        have H := H1
        clear H1
        replace H := Option.bind_eq_some_iff.mp H
        obtain ⟨t140, A120, H⟩ := H
        replace H : (if 3 + t140.size ≤ 9223372036854775807 then (some ((⟨#[111, 107, 32]⟩ : ByteArray) ++ t140, 0)) else (none)) = some (r1, r2) := H
        have A12 := Aside0.mk A120
        clear A120
        by_cases c13 : 3 + t140.size ≤ 9223372036854775807
        · rw [if_pos c13] at H
          have c13b0 := eq_true c13
          have c13b1 : decide (3 + t140.size ≤ 9223372036854775807) = true := decide_eq_true c13
          try have c13b2 : (9223372036854775807 < 3 + t140.size) = False := eq_false (Nat.not_lt.2 c13)
          try have c13b3 := c13b2
          try simp only [ByteArray.size_append, bsz, List.size_toArray, List.length_cons, List.length_nil, Nat.zero_add, Nat.reduceAdd] at c13b3
          simp only [Option.some.injEq, Prod.mk.injEq] at H
          obtain ⟨rfl, rfl⟩ := H
          have hcz14_0 : wc.cell? ⟨gb136, 0, none⟩ = some (.int .i64 a0_0) := (blk_cell BK136.out 0).trans rfl
          have hcz14_1 : wc.cell? ⟨gb136, 1, none⟩ = some (.int .i64 a0_1) := (blk_cell BK136.out 1).trans rfl
          have hcz14_2 : wc.cell? ⟨gb136, 2, none⟩ = some (.int .i64 a0_2) := (blk_cell BK136.out 2).trans rfl
          have hcz14_3 : wc.cell? ⟨gb136, 3, none⟩ = some (.int .i64 a0_3) := (blk_cell BK136.out 3).trans rfl
          have hcz14_4 : wc.cell? ⟨gb136, 4, none⟩ = some (.string a0_4) := (blk_cell BK136.out 4).trans rfl
          have hfz14_0 := blk_frozen BK136.out 0
          have hfz14_1 := blk_frozen BK136.out 1
          have hfz14_2 := blk_frozen BK136.out 2
          have hfz14_3 := blk_frozen BK136.out 3
          have hfz14_4 := blk_frozen BK136.out 4
          go_wp2_with (first | (go_at_call 45; (with_reducible refine (cubbyref08_Digits.calls kj4 a0_1 t140 _ ?side1 A12.out).mono ?_); (case side1 => exact GW_below hGA.out (by repeat (first | (with_reducible first | exact HB.out | apply below_alloc | apply pw_below_drewN | apply below_drew1 | refine below_set ?_ GE136.out) | exact HB.out))); rintro e w' ⟨rfl, ⟨nd, rfl⟩⟩; (try first | exact ⟨rfl, _, World.drewN_drewN _ _ _⟩ | exact ⟨rfl, _, Eq.trans (World.drewN_drewN _ _ _) (congrArg (World.drewN _) (Nat.add_assoc _ _ _))⟩)))
          repeat (go_quiet (first | (go_at_call 45; (with_reducible refine (cubbyref08_Digits.calls kj4 a0_1 t140 _ ?side1 A12.out).mono ?_); (case side1 => exact GW_below hGA.out (by repeat (first | (with_reducible first | exact HB.out | apply below_alloc | apply pw_below_drewN | apply below_drew1 | refine below_set ?_ GE136.out) | exact HB.out))); rintro e w' ⟨rfl, ⟨nd, rfl⟩⟩; (try first | exact ⟨rfl, _, World.drewN_drewN _ _ _⟩ | exact ⟨rfl, _, Eq.trans (World.drewN_drewN _ _ _) (congrArg (World.drewN _) (Nat.add_assoc _ _ _))⟩))); try go_wp2_with (first | (go_at_call 45; (with_reducible refine (cubbyref08_Digits.calls kj4 a0_1 t140 _ ?side1 A12.out).mono ?_); (case side1 => exact GW_below hGA.out (by repeat (first | (with_reducible first | exact HB.out | apply below_alloc | apply pw_below_drewN | apply below_drew1 | refine below_set ?_ GE136.out) | exact HB.out))); rintro e w' ⟨rfl, ⟨nd, rfl⟩⟩; (try first | exact ⟨rfl, _, World.drewN_drewN _ _ _⟩ | exact ⟨rfl, _, Eq.trans (World.drewN_drewN _ _ _) (congrArg (World.drewN _) (Nat.add_assoc _ _ _))⟩))))
          go_ret2
          exact ⟨by first | rfl | (simp [errW_none, errW_some] <;> rfl) | (simp [*, errW_none, errW_some] <;> rfl), by repeat (first | (with_reducible first | exact HB.out | apply below_alloc | apply pw_below_drewN | apply below_drew1 | refine below_set ?_ GE136.out) | exact HB.out)⟩
        · rw [if_neg c13] at H
          exact absurd H (by simp)
      · replace c11 := Bool.eq_false_iff.mpr c11
        subst c11
        have H1 : (if a0_0 = 2 then (if 5 + a0_4.size ≤ 9223372036854775807 then (some ((⟨#[99, 111, 100, 101, 10]⟩ : ByteArray) ++ a0_4, 0)) else (none)) else (if a0_0 = 3 then (some ((⟨#[109, 105, 115, 115]⟩ : ByteArray), 0)) else (if a0_0 = 4 then (if t137 = true then (cubbyref21_Tell.j1 kj4 t137 t138 t139 t138 a0_0 a0_1 a0_2 a0_3 a0_4) else (cubbyref21_Tell.j1 kj4 t137 t138 t139 false a0_0 a0_1 a0_2 a0_3 a0_4)) else (cubbyref21_Tell.j1 kj4 t137 t138 t139 false a0_0 a0_1 a0_2 a0_3 a0_4)))) = some (r1, r2) := by rw [if_neg (show ¬ (false = true) by decide)] at H; exact H
        clear H
        have H := H1
        clear H1
        by_cases c15 : a0_0 = 2
        · rw [if_pos c15] at H
          have c15b0 : (a0_0 == 2) = true := beq_iff_eq.mpr c15
          have c15b1 : (a0_0 != 2) = false := bne_eq_false_iff_eq.mpr c15
          clear c15
          by_cases c16 : 5 + a0_4.size ≤ 9223372036854775807
          · rw [if_pos c16] at H
            have c16b0 := eq_true c16
            have c16b1 : decide (5 + a0_4.size ≤ 9223372036854775807) = true := decide_eq_true c16
            try have c16b2 : (9223372036854775807 < 5 + a0_4.size) = False := eq_false (Nat.not_lt.2 c16)
            try have c16b3 := c16b2
            try simp only [ByteArray.size_append, bsz, List.size_toArray, List.length_cons, List.length_nil, Nat.zero_add, Nat.reduceAdd] at c16b3
            simp only [Option.some.injEq, Prod.mk.injEq] at H
            obtain ⟨rfl, rfl⟩ := H
            have hcz17_0 : wc.cell? ⟨gb136, 0, none⟩ = some (.int .i64 a0_0) := (blk_cell BK136.out 0).trans rfl
            have hcz17_1 : wc.cell? ⟨gb136, 1, none⟩ = some (.int .i64 a0_1) := (blk_cell BK136.out 1).trans rfl
            have hcz17_2 : wc.cell? ⟨gb136, 2, none⟩ = some (.int .i64 a0_2) := (blk_cell BK136.out 2).trans rfl
            have hcz17_3 : wc.cell? ⟨gb136, 3, none⟩ = some (.int .i64 a0_3) := (blk_cell BK136.out 3).trans rfl
            have hcz17_4 : wc.cell? ⟨gb136, 4, none⟩ = some (.string a0_4) := (blk_cell BK136.out 4).trans rfl
            have hfz17_0 := blk_frozen BK136.out 0
            have hfz17_1 := blk_frozen BK136.out 1
            have hfz17_2 := blk_frozen BK136.out 2
            have hfz17_3 := blk_frozen BK136.out 3
            have hfz17_4 := blk_frozen BK136.out 4
            go_wp2
            repeat (go_quiet (fail); try go_wp2)
            go_ret2
            exact ⟨by first | rfl | (simp [errW_none, errW_some] <;> rfl) | (simp [*, errW_none, errW_some] <;> rfl), by repeat (first | (with_reducible first | exact HB.out | apply below_alloc | apply pw_below_drewN | apply below_drew1 | refine below_set ?_ GE136.out) | exact HB.out)⟩
          · rw [if_neg c16] at H
            exact absurd H (by simp)
        · rw [if_neg c15] at H
          have c15b0 : (a0_0 == 2) = false := beq_eq_false_iff_ne.mpr c15
          have c15b1 : (a0_0 != 2) = true := bne_iff_ne.mpr c15
          by_cases c18 : a0_0 = 3
          · rw [if_pos c18] at H
            have c18b0 : (a0_0 == 3) = true := beq_iff_eq.mpr c18
            have c18b1 : (a0_0 != 3) = false := bne_eq_false_iff_eq.mpr c18
            clear c18
            simp only [Option.some.injEq, Prod.mk.injEq] at H
            obtain ⟨rfl, rfl⟩ := H
            have hcz19_0 : wc.cell? ⟨gb136, 0, none⟩ = some (.int .i64 a0_0) := (blk_cell BK136.out 0).trans rfl
            have hcz19_1 : wc.cell? ⟨gb136, 1, none⟩ = some (.int .i64 a0_1) := (blk_cell BK136.out 1).trans rfl
            have hcz19_2 : wc.cell? ⟨gb136, 2, none⟩ = some (.int .i64 a0_2) := (blk_cell BK136.out 2).trans rfl
            have hcz19_3 : wc.cell? ⟨gb136, 3, none⟩ = some (.int .i64 a0_3) := (blk_cell BK136.out 3).trans rfl
            have hcz19_4 : wc.cell? ⟨gb136, 4, none⟩ = some (.string a0_4) := (blk_cell BK136.out 4).trans rfl
            have hfz19_0 := blk_frozen BK136.out 0
            have hfz19_1 := blk_frozen BK136.out 1
            have hfz19_2 := blk_frozen BK136.out 2
            have hfz19_3 := blk_frozen BK136.out 3
            have hfz19_4 := blk_frozen BK136.out 4
            go_wp2
            repeat (go_quiet (fail); try go_wp2)
            go_ret2
            exact ⟨by first | rfl | (simp [errW_none, errW_some] <;> rfl) | (simp [*, errW_none, errW_some] <;> rfl), by repeat (first | (with_reducible first | exact HB.out | apply below_alloc | apply pw_below_drewN | apply below_drew1 | refine below_set ?_ GE136.out) | exact HB.out)⟩
          · rw [if_neg c18] at H
            have c18b0 : (a0_0 == 3) = false := beq_eq_false_iff_ne.mpr c18
            have c18b1 : (a0_0 != 3) = true := bne_iff_ne.mpr c18
            have HC20 := Aside0.mk H
            clear H
            have hcz21_0 : wc.cell? ⟨gb136, 0, none⟩ = some (.int .i64 a0_0) := (blk_cell BK136.out 0).trans rfl
            have hcz21_1 : wc.cell? ⟨gb136, 1, none⟩ = some (.int .i64 a0_1) := (blk_cell BK136.out 1).trans rfl
            have hcz21_2 : wc.cell? ⟨gb136, 2, none⟩ = some (.int .i64 a0_2) := (blk_cell BK136.out 2).trans rfl
            have hcz21_3 : wc.cell? ⟨gb136, 3, none⟩ = some (.int .i64 a0_3) := (blk_cell BK136.out 3).trans rfl
            have hcz21_4 : wc.cell? ⟨gb136, 4, none⟩ = some (.string a0_4) := (blk_cell BK136.out 4).trans rfl
            have hfz21_0 := blk_frozen BK136.out 0
            have hfz21_1 := blk_frozen BK136.out 1
            have hfz21_2 := blk_frozen BK136.out 2
            have hfz21_3 := blk_frozen BK136.out 3
            have hfz21_4 := blk_frozen BK136.out 4
            go_upto_region 10 with (fail)
            repeat (go_quiet (fail); go_upto_region 10 with (fail))
            go_cut [38] (fun v38 wc => ∃ (kq : Nat) (x38_19 : Bool), v38 = .bool x38_19 ∧ Aside0 (cubbyref21_Tell.j1 kq t137 t138 t139 x38_19 a0_0 a0_1 a0_2 a0_3 a0_4 = some (r1, r2)) ∧ Aside0 (kq ≤ kj4) ∧ Aside0 (wc.heap[gb136]? = some (.cells #[.int .i64 a0_0, .int .i64 a0_1, .int .i64 a0_2, .int .i64 a0_3, .string a0_4] 34 (0, 0))) ∧ Aside0 (Below w.heap.size w wc))
            case first =>
              have H := HC20.out
              clear HC20
              by_cases c22 : a0_0 = 4
              · rw [if_pos c22] at H
                have c22b0 : (a0_0 == 4) = true := beq_iff_eq.mpr c22
                have c22b1 : (a0_0 != 4) = false := bne_eq_false_iff_eq.mpr c22
                clear c22
                (first | rw [c22b0] | (simp only [i64_w, i32_w]; rw [c22b0]) | skip)
                by_cases c23 : t137 = true
                · subst c23
                  have H1 : (cubbyref21_Tell.j1 kj4 true t138 t139 t138 a0_0 a0_1 a0_2 a0_3 a0_4) = some (r1, r2) := by rw [if_pos rfl] at H; exact H
                  clear H
                  have H := H1
                  clear H1
                  have H' := Aside0.mk H
                  clear H
                  have hcz24_0 : wc.cell? ⟨gb136, 0, none⟩ = some (.int .i64 a0_0) := (blk_cell BK136.out 0).trans rfl
                  have hcz24_1 : wc.cell? ⟨gb136, 1, none⟩ = some (.int .i64 a0_1) := (blk_cell BK136.out 1).trans rfl
                  have hcz24_2 : wc.cell? ⟨gb136, 2, none⟩ = some (.int .i64 a0_2) := (blk_cell BK136.out 2).trans rfl
                  have hcz24_3 : wc.cell? ⟨gb136, 3, none⟩ = some (.int .i64 a0_3) := (blk_cell BK136.out 3).trans rfl
                  have hcz24_4 : wc.cell? ⟨gb136, 4, none⟩ = some (.string a0_4) := (blk_cell BK136.out 4).trans rfl
                  have hfz24_0 := blk_frozen BK136.out 0
                  have hfz24_1 := blk_frozen BK136.out 1
                  have hfz24_2 := blk_frozen BK136.out 2
                  have hfz24_3 := blk_frozen BK136.out 3
                  have hfz24_4 := blk_frozen BK136.out 4
                  go_wp2
                  repeat (go_quiet (fail); try go_wp2)
                  go_meet
                  case rel => exact ⟨_, (t138), (by first | rfl | (simp; done) | (simp [*]; done)), H', ⟨by have := HJ4.out; first | omega | exact Nat.le_refl _⟩, ⟨by (with_reducible repeat (first | refine blk_drewN ?_ _ | refine blk_drew ?_ | refine blk_alloc ?_ _)); exact BK136.out⟩, ⟨by repeat (first | (with_reducible first | exact HB.out | apply below_alloc | apply pw_below_drewN | apply below_drew1 | refine below_set ?_ GE136.out) | exact HB.out)⟩⟩
                · replace c23 := Bool.eq_false_iff.mpr c23
                  subst c23
                  have H1 : (cubbyref21_Tell.j1 kj4 false t138 t139 false a0_0 a0_1 a0_2 a0_3 a0_4) = some (r1, r2) := by rw [if_neg (show ¬ (false = true) by decide)] at H; exact H
                  clear H
                  have H := H1
                  clear H1
                  have H' := Aside0.mk H
                  clear H
                  have hcz25_0 : wc.cell? ⟨gb136, 0, none⟩ = some (.int .i64 a0_0) := (blk_cell BK136.out 0).trans rfl
                  have hcz25_1 : wc.cell? ⟨gb136, 1, none⟩ = some (.int .i64 a0_1) := (blk_cell BK136.out 1).trans rfl
                  have hcz25_2 : wc.cell? ⟨gb136, 2, none⟩ = some (.int .i64 a0_2) := (blk_cell BK136.out 2).trans rfl
                  have hcz25_3 : wc.cell? ⟨gb136, 3, none⟩ = some (.int .i64 a0_3) := (blk_cell BK136.out 3).trans rfl
                  have hcz25_4 : wc.cell? ⟨gb136, 4, none⟩ = some (.string a0_4) := (blk_cell BK136.out 4).trans rfl
                  have hfz25_0 := blk_frozen BK136.out 0
                  have hfz25_1 := blk_frozen BK136.out 1
                  have hfz25_2 := blk_frozen BK136.out 2
                  have hfz25_3 := blk_frozen BK136.out 3
                  have hfz25_4 := blk_frozen BK136.out 4
                  go_wp2
                  repeat (go_quiet (fail); try go_wp2)
                  go_meet
                  case rel => exact ⟨_, (false), (by first | rfl | (simp; done) | (simp [*]; done)), H', ⟨by have := HJ4.out; first | omega | exact Nat.le_refl _⟩, ⟨by (with_reducible repeat (first | refine blk_drewN ?_ _ | refine blk_drew ?_ | refine blk_alloc ?_ _)); exact BK136.out⟩, ⟨by repeat (first | (with_reducible first | exact HB.out | apply below_alloc | apply pw_below_drewN | apply below_drew1 | refine below_set ?_ GE136.out) | exact HB.out)⟩⟩
              · rw [if_neg c22] at H
                have c22b0 : (a0_0 == 4) = false := beq_eq_false_iff_ne.mpr c22
                have c22b1 : (a0_0 != 4) = true := bne_iff_ne.mpr c22
                (first | rw [c22b0] | (simp only [i64_w, i32_w]; rw [c22b0]) | skip)
                have H' := Aside0.mk H
                clear H
                have hcz26_0 : wc.cell? ⟨gb136, 0, none⟩ = some (.int .i64 a0_0) := (blk_cell BK136.out 0).trans rfl
                have hcz26_1 : wc.cell? ⟨gb136, 1, none⟩ = some (.int .i64 a0_1) := (blk_cell BK136.out 1).trans rfl
                have hcz26_2 : wc.cell? ⟨gb136, 2, none⟩ = some (.int .i64 a0_2) := (blk_cell BK136.out 2).trans rfl
                have hcz26_3 : wc.cell? ⟨gb136, 3, none⟩ = some (.int .i64 a0_3) := (blk_cell BK136.out 3).trans rfl
                have hcz26_4 : wc.cell? ⟨gb136, 4, none⟩ = some (.string a0_4) := (blk_cell BK136.out 4).trans rfl
                have hfz26_0 := blk_frozen BK136.out 0
                have hfz26_1 := blk_frozen BK136.out 1
                have hfz26_2 := blk_frozen BK136.out 2
                have hfz26_3 := blk_frozen BK136.out 3
                have hfz26_4 := blk_frozen BK136.out 4
                go_wp2
                repeat (go_quiet (fail); try go_wp2)
                go_meet
                case rel => exact ⟨_, (false), (by first | rfl | (simp; done) | (simp [*]; done)), H', ⟨by have := HJ4.out; first | omega | exact Nat.le_refl _⟩, ⟨by (with_reducible repeat (first | refine blk_drewN ?_ _ | refine blk_drew ?_ | refine blk_alloc ?_ _)); exact BK136.out⟩, ⟨by repeat (first | (with_reducible first | exact HB.out | apply below_alloc | apply pw_below_drewN | apply below_drew1 | refine below_set ?_ GE136.out) | exact HB.out)⟩⟩
            case rest =>
              clear HC20
              try clear c1
              try clear c2
              try clear p2
              try clear c3
              try clear c8
              try clear c8b0
              try clear c8b1
              try clear c11
              try clear c13
              try clear c13b0
              try clear c13b1
              try clear c13b2
              try clear c15
              try clear c15b0
              try clear c15b1
              try clear c16
              try clear c16b0
              try clear c16b1
              try clear c16b2
              try clear c18
              try clear c18b0
              try clear c18b1
              try clear c22
              try clear c22b0
              try clear c22b1
              try clear c23
              try clear hcz10_0
              try clear hcz10_1
              try clear hcz10_2
              try clear hcz10_3
              try clear hcz10_4
              try clear hcz14_0
              try clear hcz14_1
              try clear hcz14_2
              try clear hcz14_3
              try clear hcz14_4
              try clear hcz17_0
              try clear hcz17_1
              try clear hcz17_2
              try clear hcz17_3
              try clear hcz17_4
              try clear hcz19_0
              try clear hcz19_1
              try clear hcz19_2
              try clear hcz19_3
              try clear hcz19_4
              try clear hcz21_0
              try clear hcz21_1
              try clear hcz21_2
              try clear hcz21_3
              try clear hcz21_4
              try clear hcz24_0
              try clear hcz24_1
              try clear hcz24_2
              try clear hcz24_3
              try clear hcz24_4
              try clear hcz25_0
              try clear hcz25_1
              try clear hcz25_2
              try clear hcz25_3
              try clear hcz25_4
              try clear hcz26_0
              try clear hcz26_1
              try clear hcz26_2
              try clear hcz26_3
              try clear hcz26_4
              try clear hcz7_0
              try clear hcz7_1
              try clear hcz7_2
              try clear hcz7_3
              try clear hcz7_4
              try clear hcz9_0
              try clear hcz9_1
              try clear hcz9_2
              try clear hcz9_3
              try clear hcz9_4
              try clear hfz10_0
              try clear hfz10_1
              try clear hfz10_2
              try clear hfz10_3
              try clear hfz10_4
              try clear hfz14_0
              try clear hfz14_1
              try clear hfz14_2
              try clear hfz14_3
              try clear hfz14_4
              try clear hfz17_0
              try clear hfz17_1
              try clear hfz17_2
              try clear hfz17_3
              try clear hfz17_4
              try clear hfz19_0
              try clear hfz19_1
              try clear hfz19_2
              try clear hfz19_3
              try clear hfz19_4
              try clear hfz21_0
              try clear hfz21_1
              try clear hfz21_2
              try clear hfz21_3
              try clear hfz21_4
              try clear hfz24_0
              try clear hfz24_1
              try clear hfz24_2
              try clear hfz24_3
              try clear hfz24_4
              try clear hfz25_0
              try clear hfz25_1
              try clear hfz25_2
              try clear hfz25_3
              try clear hfz25_4
              try clear hfz26_0
              try clear hfz26_1
              try clear hfz26_2
              try clear hfz26_3
              try clear hfz26_4
              try clear hfz7_0
              try clear hfz7_1
              try clear hfz7_2
              try clear hfz7_3
              try clear hfz7_4
              try clear hfz9_0
              try clear hfz9_1
              try clear hfz9_2
              try clear hfz9_3
              try clear hfz9_4
              try clear p2
              obtain ⟨kq, x38_19, rfl, HA, HJ19, BK136, HB⟩ := hcut
              cases kq with
              | zero => exact absurd HA.out (by simp [cubbyref21_Tell.j1])
              | succ kj19 =>
                have H := HA.out
                clear HA
                simp only [cubbyref21_Tell.j1] at H
                by_cases c27 : x38_19 = true
                · subst c27
                  have H1 : ((cubbyref08_Digits.f kj19 a0_1).bind fun t141 => (if 6 + t141.size ≤ 9223372036854775807 then (if ((⟨#[101, 114, 114, 111, 114, 32]⟩ : ByteArray) ++ t141).size + 1 ≤ 9223372036854775807 then ((cubbyref08_Digits.f kj19 a0_2).bind fun t142 => (if (((⟨#[101, 114, 114, 111, 114, 32]⟩ : ByteArray) ++ t141) ++ (⟨#[32]⟩ : ByteArray)).size + t142.size ≤ 9223372036854775807 then (some ((((⟨#[101, 114, 114, 111, 114, 32]⟩ : ByteArray) ++ t141) ++ (⟨#[32]⟩ : ByteArray)) ++ t142, 0)) else (none))) else (none)) else (none))) = some (r1, r2) := by rw [if_pos rfl] at H; exact H
                  clear H
                  have H := H1
                  clear H1
                  replace H := Option.bind_eq_some_iff.mp H
                  obtain ⟨t141, A280, H⟩ := H
                  replace H : (if 6 + t141.size ≤ 9223372036854775807 then (if ((⟨#[101, 114, 114, 111, 114, 32]⟩ : ByteArray) ++ t141).size + 1 ≤ 9223372036854775807 then ((cubbyref08_Digits.f kj19 a0_2).bind fun t142 => (if (((⟨#[101, 114, 114, 111, 114, 32]⟩ : ByteArray) ++ t141) ++ (⟨#[32]⟩ : ByteArray)).size + t142.size ≤ 9223372036854775807 then (some ((((⟨#[101, 114, 114, 111, 114, 32]⟩ : ByteArray) ++ t141) ++ (⟨#[32]⟩ : ByteArray)) ++ t142, 0)) else (none))) else (none)) else (none)) = some (r1, r2) := H
                  have A28 := Aside0.mk A280
                  clear A280
                  by_cases c29 : 6 + t141.size ≤ 9223372036854775807
                  · rw [if_pos c29] at H
                    have c29b0 := eq_true c29
                    have c29b1 : decide (6 + t141.size ≤ 9223372036854775807) = true := decide_eq_true c29
                    try have c29b2 : (9223372036854775807 < 6 + t141.size) = False := eq_false (Nat.not_lt.2 c29)
                    try have c29b3 := c29b2
                    try simp only [ByteArray.size_append, bsz, List.size_toArray, List.length_cons, List.length_nil, Nat.zero_add, Nat.reduceAdd] at c29b3
                    by_cases c30 : ((⟨#[101, 114, 114, 111, 114, 32]⟩ : ByteArray) ++ t141).size + 1 ≤ 9223372036854775807
                    · rw [if_pos c30] at H
                      have c30b0 := eq_true c30
                      have c30b1 : decide (((⟨#[101, 114, 114, 111, 114, 32]⟩ : ByteArray) ++ t141).size + 1 ≤ 9223372036854775807) = true := decide_eq_true c30
                      try have c30b2 : (9223372036854775807 < ((⟨#[101, 114, 114, 111, 114, 32]⟩ : ByteArray) ++ t141).size + 1) = False := eq_false (Nat.not_lt.2 c30)
                      try have c30b3 := c30b2
                      try simp only [ByteArray.size_append, bsz, List.size_toArray, List.length_cons, List.length_nil, Nat.zero_add, Nat.reduceAdd] at c30b3
                      replace H := Option.bind_eq_some_iff.mp H
                      obtain ⟨t142, A310, H⟩ := H
                      replace H : (if (((⟨#[101, 114, 114, 111, 114, 32]⟩ : ByteArray) ++ t141) ++ (⟨#[32]⟩ : ByteArray)).size + t142.size ≤ 9223372036854775807 then (some ((((⟨#[101, 114, 114, 111, 114, 32]⟩ : ByteArray) ++ t141) ++ (⟨#[32]⟩ : ByteArray)) ++ t142, 0)) else (none)) = some (r1, r2) := H
                      have A31 := Aside0.mk A310
                      clear A310
                      by_cases c32 : (((⟨#[101, 114, 114, 111, 114, 32]⟩ : ByteArray) ++ t141) ++ (⟨#[32]⟩ : ByteArray)).size + t142.size ≤ 9223372036854775807
                      · rw [if_pos c32] at H
                        have c32b0 := eq_true c32
                        have c32b1 : decide ((((⟨#[101, 114, 114, 111, 114, 32]⟩ : ByteArray) ++ t141) ++ (⟨#[32]⟩ : ByteArray)).size + t142.size ≤ 9223372036854775807) = true := decide_eq_true c32
                        try have c32b2 : (9223372036854775807 < (((⟨#[101, 114, 114, 111, 114, 32]⟩ : ByteArray) ++ t141) ++ (⟨#[32]⟩ : ByteArray)).size + t142.size) = False := eq_false (Nat.not_lt.2 c32)
                        try have c32b3 := c32b2
                        try simp only [ByteArray.size_append, bsz, List.size_toArray, List.length_cons, List.length_nil, Nat.zero_add, Nat.reduceAdd] at c32b3
                        simp only [Option.some.injEq, Prod.mk.injEq] at H
                        obtain ⟨rfl, rfl⟩ := H
                        have hcz33_0 : wc.cell? ⟨gb136, 0, none⟩ = some (.int .i64 a0_0) := (blk_cell BK136.out 0).trans rfl
                        have hcz33_1 : wc.cell? ⟨gb136, 1, none⟩ = some (.int .i64 a0_1) := (blk_cell BK136.out 1).trans rfl
                        have hcz33_2 : wc.cell? ⟨gb136, 2, none⟩ = some (.int .i64 a0_2) := (blk_cell BK136.out 2).trans rfl
                        have hcz33_3 : wc.cell? ⟨gb136, 3, none⟩ = some (.int .i64 a0_3) := (blk_cell BK136.out 3).trans rfl
                        have hcz33_4 : wc.cell? ⟨gb136, 4, none⟩ = some (.string a0_4) := (blk_cell BK136.out 4).trans rfl
                        have hfz33_0 := blk_frozen BK136.out 0
                        have hfz33_1 := blk_frozen BK136.out 1
                        have hfz33_2 := blk_frozen BK136.out 2
                        have hfz33_3 := blk_frozen BK136.out 3
                        have hfz33_4 := blk_frozen BK136.out 4
                        go_wp2_with (first | (go_at_call 45; (with_reducible refine (cubbyref08_Digits.calls kj19 a0_1 t141 _ ?side1 A28.out).mono ?_); (case side1 => exact GW_below hGA.out (by repeat (first | (with_reducible first | exact HB.out | apply below_alloc | apply pw_below_drewN | apply below_drew1 | refine below_set ?_ GE136.out) | exact HB.out))); rintro e w' ⟨rfl, ⟨nd, rfl⟩⟩; (try first | exact ⟨rfl, _, World.drewN_drewN _ _ _⟩ | exact ⟨rfl, _, Eq.trans (World.drewN_drewN _ _ _) (congrArg (World.drewN _) (Nat.add_assoc _ _ _))⟩)) | (go_at_call 45; (with_reducible refine (cubbyref08_Digits.calls kj19 a0_2 t142 _ ?side1 A31.out).mono ?_); (case side1 => exact GW_below hGA.out (by repeat (first | (with_reducible first | exact HB.out | apply below_alloc | apply pw_below_drewN | apply below_drew1 | refine below_set ?_ GE136.out) | exact HB.out))); rintro e w' ⟨rfl, ⟨nd, rfl⟩⟩; (try first | exact ⟨rfl, _, World.drewN_drewN _ _ _⟩ | exact ⟨rfl, _, Eq.trans (World.drewN_drewN _ _ _) (congrArg (World.drewN _) (Nat.add_assoc _ _ _))⟩)))
                        repeat (go_quiet (first | (go_at_call 45; (with_reducible refine (cubbyref08_Digits.calls kj19 a0_1 t141 _ ?side1 A28.out).mono ?_); (case side1 => exact GW_below hGA.out (by repeat (first | (with_reducible first | exact HB.out | apply below_alloc | apply pw_below_drewN | apply below_drew1 | refine below_set ?_ GE136.out) | exact HB.out))); rintro e w' ⟨rfl, ⟨nd, rfl⟩⟩; (try first | exact ⟨rfl, _, World.drewN_drewN _ _ _⟩ | exact ⟨rfl, _, Eq.trans (World.drewN_drewN _ _ _) (congrArg (World.drewN _) (Nat.add_assoc _ _ _))⟩)) | (go_at_call 45; (with_reducible refine (cubbyref08_Digits.calls kj19 a0_2 t142 _ ?side1 A31.out).mono ?_); (case side1 => exact GW_below hGA.out (by repeat (first | (with_reducible first | exact HB.out | apply below_alloc | apply pw_below_drewN | apply below_drew1 | refine below_set ?_ GE136.out) | exact HB.out))); rintro e w' ⟨rfl, ⟨nd, rfl⟩⟩; (try first | exact ⟨rfl, _, World.drewN_drewN _ _ _⟩ | exact ⟨rfl, _, Eq.trans (World.drewN_drewN _ _ _) (congrArg (World.drewN _) (Nat.add_assoc _ _ _))⟩))); try go_wp2_with (first | (go_at_call 45; (with_reducible refine (cubbyref08_Digits.calls kj19 a0_1 t141 _ ?side1 A28.out).mono ?_); (case side1 => exact GW_below hGA.out (by repeat (first | (with_reducible first | exact HB.out | apply below_alloc | apply pw_below_drewN | apply below_drew1 | refine below_set ?_ GE136.out) | exact HB.out))); rintro e w' ⟨rfl, ⟨nd, rfl⟩⟩; (try first | exact ⟨rfl, _, World.drewN_drewN _ _ _⟩ | exact ⟨rfl, _, Eq.trans (World.drewN_drewN _ _ _) (congrArg (World.drewN _) (Nat.add_assoc _ _ _))⟩)) | (go_at_call 45; (with_reducible refine (cubbyref08_Digits.calls kj19 a0_2 t142 _ ?side1 A31.out).mono ?_); (case side1 => exact GW_below hGA.out (by repeat (first | (with_reducible first | exact HB.out | apply below_alloc | apply pw_below_drewN | apply below_drew1 | refine below_set ?_ GE136.out) | exact HB.out))); rintro e w' ⟨rfl, ⟨nd, rfl⟩⟩; (try first | exact ⟨rfl, _, World.drewN_drewN _ _ _⟩ | exact ⟨rfl, _, Eq.trans (World.drewN_drewN _ _ _) (congrArg (World.drewN _) (Nat.add_assoc _ _ _))⟩))))
                        go_ret2
                        exact ⟨by first | rfl | (simp [errW_none, errW_some] <;> rfl) | (simp [*, errW_none, errW_some] <;> rfl), by repeat (first | (with_reducible first | exact HB.out | apply below_alloc | apply pw_below_drewN | apply below_drew1 | refine below_set ?_ GE136.out) | exact HB.out)⟩
                      · rw [if_neg c32] at H
                        exact absurd H (by simp)
                    · rw [if_neg c30] at H
                      exact absurd H (by simp)
                  · rw [if_neg c29] at H
                    exact absurd H (by simp)
                · replace c27 := Bool.eq_false_iff.mpr c27
                  subst c27
                  have H1 : (if a0_0 = 5 then (if t137 = true then (if t138 = true then (cubbyref21_Tell.j2 kj19 t139 a0_0 a0_1 a0_2 a0_3 a0_4) else (cubbyref21_Tell.j2 kj19 false a0_0 a0_1 a0_2 a0_3 a0_4)) else (cubbyref21_Tell.j2 kj19 false a0_0 a0_1 a0_2 a0_3 a0_4)) else (cubbyref21_Tell.j2 kj19 false a0_0 a0_1 a0_2 a0_3 a0_4)) = some (r1, r2) := by rw [if_neg (show ¬ (false = true) by decide)] at H; exact H
                  clear H
                  have H := H1
                  clear H1
                  have HC34 := Aside0.mk H
                  clear H
                  go_upto_region 12 with (fail)
                  repeat (go_quiet (fail); go_upto_region 12 with (fail))
                  go_cut [57] (fun v57 wc => ∃ (kq : Nat) (x57_33 : Bool), v57 = .bool x57_33 ∧ Aside0 (cubbyref21_Tell.j2 kq x57_33 a0_0 a0_1 a0_2 a0_3 a0_4 = some (r1, r2)) ∧ Aside0 (kq ≤ kj19) ∧ Aside0 (wc.heap[gb136]? = some (.cells #[.int .i64 a0_0, .int .i64 a0_1, .int .i64 a0_2, .int .i64 a0_3, .string a0_4] 34 (0, 0))) ∧ Aside0 (Below w.heap.size w wc))
                  case first =>
                    have H := HC34.out
                    clear HC34
                    by_cases c35 : a0_0 = 5
                    · rw [if_pos c35] at H
                      have c35b0 : (a0_0 == 5) = true := beq_iff_eq.mpr c35
                      have c35b1 : (a0_0 != 5) = false := bne_eq_false_iff_eq.mpr c35
                      clear c35
                      (first | rw [c35b0] | (simp only [i64_w, i32_w]; rw [c35b0]) | skip)
                      by_cases c36 : t137 = true
                      · subst c36
                        have H1 : (if t138 = true then (cubbyref21_Tell.j2 kj19 t139 a0_0 a0_1 a0_2 a0_3 a0_4) else (cubbyref21_Tell.j2 kj19 false a0_0 a0_1 a0_2 a0_3 a0_4)) = some (r1, r2) := by rw [if_pos rfl] at H; exact H
                        clear H
                        have H := H1
                        clear H1
                        by_cases c37 : t138 = true
                        · subst c37
                          have H1 : (cubbyref21_Tell.j2 kj19 t139 a0_0 a0_1 a0_2 a0_3 a0_4) = some (r1, r2) := by rw [if_pos rfl] at H; exact H
                          clear H
                          have H := H1
                          clear H1
                          have H' := Aside0.mk H
                          clear H
                          have hcz38_0 : wc.cell? ⟨gb136, 0, none⟩ = some (.int .i64 a0_0) := (blk_cell BK136.out 0).trans rfl
                          have hcz38_1 : wc.cell? ⟨gb136, 1, none⟩ = some (.int .i64 a0_1) := (blk_cell BK136.out 1).trans rfl
                          have hcz38_2 : wc.cell? ⟨gb136, 2, none⟩ = some (.int .i64 a0_2) := (blk_cell BK136.out 2).trans rfl
                          have hcz38_3 : wc.cell? ⟨gb136, 3, none⟩ = some (.int .i64 a0_3) := (blk_cell BK136.out 3).trans rfl
                          have hcz38_4 : wc.cell? ⟨gb136, 4, none⟩ = some (.string a0_4) := (blk_cell BK136.out 4).trans rfl
                          have hfz38_0 := blk_frozen BK136.out 0
                          have hfz38_1 := blk_frozen BK136.out 1
                          have hfz38_2 := blk_frozen BK136.out 2
                          have hfz38_3 := blk_frozen BK136.out 3
                          have hfz38_4 := blk_frozen BK136.out 4
                          go_wp2
                          repeat (go_quiet (fail); try go_wp2)
                          go_meet
                          case rel => exact ⟨_, (t139), (by first | rfl | (simp; done) | (simp [*]; done)), H', ⟨by have := HJ4.out; have := HJ19.out; first | omega | exact Nat.le_refl _⟩, ⟨by (with_reducible repeat (first | refine blk_drewN ?_ _ | refine blk_drew ?_ | refine blk_alloc ?_ _)); exact BK136.out⟩, ⟨by repeat (first | (with_reducible first | exact HB.out | apply below_alloc | apply pw_below_drewN | apply below_drew1 | refine below_set ?_ GE136.out) | exact HB.out)⟩⟩
                        · replace c37 := Bool.eq_false_iff.mpr c37
                          subst c37
                          have H1 : (cubbyref21_Tell.j2 kj19 false a0_0 a0_1 a0_2 a0_3 a0_4) = some (r1, r2) := by rw [if_neg (show ¬ (false = true) by decide)] at H; exact H
                          clear H
                          have H := H1
                          clear H1
                          have H' := Aside0.mk H
                          clear H
                          have hcz39_0 : wc.cell? ⟨gb136, 0, none⟩ = some (.int .i64 a0_0) := (blk_cell BK136.out 0).trans rfl
                          have hcz39_1 : wc.cell? ⟨gb136, 1, none⟩ = some (.int .i64 a0_1) := (blk_cell BK136.out 1).trans rfl
                          have hcz39_2 : wc.cell? ⟨gb136, 2, none⟩ = some (.int .i64 a0_2) := (blk_cell BK136.out 2).trans rfl
                          have hcz39_3 : wc.cell? ⟨gb136, 3, none⟩ = some (.int .i64 a0_3) := (blk_cell BK136.out 3).trans rfl
                          have hcz39_4 : wc.cell? ⟨gb136, 4, none⟩ = some (.string a0_4) := (blk_cell BK136.out 4).trans rfl
                          have hfz39_0 := blk_frozen BK136.out 0
                          have hfz39_1 := blk_frozen BK136.out 1
                          have hfz39_2 := blk_frozen BK136.out 2
                          have hfz39_3 := blk_frozen BK136.out 3
                          have hfz39_4 := blk_frozen BK136.out 4
                          go_wp2
                          repeat (go_quiet (fail); try go_wp2)
                          go_meet
                          case rel => exact ⟨_, (false), (by first | rfl | (simp; done) | (simp [*]; done)), H', ⟨by have := HJ4.out; have := HJ19.out; first | omega | exact Nat.le_refl _⟩, ⟨by (with_reducible repeat (first | refine blk_drewN ?_ _ | refine blk_drew ?_ | refine blk_alloc ?_ _)); exact BK136.out⟩, ⟨by repeat (first | (with_reducible first | exact HB.out | apply below_alloc | apply pw_below_drewN | apply below_drew1 | refine below_set ?_ GE136.out) | exact HB.out)⟩⟩
                      · replace c36 := Bool.eq_false_iff.mpr c36
                        subst c36
                        have H1 : (cubbyref21_Tell.j2 kj19 false a0_0 a0_1 a0_2 a0_3 a0_4) = some (r1, r2) := by rw [if_neg (show ¬ (false = true) by decide)] at H; exact H
                        clear H
                        have H := H1
                        clear H1
                        have H' := Aside0.mk H
                        clear H
                        have hcz40_0 : wc.cell? ⟨gb136, 0, none⟩ = some (.int .i64 a0_0) := (blk_cell BK136.out 0).trans rfl
                        have hcz40_1 : wc.cell? ⟨gb136, 1, none⟩ = some (.int .i64 a0_1) := (blk_cell BK136.out 1).trans rfl
                        have hcz40_2 : wc.cell? ⟨gb136, 2, none⟩ = some (.int .i64 a0_2) := (blk_cell BK136.out 2).trans rfl
                        have hcz40_3 : wc.cell? ⟨gb136, 3, none⟩ = some (.int .i64 a0_3) := (blk_cell BK136.out 3).trans rfl
                        have hcz40_4 : wc.cell? ⟨gb136, 4, none⟩ = some (.string a0_4) := (blk_cell BK136.out 4).trans rfl
                        have hfz40_0 := blk_frozen BK136.out 0
                        have hfz40_1 := blk_frozen BK136.out 1
                        have hfz40_2 := blk_frozen BK136.out 2
                        have hfz40_3 := blk_frozen BK136.out 3
                        have hfz40_4 := blk_frozen BK136.out 4
                        go_wp2
                        repeat (go_quiet (fail); try go_wp2)
                        go_meet
                        case rel => exact ⟨_, (false), (by first | rfl | (simp; done) | (simp [*]; done)), H', ⟨by have := HJ4.out; have := HJ19.out; first | omega | exact Nat.le_refl _⟩, ⟨by (with_reducible repeat (first | refine blk_drewN ?_ _ | refine blk_drew ?_ | refine blk_alloc ?_ _)); exact BK136.out⟩, ⟨by repeat (first | (with_reducible first | exact HB.out | apply below_alloc | apply pw_below_drewN | apply below_drew1 | refine below_set ?_ GE136.out) | exact HB.out)⟩⟩
                    · rw [if_neg c35] at H
                      have c35b0 : (a0_0 == 5) = false := beq_eq_false_iff_ne.mpr c35
                      have c35b1 : (a0_0 != 5) = true := bne_iff_ne.mpr c35
                      (first | rw [c35b0] | (simp only [i64_w, i32_w]; rw [c35b0]) | skip)
                      have H' := Aside0.mk H
                      clear H
                      have hcz41_0 : wc.cell? ⟨gb136, 0, none⟩ = some (.int .i64 a0_0) := (blk_cell BK136.out 0).trans rfl
                      have hcz41_1 : wc.cell? ⟨gb136, 1, none⟩ = some (.int .i64 a0_1) := (blk_cell BK136.out 1).trans rfl
                      have hcz41_2 : wc.cell? ⟨gb136, 2, none⟩ = some (.int .i64 a0_2) := (blk_cell BK136.out 2).trans rfl
                      have hcz41_3 : wc.cell? ⟨gb136, 3, none⟩ = some (.int .i64 a0_3) := (blk_cell BK136.out 3).trans rfl
                      have hcz41_4 : wc.cell? ⟨gb136, 4, none⟩ = some (.string a0_4) := (blk_cell BK136.out 4).trans rfl
                      have hfz41_0 := blk_frozen BK136.out 0
                      have hfz41_1 := blk_frozen BK136.out 1
                      have hfz41_2 := blk_frozen BK136.out 2
                      have hfz41_3 := blk_frozen BK136.out 3
                      have hfz41_4 := blk_frozen BK136.out 4
                      go_wp2
                      repeat (go_quiet (fail); try go_wp2)
                      go_meet
                      case rel => exact ⟨_, (false), (by first | rfl | (simp; done) | (simp [*]; done)), H', ⟨by have := HJ4.out; have := HJ19.out; first | omega | exact Nat.le_refl _⟩, ⟨by (with_reducible repeat (first | refine blk_drewN ?_ _ | refine blk_drew ?_ | refine blk_alloc ?_ _)); exact BK136.out⟩, ⟨by repeat (first | (with_reducible first | exact HB.out | apply below_alloc | apply pw_below_drewN | apply below_drew1 | refine below_set ?_ GE136.out) | exact HB.out)⟩⟩
                  case rest =>
                    clear HC34
                    try clear c1
                    try clear c2
                    try clear p2
                    try clear c3
                    try clear c8
                    try clear c8b0
                    try clear c8b1
                    try clear c11
                    try clear c13
                    try clear c13b0
                    try clear c13b1
                    try clear c13b2
                    try clear c15
                    try clear c15b0
                    try clear c15b1
                    try clear c16
                    try clear c16b0
                    try clear c16b1
                    try clear c16b2
                    try clear c18
                    try clear c18b0
                    try clear c18b1
                    try clear c22
                    try clear c22b0
                    try clear c22b1
                    try clear c23
                    try clear c27
                    try clear c29
                    try clear c29b0
                    try clear c29b1
                    try clear c29b2
                    try clear c30
                    try clear c30b0
                    try clear c30b1
                    try clear c30b2
                    try clear c32
                    try clear c32b0
                    try clear c32b1
                    try clear c32b2
                    try clear c35
                    try clear c35b0
                    try clear c35b1
                    try clear c36
                    try clear c37
                    try clear hcz10_0
                    try clear hcz10_1
                    try clear hcz10_2
                    try clear hcz10_3
                    try clear hcz10_4
                    try clear hcz14_0
                    try clear hcz14_1
                    try clear hcz14_2
                    try clear hcz14_3
                    try clear hcz14_4
                    try clear hcz17_0
                    try clear hcz17_1
                    try clear hcz17_2
                    try clear hcz17_3
                    try clear hcz17_4
                    try clear hcz19_0
                    try clear hcz19_1
                    try clear hcz19_2
                    try clear hcz19_3
                    try clear hcz19_4
                    try clear hcz21_0
                    try clear hcz21_1
                    try clear hcz21_2
                    try clear hcz21_3
                    try clear hcz21_4
                    try clear hcz24_0
                    try clear hcz24_1
                    try clear hcz24_2
                    try clear hcz24_3
                    try clear hcz24_4
                    try clear hcz25_0
                    try clear hcz25_1
                    try clear hcz25_2
                    try clear hcz25_3
                    try clear hcz25_4
                    try clear hcz26_0
                    try clear hcz26_1
                    try clear hcz26_2
                    try clear hcz26_3
                    try clear hcz26_4
                    try clear hcz33_0
                    try clear hcz33_1
                    try clear hcz33_2
                    try clear hcz33_3
                    try clear hcz33_4
                    try clear hcz38_0
                    try clear hcz38_1
                    try clear hcz38_2
                    try clear hcz38_3
                    try clear hcz38_4
                    try clear hcz39_0
                    try clear hcz39_1
                    try clear hcz39_2
                    try clear hcz39_3
                    try clear hcz39_4
                    try clear hcz40_0
                    try clear hcz40_1
                    try clear hcz40_2
                    try clear hcz40_3
                    try clear hcz40_4
                    try clear hcz41_0
                    try clear hcz41_1
                    try clear hcz41_2
                    try clear hcz41_3
                    try clear hcz41_4
                    try clear hcz7_0
                    try clear hcz7_1
                    try clear hcz7_2
                    try clear hcz7_3
                    try clear hcz7_4
                    try clear hcz9_0
                    try clear hcz9_1
                    try clear hcz9_2
                    try clear hcz9_3
                    try clear hcz9_4
                    try clear hfz10_0
                    try clear hfz10_1
                    try clear hfz10_2
                    try clear hfz10_3
                    try clear hfz10_4
                    try clear hfz14_0
                    try clear hfz14_1
                    try clear hfz14_2
                    try clear hfz14_3
                    try clear hfz14_4
                    try clear hfz17_0
                    try clear hfz17_1
                    try clear hfz17_2
                    try clear hfz17_3
                    try clear hfz17_4
                    try clear hfz19_0
                    try clear hfz19_1
                    try clear hfz19_2
                    try clear hfz19_3
                    try clear hfz19_4
                    try clear hfz21_0
                    try clear hfz21_1
                    try clear hfz21_2
                    try clear hfz21_3
                    try clear hfz21_4
                    try clear hfz24_0
                    try clear hfz24_1
                    try clear hfz24_2
                    try clear hfz24_3
                    try clear hfz24_4
                    try clear hfz25_0
                    try clear hfz25_1
                    try clear hfz25_2
                    try clear hfz25_3
                    try clear hfz25_4
                    try clear hfz26_0
                    try clear hfz26_1
                    try clear hfz26_2
                    try clear hfz26_3
                    try clear hfz26_4
                    try clear hfz33_0
                    try clear hfz33_1
                    try clear hfz33_2
                    try clear hfz33_3
                    try clear hfz33_4
                    try clear hfz38_0
                    try clear hfz38_1
                    try clear hfz38_2
                    try clear hfz38_3
                    try clear hfz38_4
                    try clear hfz39_0
                    try clear hfz39_1
                    try clear hfz39_2
                    try clear hfz39_3
                    try clear hfz39_4
                    try clear hfz40_0
                    try clear hfz40_1
                    try clear hfz40_2
                    try clear hfz40_3
                    try clear hfz40_4
                    try clear hfz41_0
                    try clear hfz41_1
                    try clear hfz41_2
                    try clear hfz41_3
                    try clear hfz41_4
                    try clear hfz7_0
                    try clear hfz7_1
                    try clear hfz7_2
                    try clear hfz7_3
                    try clear hfz7_4
                    try clear hfz9_0
                    try clear hfz9_1
                    try clear hfz9_2
                    try clear hfz9_3
                    try clear hfz9_4
                    try clear p2
                    obtain ⟨kq, x57_33, rfl, HA, HJ33, BK136, HB⟩ := hcut
                    cases kq with
                    | zero => exact absurd HA.out (by simp [cubbyref21_Tell.j2])
                    | succ kj33 =>
                      have H := HA.out
                      clear HA
                      simp only [cubbyref21_Tell.j2] at H
                      by_cases c42 : x57_33 = true
                      · subst c42
                        have H1 : ((cubbyref08_Digits.f kj33 a0_1).bind fun t143 => (if 6 + t143.size ≤ 9223372036854775807 then (if ((⟨#[115, 116, 97, 116, 115, 32]⟩ : ByteArray) ++ t143).size + 1 ≤ 9223372036854775807 then ((cubbyref08_Digits.f kj33 a0_2).bind fun t144 => (if (((⟨#[115, 116, 97, 116, 115, 32]⟩ : ByteArray) ++ t143) ++ (⟨#[32]⟩ : ByteArray)).size + t144.size ≤ 9223372036854775807 then (if ((((⟨#[115, 116, 97, 116, 115, 32]⟩ : ByteArray) ++ t143) ++ (⟨#[32]⟩ : ByteArray)) ++ t144).size + 1 ≤ 9223372036854775807 then ((cubbyref08_Digits.f kj33 a0_3).bind fun t145 => (if (((((⟨#[115, 116, 97, 116, 115, 32]⟩ : ByteArray) ++ t143) ++ (⟨#[32]⟩ : ByteArray)) ++ t144) ++ (⟨#[32]⟩ : ByteArray)).size + t145.size ≤ 9223372036854775807 then (some ((((((⟨#[115, 116, 97, 116, 115, 32]⟩ : ByteArray) ++ t143) ++ (⟨#[32]⟩ : ByteArray)) ++ t144) ++ (⟨#[32]⟩ : ByteArray)) ++ t145, 0)) else (none))) else (none)) else (none))) else (none)) else (none))) = some (r1, r2) := by rw [if_pos rfl] at H; exact H
                        clear H
                        have H := H1
                        clear H1
                        replace H := Option.bind_eq_some_iff.mp H
                        obtain ⟨t143, A430, H⟩ := H
                        replace H : (if 6 + t143.size ≤ 9223372036854775807 then (if ((⟨#[115, 116, 97, 116, 115, 32]⟩ : ByteArray) ++ t143).size + 1 ≤ 9223372036854775807 then ((cubbyref08_Digits.f kj33 a0_2).bind fun t144 => (if (((⟨#[115, 116, 97, 116, 115, 32]⟩ : ByteArray) ++ t143) ++ (⟨#[32]⟩ : ByteArray)).size + t144.size ≤ 9223372036854775807 then (if ((((⟨#[115, 116, 97, 116, 115, 32]⟩ : ByteArray) ++ t143) ++ (⟨#[32]⟩ : ByteArray)) ++ t144).size + 1 ≤ 9223372036854775807 then ((cubbyref08_Digits.f kj33 a0_3).bind fun t145 => (if (((((⟨#[115, 116, 97, 116, 115, 32]⟩ : ByteArray) ++ t143) ++ (⟨#[32]⟩ : ByteArray)) ++ t144) ++ (⟨#[32]⟩ : ByteArray)).size + t145.size ≤ 9223372036854775807 then (some ((((((⟨#[115, 116, 97, 116, 115, 32]⟩ : ByteArray) ++ t143) ++ (⟨#[32]⟩ : ByteArray)) ++ t144) ++ (⟨#[32]⟩ : ByteArray)) ++ t145, 0)) else (none))) else (none)) else (none))) else (none)) else (none)) = some (r1, r2) := H
                        have A43 := Aside0.mk A430
                        clear A430
                        by_cases c44 : 6 + t143.size ≤ 9223372036854775807
                        · rw [if_pos c44] at H
                          have c44b0 := eq_true c44
                          have c44b1 : decide (6 + t143.size ≤ 9223372036854775807) = true := decide_eq_true c44
                          try have c44b2 : (9223372036854775807 < 6 + t143.size) = False := eq_false (Nat.not_lt.2 c44)
                          try have c44b3 := c44b2
                          try simp only [ByteArray.size_append, bsz, List.size_toArray, List.length_cons, List.length_nil, Nat.zero_add, Nat.reduceAdd] at c44b3
                          by_cases c45 : ((⟨#[115, 116, 97, 116, 115, 32]⟩ : ByteArray) ++ t143).size + 1 ≤ 9223372036854775807
                          · rw [if_pos c45] at H
                            have c45b0 := eq_true c45
                            have c45b1 : decide (((⟨#[115, 116, 97, 116, 115, 32]⟩ : ByteArray) ++ t143).size + 1 ≤ 9223372036854775807) = true := decide_eq_true c45
                            try have c45b2 : (9223372036854775807 < ((⟨#[115, 116, 97, 116, 115, 32]⟩ : ByteArray) ++ t143).size + 1) = False := eq_false (Nat.not_lt.2 c45)
                            try have c45b3 := c45b2
                            try simp only [ByteArray.size_append, bsz, List.size_toArray, List.length_cons, List.length_nil, Nat.zero_add, Nat.reduceAdd] at c45b3
                            replace H := Option.bind_eq_some_iff.mp H
                            obtain ⟨t144, A460, H⟩ := H
                            replace H : (if (((⟨#[115, 116, 97, 116, 115, 32]⟩ : ByteArray) ++ t143) ++ (⟨#[32]⟩ : ByteArray)).size + t144.size ≤ 9223372036854775807 then (if ((((⟨#[115, 116, 97, 116, 115, 32]⟩ : ByteArray) ++ t143) ++ (⟨#[32]⟩ : ByteArray)) ++ t144).size + 1 ≤ 9223372036854775807 then ((cubbyref08_Digits.f kj33 a0_3).bind fun t145 => (if (((((⟨#[115, 116, 97, 116, 115, 32]⟩ : ByteArray) ++ t143) ++ (⟨#[32]⟩ : ByteArray)) ++ t144) ++ (⟨#[32]⟩ : ByteArray)).size + t145.size ≤ 9223372036854775807 then (some ((((((⟨#[115, 116, 97, 116, 115, 32]⟩ : ByteArray) ++ t143) ++ (⟨#[32]⟩ : ByteArray)) ++ t144) ++ (⟨#[32]⟩ : ByteArray)) ++ t145, 0)) else (none))) else (none)) else (none)) = some (r1, r2) := H
                            have A46 := Aside0.mk A460
                            clear A460
                            by_cases c47 : (((⟨#[115, 116, 97, 116, 115, 32]⟩ : ByteArray) ++ t143) ++ (⟨#[32]⟩ : ByteArray)).size + t144.size ≤ 9223372036854775807
                            · rw [if_pos c47] at H
                              have c47b0 := eq_true c47
                              have c47b1 : decide ((((⟨#[115, 116, 97, 116, 115, 32]⟩ : ByteArray) ++ t143) ++ (⟨#[32]⟩ : ByteArray)).size + t144.size ≤ 9223372036854775807) = true := decide_eq_true c47
                              try have c47b2 : (9223372036854775807 < (((⟨#[115, 116, 97, 116, 115, 32]⟩ : ByteArray) ++ t143) ++ (⟨#[32]⟩ : ByteArray)).size + t144.size) = False := eq_false (Nat.not_lt.2 c47)
                              try have c47b3 := c47b2
                              try simp only [ByteArray.size_append, bsz, List.size_toArray, List.length_cons, List.length_nil, Nat.zero_add, Nat.reduceAdd] at c47b3
                              by_cases c48 : ((((⟨#[115, 116, 97, 116, 115, 32]⟩ : ByteArray) ++ t143) ++ (⟨#[32]⟩ : ByteArray)) ++ t144).size + 1 ≤ 9223372036854775807
                              · rw [if_pos c48] at H
                                have c48b0 := eq_true c48
                                have c48b1 : decide (((((⟨#[115, 116, 97, 116, 115, 32]⟩ : ByteArray) ++ t143) ++ (⟨#[32]⟩ : ByteArray)) ++ t144).size + 1 ≤ 9223372036854775807) = true := decide_eq_true c48
                                try have c48b2 : (9223372036854775807 < ((((⟨#[115, 116, 97, 116, 115, 32]⟩ : ByteArray) ++ t143) ++ (⟨#[32]⟩ : ByteArray)) ++ t144).size + 1) = False := eq_false (Nat.not_lt.2 c48)
                                try have c48b3 := c48b2
                                try simp only [ByteArray.size_append, bsz, List.size_toArray, List.length_cons, List.length_nil, Nat.zero_add, Nat.reduceAdd] at c48b3
                                replace H := Option.bind_eq_some_iff.mp H
                                obtain ⟨t145, A490, H⟩ := H
                                replace H : (if (((((⟨#[115, 116, 97, 116, 115, 32]⟩ : ByteArray) ++ t143) ++ (⟨#[32]⟩ : ByteArray)) ++ t144) ++ (⟨#[32]⟩ : ByteArray)).size + t145.size ≤ 9223372036854775807 then (some ((((((⟨#[115, 116, 97, 116, 115, 32]⟩ : ByteArray) ++ t143) ++ (⟨#[32]⟩ : ByteArray)) ++ t144) ++ (⟨#[32]⟩ : ByteArray)) ++ t145, 0)) else (none)) = some (r1, r2) := H
                                have A49 := Aside0.mk A490
                                clear A490
                                by_cases c50 : (((((⟨#[115, 116, 97, 116, 115, 32]⟩ : ByteArray) ++ t143) ++ (⟨#[32]⟩ : ByteArray)) ++ t144) ++ (⟨#[32]⟩ : ByteArray)).size + t145.size ≤ 9223372036854775807
                                · rw [if_pos c50] at H
                                  have c50b0 := eq_true c50
                                  have c50b1 : decide ((((((⟨#[115, 116, 97, 116, 115, 32]⟩ : ByteArray) ++ t143) ++ (⟨#[32]⟩ : ByteArray)) ++ t144) ++ (⟨#[32]⟩ : ByteArray)).size + t145.size ≤ 9223372036854775807) = true := decide_eq_true c50
                                  try have c50b2 : (9223372036854775807 < (((((⟨#[115, 116, 97, 116, 115, 32]⟩ : ByteArray) ++ t143) ++ (⟨#[32]⟩ : ByteArray)) ++ t144) ++ (⟨#[32]⟩ : ByteArray)).size + t145.size) = False := eq_false (Nat.not_lt.2 c50)
                                  try have c50b3 := c50b2
                                  try simp only [ByteArray.size_append, bsz, List.size_toArray, List.length_cons, List.length_nil, Nat.zero_add, Nat.reduceAdd] at c50b3
                                  simp only [Option.some.injEq, Prod.mk.injEq] at H
                                  obtain ⟨rfl, rfl⟩ := H
                                  have hcz51_0 : wc.cell? ⟨gb136, 0, none⟩ = some (.int .i64 a0_0) := (blk_cell BK136.out 0).trans rfl
                                  have hcz51_1 : wc.cell? ⟨gb136, 1, none⟩ = some (.int .i64 a0_1) := (blk_cell BK136.out 1).trans rfl
                                  have hcz51_2 : wc.cell? ⟨gb136, 2, none⟩ = some (.int .i64 a0_2) := (blk_cell BK136.out 2).trans rfl
                                  have hcz51_3 : wc.cell? ⟨gb136, 3, none⟩ = some (.int .i64 a0_3) := (blk_cell BK136.out 3).trans rfl
                                  have hcz51_4 : wc.cell? ⟨gb136, 4, none⟩ = some (.string a0_4) := (blk_cell BK136.out 4).trans rfl
                                  have hfz51_0 := blk_frozen BK136.out 0
                                  have hfz51_1 := blk_frozen BK136.out 1
                                  have hfz51_2 := blk_frozen BK136.out 2
                                  have hfz51_3 := blk_frozen BK136.out 3
                                  have hfz51_4 := blk_frozen BK136.out 4
                                  go_wp2_with (first | (go_at_call 45; (with_reducible refine (cubbyref08_Digits.calls kj33 a0_1 t143 _ ?side1 A43.out).mono ?_); (case side1 => exact GW_below hGA.out (by repeat (first | (with_reducible first | exact HB.out | apply below_alloc | apply pw_below_drewN | apply below_drew1 | refine below_set ?_ GE136.out) | exact HB.out))); rintro e w' ⟨rfl, ⟨nd, rfl⟩⟩; (try first | exact ⟨rfl, _, World.drewN_drewN _ _ _⟩ | exact ⟨rfl, _, Eq.trans (World.drewN_drewN _ _ _) (congrArg (World.drewN _) (Nat.add_assoc _ _ _))⟩)) | (go_at_call 45; (with_reducible refine (cubbyref08_Digits.calls kj33 a0_2 t144 _ ?side1 A46.out).mono ?_); (case side1 => exact GW_below hGA.out (by repeat (first | (with_reducible first | exact HB.out | apply below_alloc | apply pw_below_drewN | apply below_drew1 | refine below_set ?_ GE136.out) | exact HB.out))); rintro e w' ⟨rfl, ⟨nd, rfl⟩⟩; (try first | exact ⟨rfl, _, World.drewN_drewN _ _ _⟩ | exact ⟨rfl, _, Eq.trans (World.drewN_drewN _ _ _) (congrArg (World.drewN _) (Nat.add_assoc _ _ _))⟩)) | (go_at_call 45; (with_reducible refine (cubbyref08_Digits.calls kj33 a0_3 t145 _ ?side1 A49.out).mono ?_); (case side1 => exact GW_below hGA.out (by repeat (first | (with_reducible first | exact HB.out | apply below_alloc | apply pw_below_drewN | apply below_drew1 | refine below_set ?_ GE136.out) | exact HB.out))); rintro e w' ⟨rfl, ⟨nd, rfl⟩⟩; (try first | exact ⟨rfl, _, World.drewN_drewN _ _ _⟩ | exact ⟨rfl, _, Eq.trans (World.drewN_drewN _ _ _) (congrArg (World.drewN _) (Nat.add_assoc _ _ _))⟩)))
                                  repeat (go_quiet (first | (go_at_call 45; (with_reducible refine (cubbyref08_Digits.calls kj33 a0_1 t143 _ ?side1 A43.out).mono ?_); (case side1 => exact GW_below hGA.out (by repeat (first | (with_reducible first | exact HB.out | apply below_alloc | apply pw_below_drewN | apply below_drew1 | refine below_set ?_ GE136.out) | exact HB.out))); rintro e w' ⟨rfl, ⟨nd, rfl⟩⟩; (try first | exact ⟨rfl, _, World.drewN_drewN _ _ _⟩ | exact ⟨rfl, _, Eq.trans (World.drewN_drewN _ _ _) (congrArg (World.drewN _) (Nat.add_assoc _ _ _))⟩)) | (go_at_call 45; (with_reducible refine (cubbyref08_Digits.calls kj33 a0_2 t144 _ ?side1 A46.out).mono ?_); (case side1 => exact GW_below hGA.out (by repeat (first | (with_reducible first | exact HB.out | apply below_alloc | apply pw_below_drewN | apply below_drew1 | refine below_set ?_ GE136.out) | exact HB.out))); rintro e w' ⟨rfl, ⟨nd, rfl⟩⟩; (try first | exact ⟨rfl, _, World.drewN_drewN _ _ _⟩ | exact ⟨rfl, _, Eq.trans (World.drewN_drewN _ _ _) (congrArg (World.drewN _) (Nat.add_assoc _ _ _))⟩)) | (go_at_call 45; (with_reducible refine (cubbyref08_Digits.calls kj33 a0_3 t145 _ ?side1 A49.out).mono ?_); (case side1 => exact GW_below hGA.out (by repeat (first | (with_reducible first | exact HB.out | apply below_alloc | apply pw_below_drewN | apply below_drew1 | refine below_set ?_ GE136.out) | exact HB.out))); rintro e w' ⟨rfl, ⟨nd, rfl⟩⟩; (try first | exact ⟨rfl, _, World.drewN_drewN _ _ _⟩ | exact ⟨rfl, _, Eq.trans (World.drewN_drewN _ _ _) (congrArg (World.drewN _) (Nat.add_assoc _ _ _))⟩))); try go_wp2_with (first | (go_at_call 45; (with_reducible refine (cubbyref08_Digits.calls kj33 a0_1 t143 _ ?side1 A43.out).mono ?_); (case side1 => exact GW_below hGA.out (by repeat (first | (with_reducible first | exact HB.out | apply below_alloc | apply pw_below_drewN | apply below_drew1 | refine below_set ?_ GE136.out) | exact HB.out))); rintro e w' ⟨rfl, ⟨nd, rfl⟩⟩; (try first | exact ⟨rfl, _, World.drewN_drewN _ _ _⟩ | exact ⟨rfl, _, Eq.trans (World.drewN_drewN _ _ _) (congrArg (World.drewN _) (Nat.add_assoc _ _ _))⟩)) | (go_at_call 45; (with_reducible refine (cubbyref08_Digits.calls kj33 a0_2 t144 _ ?side1 A46.out).mono ?_); (case side1 => exact GW_below hGA.out (by repeat (first | (with_reducible first | exact HB.out | apply below_alloc | apply pw_below_drewN | apply below_drew1 | refine below_set ?_ GE136.out) | exact HB.out))); rintro e w' ⟨rfl, ⟨nd, rfl⟩⟩; (try first | exact ⟨rfl, _, World.drewN_drewN _ _ _⟩ | exact ⟨rfl, _, Eq.trans (World.drewN_drewN _ _ _) (congrArg (World.drewN _) (Nat.add_assoc _ _ _))⟩)) | (go_at_call 45; (with_reducible refine (cubbyref08_Digits.calls kj33 a0_3 t145 _ ?side1 A49.out).mono ?_); (case side1 => exact GW_below hGA.out (by repeat (first | (with_reducible first | exact HB.out | apply below_alloc | apply pw_below_drewN | apply below_drew1 | refine below_set ?_ GE136.out) | exact HB.out))); rintro e w' ⟨rfl, ⟨nd, rfl⟩⟩; (try first | exact ⟨rfl, _, World.drewN_drewN _ _ _⟩ | exact ⟨rfl, _, Eq.trans (World.drewN_drewN _ _ _) (congrArg (World.drewN _) (Nat.add_assoc _ _ _))⟩))))
                                  go_ret2
                                  exact ⟨by first | rfl | (simp [errW_none, errW_some] <;> rfl) | (simp [*, errW_none, errW_some] <;> rfl), by repeat (first | (with_reducible first | exact HB.out | apply below_alloc | apply pw_below_drewN | apply below_drew1 | refine below_set ?_ GE136.out) | exact HB.out)⟩
                                · rw [if_neg c50] at H
                                  exact absurd H (by simp)
                              · rw [if_neg c48] at H
                                exact absurd H (by simp)
                            · rw [if_neg c47] at H
                              exact absurd H (by simp)
                          · rw [if_neg c45] at H
                            exact absurd H (by simp)
                        · rw [if_neg c44] at H
                          exact absurd H (by simp)
                      · replace c42 := Bool.eq_false_iff.mpr c42
                        subst c42
                        have H1 : (some ((⟨#[]⟩ : ByteArray), 210)) = some (r1, r2) := by rw [if_neg (show ¬ (false = true) by decide)] at H; exact H
                        clear H
                        have H := H1
                        clear H1
                        simp only [Option.some.injEq, Prod.mk.injEq] at H
                        obtain ⟨rfl, rfl⟩ := H
                        go_wp2
                        repeat (go_quiet (fail); try go_wp2)
                        go_ret2
                        exact ⟨by first | rfl | (simp [errW_none, errW_some] <;> rfl) | (simp [*, errW_none, errW_some] <;> rfl), by repeat (first | (with_reducible first | exact HB.out | apply below_alloc | apply pw_below_drewN | apply below_drew1 | refine below_set ?_ GE136.out) | exact HB.out)⟩

end Go.Proofs.YtfibkajflenekaaDoor.PAsk
