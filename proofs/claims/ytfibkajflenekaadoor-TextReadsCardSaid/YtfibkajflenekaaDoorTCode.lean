/-
  text.ParseCode: a text's code, by a walk over its text. Conditions: the package variables hold what they hold (GW); the text is shorter than 1000000000 bytes.
-/
import Derived.Test.YtfibkajflenekaaDoorTParse
namespace Go.Proofs.YtfibkajflenekaaDoor.G
set_option linter.unusedVariables false
set_option linter.unusedSimpArgs false
open Go.RowKit Go.Proofs.YtfibkajflenekaaDoorW.PrintWords Go.Proofs.YtfibkajflenekaaDoorW.PrintLast Go.Proofs.YtfibkajflenekaaDoor.PTx

/-! ### text_ParseCode -/
def text_ParseCode.f (a0 : ByteArray) : Option (ByteArray × Int × Int × Int × (List (List S72)) × Int × Int) :=
  if a0.size < 1000000000 then (let r := parseAns true ⟨#[99, 111, 100, 101]⟩ 3 a0; if r.2.1 = 0 then some (r.2.2.name, rd r.2.2.head 0, rd r.2.2.head 1, rd r.2.2.head 2, r.2.2.blocks, 0, 0) else some (⟨#[]⟩, 0, 0, 0, [], r.1, r.2.1)) else none
set_option maxHeartbeats 8000000 in
set_option maxRecDepth 100000 in
theorem text_ParseCode.calls (a0 : ByteArray) (r1 : ByteArray) (r2 : Int) (r3 : Int) (r4 : Int) (r5 : List (List S72)) (r6 r7 : Int) (w : World) (hG : GW w) (h : text_ParseCode.f a0 = some (r1, r2, r3, r4, r5, r6, r7)) :
    Calls Tryd.prog 18 #[.string a0] w fun e w' => ∃ v_ : Value, e = .returned (.tuple #[.agg #[.string r1, .int .i64 r2, .int .i64 r3, .int .i64 r4, v_], .int .i64 r6, .int .i64 r7]) ∧ Kd.R (Kd.slice 72 k72) 48 w' w.heap.size (fun _ => True) v_ r5 ∧ Below w.heap.size w w' := by
  have hu52 := Tryd.underlying52
  unfold text_ParseCode.f at h
  by_cases hs : a0.size < 1000000000
  · rw [if_pos hs] at h
    obtain ⟨r, hr⟩ : ∃ r, parseAns true ⟨#[99, 111, 100, 101]⟩ 3 a0 = r := ⟨_, rfl⟩
    have hhead : r.2.1 = 0 → r.2.2.head.length = 3 := fun h0 => by rw [← hr] at h0 ⊢; exact parseAns_head h0
    rw [hr] at h
    have b1 : Below (w.alloc (.cells #[.string ⟨#[]⟩, .int .i64 0, .int .i64 0, .int .i64 0, .slice none 0 0] 52)).heap.size (w.alloc (.cells #[.string ⟨#[]⟩, .int .i64 0, .int .i64 0, .int .i64 0, .slice none 0 0] 52)) ((w.alloc (.cells #[.string ⟨#[]⟩, .int .i64 0, .int .i64 0, .int .i64 0, .slice none 0 0] 52)).alloc (.cells #[.bool true, .string ⟨#[99, 111, 100, 101]⟩, .int .i64 3, .string ⟨#[]⟩, .slice none 0 0, .slice none 0 0] 77)) := below_alloc (Below.refl _ _) _
    have b0 : Below w.heap.size w (w.alloc (.cells #[.string ⟨#[]⟩, .int .i64 0, .int .i64 0, .int .i64 0, .slice none 0 0] 52)) := below_alloc (Below.refl _ _) _
    have hc := parse_all (w.alloc (.cells #[.string ⟨#[]⟩, .int .i64 0, .int .i64 0, .int .i64 0, .slice none 0 0] 52)).heap.size true ⟨#[99, 111, 100, 101]⟩ 3 a0 ((w.alloc (.cells #[.string ⟨#[]⟩, .int .i64 0, .int .i64 0, .int .i64 0, .slice none 0 0] 52)).alloc (.cells #[.bool true, .string ⟨#[99, 111, 100, 101]⟩, .int .i64 3, .string ⟨#[]⟩, .slice none 0 0, .slice none 0 0] 77)) (w.alloc (.cells #[.string ⟨#[]⟩, .int .i64 0, .int .i64 0, .int .i64 0, .slice none 0 0] 52)) (GW_below hG b0) (Nat.le_refl _) b1 (World.alloc_heap_new _ _) (by decide) (by decide) hs
    rw [hr] at hc
    simp only [World.size_alloc] at hc
    have hR := World.alloc_heap_new w (.cells #[.string ⟨#[]⟩, .int .i64 0, .int .i64 0, .int .i64 0, .slice none 0 0] 52)
    have HC := Lib.hid hc
    have HR := Lib.hid hR
    have HB0 := Lib.hid b0
    have H := Lib.hid h
    have HH := Lib.hid hhead
    clear hc hR b0 b1 h hhead hr
    go_enter Tryd.func18, Tryd.ntmps18
    go_wp2_with fail
    refine HC.out.mono ?_
    rintro e w2 ⟨rfl, hb, hps⟩
    have hR2 := (hb.block w.heap.size (by simp)).trans HR.out
    have HBw := Lib.hid (HB0.out.trans (hb.mono (by simp)))
    have HPS := Lib.hid hps
    have HR2 := Lib.hid hR2
    clear hb hps hR2
    have h := H.out
    by_cases h0 : r.2.1 = 0
    · have p1 : (r.2.1 != 0) = false := bne_eq_false_iff_eq.mpr h0
      have p2 : (r.2.1 == 0) = true := beq_iff_eq.mpr h0
      obtain ⟨vh, vb, hps⟩ := HPS.out h0
      simp only [if_pos h0] at h
      injection h with h
      simp only [Prod.mk.injEq] at h
      have hlen := HH.out h0
      obtain ⟨Ah, ch, hvh, hch, hCh⟩ := Kd.R_reads hps.hd
      subst hvh
      obtain ⟨g, hgA, hgb⟩ : ∃ g, Ah = some ⟨g, 0, none⟩ ∧ w.heap.size + 1 + 1 + 7 ≤ g := by
        obtain ⟨inner, ho⟩ := Kd.R_own hps.hd
        rcases ho.2 with ⟨_, h0⟩ | ⟨g, c, cur, h1, hb, _⟩
        · rw [hlen] at h0
          cases h0
        · injection h1 with h1
          exact ⟨g, h1, hb⟩
      subst hgA
      rw [hlen] at hCh hps
      have hi0 : w2.cell? ⟨g, 0, none⟩ = some (.int .i64 (rd r.2.2.head 0)) := by
        obtain ⟨ad, had, h⟩ := Kd.at_int hCh 0 (by omega) (by omega)
        injection had with had
        subst had
        exact h
      have hi1 : w2.cell? ⟨g, 1, none⟩ = some (.int .i64 (rd r.2.2.head 1)) := by
        obtain ⟨ad, had, h⟩ := Kd.at_int hCh 1 (by omega) (by omega)
        injection had with had
        subst had
        exact h
      have hi2 : w2.cell? ⟨g, 2, none⟩ = some (.int .i64 (rd r.2.2.head 2)) := by
        obtain ⟨ad, had, h⟩ := Kd.at_int hCh 2 (by omega) (by omega)
        injection had with had
        subst had
        exact h
      obtain ⟨Ab, cb, hvb⟩ := hps.bl.form
      subst hvb
      have x3 : w2.cell? ⟨w.heap.size + 1, 3, none⟩ = some (.string r.2.2.name) := (blk_cell hps.cells 3).trans rfl
      have x4 : w2.cell? ⟨w.heap.size + 1, 4, none⟩ = some (.slice (some ⟨g, 0, none⟩) 3 ch) := (blk_cell hps.cells 4).trans rfl
      have x5 : w2.cell? ⟨w.heap.size + 1, 5, none⟩ = some (.slice Ab r.2.2.blocks.length cb) := (blk_cell hps.cells 5).trans rfl
      have z0 : w2.cell? ⟨w.heap.size, 0, none⟩ = some (.string ⟨#[]⟩) := (blk_cell HR2.out 0).trans rfl
      have y0 := blk_frozen HR2.out 0
      have z1 : w2.cell? ⟨w.heap.size, 1, none⟩ = some (.int .i64 0) := (blk_cell HR2.out 1).trans rfl
      have y1 := blk_frozen HR2.out 1
      have z2 : w2.cell? ⟨w.heap.size, 2, none⟩ = some (.int .i64 0) := (blk_cell HR2.out 2).trans rfl
      have y2 := blk_frozen HR2.out 2
      have z3 : w2.cell? ⟨w.heap.size, 3, none⟩ = some (.int .i64 0) := (blk_cell HR2.out 3).trans rfl
      have y3 := blk_frozen HR2.out 3
      have z4 : w2.cell? ⟨w.heap.size, 4, none⟩ = some (.slice none 0 0) := (blk_cell HR2.out 4).trans rfl
      have y4 := blk_frozen HR2.out 4
      have HPw := Lib.hid hps
      have H2 := Lib.hid h
      clear h h0 H HPS hCh hps
      go_wp2
      have n1 : w.heap.size ≠ w.heap.size + 1 := by omega
      have n2 : w.heap.size ≠ g := by omega
      go_region_held_law (fun w' => w'.cell? ⟨w.heap.size + 1, 3, none⟩ = some (.string r.2.2.name) ∧ w'.cell? ⟨w.heap.size + 1, 4, none⟩ = some (.slice (some ⟨g, 0, none⟩) 3 ch) ∧ w'.cell? ⟨w.heap.size + 1, 5, none⟩ = some (.slice Ab r.2.2.blocks.length cb) ∧ w'.cell? ⟨g, 0, none⟩ = some (.int .i64 (rd r.2.2.head 0)) ∧ w'.cell? ⟨g, 1, none⟩ = some (.int .i64 (rd r.2.2.head 1)) ∧ w'.cell? ⟨g, 2, none⟩ = some (.int .i64 (rd r.2.2.head 2)))
        (first | (with_reducible exact ⟨far5 n1 x3, far5 n1 x4, far5 n1 x5, far5 n2 hi0, far5 n2 hi1, far5 n2 hi2⟩) | (with_reducible exact ⟨far5' n1 x3, far5' n1 x4, far5' n1 x5, far5' n2 hi0, far5' n2 hi1, far5' n2 hi2⟩) | exact ⟨x3, x4, x5, hi0, hi1, hi2⟩)
        (fail)
      go_wp2
      have hV := blk_drew (blk_put (blk_put (blk_put (blk_put (blk_put HR2.out 0 (.string r.2.2.name) rfl) 1 (.int .i64 (rd r.2.2.head 0)) rfl) 2 (.int .i64 (rd r.2.2.head 1)) rfl) 3 (.int .i64 (rd r.2.2.head 2)) rfl) 4 (.slice Ab r.2.2.blocks.length cb) rfl)
      have k0 := (blk_cell hV 0).trans (show _ = some (.string r.2.2.name) from rfl)
      have k1 := (blk_cell hV 1).trans (show _ = some (.int .i64 (rd r.2.2.head 0)) from rfl)
      have k2 := (blk_cell hV 2).trans (show _ = some (.int .i64 (rd r.2.2.head 1)) from rfl)
      have k3 := (blk_cell hV 3).trans (show _ = some (.int .i64 (rd r.2.2.head 2)) from rfl)
      have k4 := (blk_cell hV 4).trans (show _ = some (.slice Ab r.2.2.blocks.length cb) from rfl)
      have ag : ∀ k, k ≠ w.heap.size → ((((((w2.setCell ⟨w.heap.size, 0, none⟩ (.string r.2.2.name)).setCell ⟨w.heap.size, 1, none⟩ (.int .i64 (rd r.2.2.head 0))).setCell ⟨w.heap.size, 2, none⟩ (.int .i64 (rd r.2.2.head 1))).setCell ⟨w.heap.size, 3, none⟩ (.int .i64 (rd r.2.2.head 2))).setCell ⟨w.heap.size, 4, none⟩ (.slice Ab r.2.2.blocks.length cb)).drew).heap[k]? = w2.heap[k]? := fun k hk => ((Below.heap_setCell _ _ _ _ hk).trans ((Below.heap_setCell _ _ _ _ hk).trans ((Below.heap_setCell _ _ _ _ hk).trans ((Below.heap_setCell _ _ _ _ hk).trans (Below.heap_setCell _ _ _ _ hk)))))
      refine bodyPost_ret (v := .tuple #[.agg #[.string r.2.2.name, .int .i64 (rd r.2.2.head 0), .int .i64 (rd r.2.2.head 1), .int .i64 (rd r.2.2.head 2), .slice Ab r.2.2.blocks.length cb], .int .i64 0, .int .i64 0]) (by simp [results, Tryd.results18, go_sem, hu52, k0, k1, k2, k3, k4]) rfl ?_
      obtain ⟨rfl, rfl, rfl, rfl, rfl, rfl, rfl⟩ := H2.out
      exact ⟨_, rfl, Kd.R_lower (HPw.out.agree (by simp) (ag _ (by omega)) (fun k hk _ => ag k (by omega))).bl.R (by omega), below_drew (((((HBw.out.setCell (p := ⟨w.heap.size, 0, none⟩) (Nat.le_refl _) _).setCell (p := ⟨w.heap.size, 1, none⟩) (Nat.le_refl _) _).setCell (p := ⟨w.heap.size, 2, none⟩) (Nat.le_refl _) _).setCell (p := ⟨w.heap.size, 3, none⟩) (Nat.le_refl _) _).setCell (p := ⟨w.heap.size, 4, none⟩) (Nat.le_refl _) _)⟩
    · have p1 : (r.2.1 != 0) = true := bne_iff_ne.mpr h0
      have p2 : (r.2.1 == 0) = false := beq_eq_false_iff_ne.mpr h0
      simp only [if_neg h0] at h
      injection h with h
      simp only [Prod.mk.injEq] at h
      have H2 := Lib.hid h
      have z0 : w2.cell? ⟨w.heap.size, 0, none⟩ = some (.string ⟨#[]⟩) := (blk_cell HR2.out 0).trans rfl
      have y0 := blk_frozen HR2.out 0
      have z1 : w2.cell? ⟨w.heap.size, 1, none⟩ = some (.int .i64 0) := (blk_cell HR2.out 1).trans rfl
      have y1 := blk_frozen HR2.out 1
      have z2 : w2.cell? ⟨w.heap.size, 2, none⟩ = some (.int .i64 0) := (blk_cell HR2.out 2).trans rfl
      have y2 := blk_frozen HR2.out 2
      have z3 : w2.cell? ⟨w.heap.size, 3, none⟩ = some (.int .i64 0) := (blk_cell HR2.out 3).trans rfl
      have y3 := blk_frozen HR2.out 3
      have z4 : w2.cell? ⟨w.heap.size, 4, none⟩ = some (.slice none 0 0) := (blk_cell HR2.out 4).trans rfl
      have y4 := blk_frozen HR2.out 4
      clear h h0 H HPS
      go_wp2
      have hV := (blk_put (blk_put (blk_put (blk_put (blk_put HR2.out 0 (.string ⟨#[]⟩) rfl) 1 (.int .i64 0) rfl) 2 (.int .i64 0) rfl) 3 (.int .i64 0) rfl) 4 (.slice none 0 0) rfl)
      have k0 := (blk_cell hV 0).trans (show _ = some (.string ⟨#[]⟩) from rfl)
      have k1 := (blk_cell hV 1).trans (show _ = some (.int .i64 0) from rfl)
      have k2 := (blk_cell hV 2).trans (show _ = some (.int .i64 0) from rfl)
      have k3 := (blk_cell hV 3).trans (show _ = some (.int .i64 0) from rfl)
      have k4 := (blk_cell hV 4).trans (show _ = some (.slice none 0 0) from rfl)
      refine bodyPost_ret (v := .tuple #[.agg #[.string ⟨#[]⟩, .int .i64 0, .int .i64 0, .int .i64 0, .slice none 0 0], .int .i64 r.1, .int .i64 r.2.1]) (by simp [results, Tryd.results18, go_sem, hu52, k0, k1, k2, k3, k4]) rfl ?_
      obtain ⟨rfl, rfl, rfl, rfl, rfl, rfl, rfl⟩ := H2.out
      exact ⟨_, rfl, Kd.R_nil _ _ _ _ _, (((((HBw.out.setCell (p := ⟨w.heap.size, 0, none⟩) (Nat.le_refl _) _).setCell (p := ⟨w.heap.size, 1, none⟩) (Nat.le_refl _) _).setCell (p := ⟨w.heap.size, 2, none⟩) (Nat.le_refl _) _).setCell (p := ⟨w.heap.size, 3, none⟩) (Nat.le_refl _) _).setCell (p := ⟨w.heap.size, 4, none⟩) (Nat.le_refl _) _)⟩
  · rw [if_neg hs] at h
    cases h
end Go.Proofs.YtfibkajflenekaaDoor.G
