/-
  text.Parse and text.ParseCode: a text's function, or its code, by a walk over their texts. Conditions: the package variables hold what they hold (GW); the text is shorter than 1000000000 bytes.
-/
import Derived.Test.YtfibkajflenekaaDoorNames
import Derived.Test.YtfibkajflenekaaDoorParser
import Derived.Deep.RegionHeldLaw
namespace Go.Proofs.YtfibkajflenekaaDoor.G
set_option linter.unusedVariables false
set_option linter.unusedSimpArgs false
open Go.RowKit Go.Proofs.YtfibkajflenekaaDoorW.PrintWords Go.Proofs.YtfibkajflenekaaDoorW.PrintLast Go.Proofs.YtfibkajflenekaaDoor.PTx

abbrev nmL (t : ByteArray) : Bool := isName (L t)
def st0 : St := ⟨⟨#[]⟩, [], []⟩
def parseAns (code : Bool) (first : ByteArray) (heads : Nat) (s : ByteArray) : Int × Int × St :=
  if s.size = 0 then (1, 80, st0) else runF nmL (fo code) first heads s.size 0 s st0
theorem nums_length : ∀ {ws : List ByteArray} {l : List Int}, nums ws = some l → l.length = ws.length
  | [], l, h => by obtain rfl := Option.some.inj h; rfl
  | t :: ws, l, h => by
    rw [nums] at h
    obtain ⟨n, _, h⟩ := Option.bind_eq_some_iff.1 h
    obtain ⟨r, hr, h⟩ := Option.bind_eq_some_iff.1 h
    obtain rfl := Option.some.inj h
    simp [nums_length hr]
theorem topF_head {nm : ByteArray → Bool} {first : ByteArray} {heads : Nat} {ws : List ByteArray} (h : (topF nm first heads ws).1 = 0) : (topF nm first heads ws).2.2.length = heads := by
  unfold topF at h ⊢
  split at h
  · cases h
  · rename_i t0 r
    by_cases h1 : t0.toList ≠ first.toList
    · rw [if_pos h1] at h; cases h
    · rw [if_neg h1] at h ⊢
      by_cases h2 : r.length ≠ heads + 1
      · rw [if_pos h2] at h; cases h
      · rw [if_neg h2] at h ⊢
        split at h
        · cases h
        · rename_i t1 r2
          by_cases h3 : nm t1 = true
          · rw [if_pos h3] at h ⊢
            split at h
            · cases h
            · rename_i l hl
              have := nums_length hl
              have h2' := Classical.not_not.1 h2
              simp only [List.length_cons] at h2'
              show l.length = heads
              omega
          · rw [if_neg h3] at h; cases h
theorem runF_head {nm : ByteArray → Bool} {fo : ByteArray → FormT} {first : ByteArray} {heads : Nat} : ∀ (k n : Nat) (s : ByteArray) (st : St), (n ≠ 0 → st.head.length = heads) → (n = 0 → 0 < s.size ∧ 0 < k) → (runF nm fo first heads k n s st).2.1 = 0 → (runF nm fo first heads k n s st).2.2.head.length = heads
  | 0, n, s, st, h1, h0, h => h1 (fun e => by have := (h0 e).2; omega)
  | k + 1, n, s, st, h1, h0, h => by
    unfold runF at h ⊢
    by_cases hz : s.size = 0
    · rw [if_pos hz] at h ⊢
      exact h1 (fun e => by have := (h0 e).1; omega)
    · rw [if_neg hz] at h ⊢
      by_cases hl : nl s < s.size
      · rw [if_pos hl] at h ⊢
        by_cases hs : (stepF nm fo first heads (n + 1) (words (s.extract 0 (nl s))) st).1 = 0
        · rw [if_pos hs] at h ⊢
          refine runF_head k (n + 1) _ _ (fun _ => ?_) (fun e => by omega) h
          unfold stepF at hs ⊢
          by_cases hn : n + 1 = 1
          · rw [if_pos hn] at hs ⊢
            exact topF_head hs
          · rw [if_neg hn] at hs ⊢
            exact h1 (by omega)
        · rw [if_neg hs] at h
          exact absurd h hs
      · rw [if_neg hl] at h
        cases h
theorem parseAns_head {code : Bool} {first : ByteArray} {heads : Nat} {s : ByteArray} (h : (parseAns code first heads s).2.1 = 0) : (parseAns code first heads s).2.2.head.length = heads := by
  unfold parseAns at h ⊢
  by_cases hz : s.size = 0
  · rw [if_pos hz] at h; cases h
  · rw [if_neg hz] at h ⊢
    exact runF_head s.size 0 s st0 (fun e => absurd rfl e) (fun _ => ⟨by omega, by omega⟩) h

set_option maxHeartbeats 8000000 in
set_option maxRecDepth 100000 in
theorem parse_all (P : Nat) (code : Bool) (first : ByteArray) (heads : Nat) (s : ByteArray) (W w0 : World) (hG0 : GW w0) (hP0 : w0.heap.size ≤ P) (hb0 : Below w0.heap.size w0 W)
    (hP : W.heap[P]? = some (.cells #[.bool code, .string first, .int .i64 heads, .string ⟨#[]⟩, .slice none 0 0, .slice none 0 0] 77 (0, 0))) (hh1 : 1 ≤ heads) (hh : heads < 1000) (hs : s.size < 1000000000) :
    Calls Tryd.prog 34 #[.pointer (some ⟨P, 0, none⟩), .string s] W fun e W' => e = .returned (.tuple #[.int .i64 (parseAns code first heads s).1, .int .i64 (parseAns code first heads s).2.1]) ∧ Below w0.heap.size w0 W' ∧
      ((parseAns code first heads s).2.1 = 0 → ∃ vh vb, PS P (W.heap.size + 7) W' code first heads (parseAns code first heads s).2.2.name (parseAns code first heads s).2.2.head (parseAns code first heads s).2.2.blocks vh vb) := by
  by_cases hz : s.size = 0
  · have hA : parseAns code first heads s = (1, 80, st0) := by unfold parseAns; rw [if_pos hz]
    rw [hA]
    have hne : s.toList = [] := by rw [toList_L]; exact List.eq_nil_of_length_eq_zero (by rw [← size_L]; exact hz)
    have c1 : (s.toList == ([] : List UInt8)) = true := beq_iff_eq.mpr hne
    have c2 : (s.toList != ([] : List UInt8)) = false := bne_eq_false_iff_eq.mpr hne
    have HB := Lib.hid hb0
    clear hP hb0 hne hz hA
    go_enter Tryd.func34, Tryd.ntmps34
    go_wp2
    refine bodyPost_ret (v := .tuple #[.int .i64 1, .int .i64 80]) (by simp [results, Tryd.results34, go_sem]) rfl ⟨rfl, ?_, fun h => by cases h⟩
    exact ((HB.out.alloc HB.out.size _).alloc (by simp only [World.size_alloc]; have := HB.out.size; omega) _).alloc (by simp only [World.size_alloc]; have := HB.out.size; omega) _
  · have hA : parseAns code first heads s = runF nmL (fo code) first heads s.size 0 s st0 := by unfold parseAns; rw [if_neg hz]
    rw [hA]
    exact callsIn_wide.1 (parse_go nmL (fo code) 6 P code first heads s W w0 (Nat.le_refl _) hG0 hP0 hb0 hP hh1 hh hs (by omega) (fun t _ => nameOk t) (fun t _ => formOk code t) _ rfl)
theorem far4 {W : World} {b k j : Nat} {v u0 u1 u2 u3 : Value} (hb : b ≠ k) (h : W.cell? ⟨k, j, none⟩ = some v) : ((((W.drew.setCell ⟨b, 0, none⟩ u0).setCell ⟨b, 1, none⟩ u1).setCell ⟨b, 2, none⟩ u2).setCell ⟨b, 3, none⟩ u3).cell? ⟨k, j, none⟩ = some v := by
  rw [World.cell?_setCell_far _ _ _ _ hb, World.cell?_setCell_far _ _ _ _ hb, World.cell?_setCell_far _ _ _ _ hb, World.cell?_setCell_far _ _ _ _ hb]
  exact h
theorem far5 {W : World} {b k j : Nat} {v u0 u1 u2 u3 u4 : Value} (hb : b ≠ k) (h : W.cell? ⟨k, j, none⟩ = some v) : (((((W.drew.setCell ⟨b, 0, none⟩ u0).setCell ⟨b, 1, none⟩ u1).setCell ⟨b, 2, none⟩ u2).setCell ⟨b, 3, none⟩ u3).setCell ⟨b, 4, none⟩ u4).cell? ⟨k, j, none⟩ = some v := by
  rw [World.cell?_setCell_far _ _ _ _ hb, World.cell?_setCell_far _ _ _ _ hb, World.cell?_setCell_far _ _ _ _ hb, World.cell?_setCell_far _ _ _ _ hb, World.cell?_setCell_far _ _ _ _ hb]
  exact h
theorem far4' {W : World} {b k j : Nat} {v u0 u1 u2 u3 : Value} (hb : b ≠ k) (h : W.cell? ⟨k, j, none⟩ = some v) : ((((W.setCell ⟨b, 0, none⟩ u0).setCell ⟨b, 1, none⟩ u1).setCell ⟨b, 2, none⟩ u2).setCell ⟨b, 3, none⟩ u3).drew.cell? ⟨k, j, none⟩ = some v := by
  rw [show ∀ (V : World) (a : Addr), V.drew.cell? a = V.cell? a from fun _ _ => rfl]
  rw [World.cell?_setCell_far _ _ _ _ hb, World.cell?_setCell_far _ _ _ _ hb, World.cell?_setCell_far _ _ _ _ hb, World.cell?_setCell_far _ _ _ _ hb]
  exact h
theorem far5' {W : World} {b k j : Nat} {v u0 u1 u2 u3 u4 : Value} (hb : b ≠ k) (h : W.cell? ⟨k, j, none⟩ = some v) : (((((W.setCell ⟨b, 0, none⟩ u0).setCell ⟨b, 1, none⟩ u1).setCell ⟨b, 2, none⟩ u2).setCell ⟨b, 3, none⟩ u3).setCell ⟨b, 4, none⟩ u4).drew.cell? ⟨k, j, none⟩ = some v := by
  rw [show ∀ (V : World) (a : Addr), V.drew.cell? a = V.cell? a from fun _ _ => rfl]
  rw [World.cell?_setCell_far _ _ _ _ hb, World.cell?_setCell_far _ _ _ _ hb, World.cell?_setCell_far _ _ _ _ hb, World.cell?_setCell_far _ _ _ _ hb, World.cell?_setCell_far _ _ _ _ hb]
  exact h

/-! ### text_Parse -/
def text_Parse.f (a0 : ByteArray) : Option (ByteArray × Int × Int × (List (List S72)) × Int × Int) :=
  if a0.size < 1000000000 then (let r := parseAns false ⟨#[102, 117, 110, 99]⟩ 2 a0; if r.2.1 = 0 then some (r.2.2.name, rd r.2.2.head 0, rd r.2.2.head 1, r.2.2.blocks, 0, 0) else some (⟨#[]⟩, 0, 0, [], r.1, r.2.1)) else none
set_option maxHeartbeats 8000000 in
set_option maxRecDepth 100000 in
theorem text_Parse.calls (a0 : ByteArray) (r1 : ByteArray) (r2 : Int) (r3 : Int) (r4 : List (List S72)) (r5 r6 : Int) (w : World) (hG : GW w) (h : text_Parse.f a0 = some (r1, r2, r3, r4, r5, r6)) :
    Calls Tryd.prog 15 #[.string a0] w fun e w' => ∃ v_ : Value, e = .returned (.tuple #[.agg #[.string r1, .int .i64 r2, .int .i64 r3, v_], .int .i64 r5, .int .i64 r6]) ∧ Kd.R (Kd.slice 72 k72) 48 w' w.heap.size (fun _ => True) v_ r4 ∧ Below w.heap.size w w' := by
  have hu43 := Tryd.underlying43
  unfold text_Parse.f at h
  by_cases hs : a0.size < 1000000000
  · rw [if_pos hs] at h
    obtain ⟨r, hr⟩ : ∃ r, parseAns false ⟨#[102, 117, 110, 99]⟩ 2 a0 = r := ⟨_, rfl⟩
    have hhead : r.2.1 = 0 → r.2.2.head.length = 2 := fun h0 => by rw [← hr] at h0 ⊢; exact parseAns_head h0
    rw [hr] at h
    have b1 : Below (w.alloc (.cells #[.string ⟨#[]⟩, .int .i64 0, .int .i64 0, .slice none 0 0] 43)).heap.size (w.alloc (.cells #[.string ⟨#[]⟩, .int .i64 0, .int .i64 0, .slice none 0 0] 43)) ((w.alloc (.cells #[.string ⟨#[]⟩, .int .i64 0, .int .i64 0, .slice none 0 0] 43)).alloc (.cells #[.bool false, .string ⟨#[102, 117, 110, 99]⟩, .int .i64 2, .string ⟨#[]⟩, .slice none 0 0, .slice none 0 0] 77)) := below_alloc (Below.refl _ _) _
    have b0 : Below w.heap.size w (w.alloc (.cells #[.string ⟨#[]⟩, .int .i64 0, .int .i64 0, .slice none 0 0] 43)) := below_alloc (Below.refl _ _) _
    have hc := parse_all (w.alloc (.cells #[.string ⟨#[]⟩, .int .i64 0, .int .i64 0, .slice none 0 0] 43)).heap.size false ⟨#[102, 117, 110, 99]⟩ 2 a0 ((w.alloc (.cells #[.string ⟨#[]⟩, .int .i64 0, .int .i64 0, .slice none 0 0] 43)).alloc (.cells #[.bool false, .string ⟨#[102, 117, 110, 99]⟩, .int .i64 2, .string ⟨#[]⟩, .slice none 0 0, .slice none 0 0] 77)) (w.alloc (.cells #[.string ⟨#[]⟩, .int .i64 0, .int .i64 0, .slice none 0 0] 43)) (GW_below hG b0) (Nat.le_refl _) b1 (World.alloc_heap_new _ _) (by decide) (by decide) hs
    rw [hr] at hc
    simp only [World.size_alloc] at hc
    have hR := World.alloc_heap_new w (.cells #[.string ⟨#[]⟩, .int .i64 0, .int .i64 0, .slice none 0 0] 43)
    have HC := Lib.hid hc
    have HR := Lib.hid hR
    have HB0 := Lib.hid b0
    have H := Lib.hid h
    have HH := Lib.hid hhead
    clear hc hR b0 b1 h hhead hr
    go_enter Tryd.func15, Tryd.ntmps15
    go_wp2_with fail
    refine HC.out.mono ?_
    rintro e w2 ⟨rfl, hb, hps⟩
    have hR2 := (hb.block w.heap.size (by simp)).trans HR.out
    have HBw := Lib.hid (HB0.out.trans (hb.mono (by simp)))
    have HPS := Lib.hid hps
    have HR2 := Lib.hid hR2
    clear hb hps hR2
    have h := H.out
    by_cases h0 : r.2.1 = 0
    · have p1 : (r.2.1 != 0) = false := bne_eq_false_iff_eq.mpr h0
      have p2 : (r.2.1 == 0) = true := beq_iff_eq.mpr h0
      obtain ⟨vh, vb, hps⟩ := HPS.out h0
      simp only [if_pos h0] at h
      injection h with h
      simp only [Prod.mk.injEq] at h
      have hlen := HH.out h0
      obtain ⟨Ah, ch, hvh, hch, hCh⟩ := Kd.R_reads hps.hd
      subst hvh
      obtain ⟨g, hgA, hgb⟩ : ∃ g, Ah = some ⟨g, 0, none⟩ ∧ w.heap.size + 1 + 1 + 7 ≤ g := by
        obtain ⟨inner, ho⟩ := Kd.R_own hps.hd
        rcases ho.2 with ⟨_, h0⟩ | ⟨g, c, cur, h1, hb, _⟩
        · rw [hlen] at h0
          cases h0
        · injection h1 with h1
          exact ⟨g, h1, hb⟩
      subst hgA
      rw [hlen] at hCh hps
      have hi0 : w2.cell? ⟨g, 0, none⟩ = some (.int .i64 (rd r.2.2.head 0)) := by
        obtain ⟨ad, had, h⟩ := Kd.at_int hCh 0 (by omega) (by omega)
        injection had with had
        subst had
        exact h
      have hi1 : w2.cell? ⟨g, 1, none⟩ = some (.int .i64 (rd r.2.2.head 1)) := by
        obtain ⟨ad, had, h⟩ := Kd.at_int hCh 1 (by omega) (by omega)
        injection had with had
        subst had
        exact h
      obtain ⟨Ab, cb, hvb⟩ := hps.bl.form
      subst hvb
      have x3 : w2.cell? ⟨w.heap.size + 1, 3, none⟩ = some (.string r.2.2.name) := (blk_cell hps.cells 3).trans rfl
      have x4 : w2.cell? ⟨w.heap.size + 1, 4, none⟩ = some (.slice (some ⟨g, 0, none⟩) 2 ch) := (blk_cell hps.cells 4).trans rfl
      have x5 : w2.cell? ⟨w.heap.size + 1, 5, none⟩ = some (.slice Ab r.2.2.blocks.length cb) := (blk_cell hps.cells 5).trans rfl
      have z0 : w2.cell? ⟨w.heap.size, 0, none⟩ = some (.string ⟨#[]⟩) := (blk_cell HR2.out 0).trans rfl
      have y0 := blk_frozen HR2.out 0
      have z1 : w2.cell? ⟨w.heap.size, 1, none⟩ = some (.int .i64 0) := (blk_cell HR2.out 1).trans rfl
      have y1 := blk_frozen HR2.out 1
      have z2 : w2.cell? ⟨w.heap.size, 2, none⟩ = some (.int .i64 0) := (blk_cell HR2.out 2).trans rfl
      have y2 := blk_frozen HR2.out 2
      have z3 : w2.cell? ⟨w.heap.size, 3, none⟩ = some (.slice none 0 0) := (blk_cell HR2.out 3).trans rfl
      have y3 := blk_frozen HR2.out 3
      have HPw := Lib.hid hps
      have H2 := Lib.hid h
      clear h h0 H HPS hCh hps
      go_wp2
      have n1 : w.heap.size ≠ w.heap.size + 1 := by omega
      have n2 : w.heap.size ≠ g := by omega
      go_region_held_law (fun w' => w'.cell? ⟨w.heap.size + 1, 3, none⟩ = some (.string r.2.2.name) ∧ w'.cell? ⟨w.heap.size + 1, 4, none⟩ = some (.slice (some ⟨g, 0, none⟩) 2 ch) ∧ w'.cell? ⟨w.heap.size + 1, 5, none⟩ = some (.slice Ab r.2.2.blocks.length cb) ∧ w'.cell? ⟨g, 0, none⟩ = some (.int .i64 (rd r.2.2.head 0)) ∧ w'.cell? ⟨g, 1, none⟩ = some (.int .i64 (rd r.2.2.head 1)))
        (first | (with_reducible exact ⟨far4 n1 x3, far4 n1 x4, far4 n1 x5, far4 n2 hi0, far4 n2 hi1⟩) | (with_reducible exact ⟨far4' n1 x3, far4' n1 x4, far4' n1 x5, far4' n2 hi0, far4' n2 hi1⟩) | exact ⟨x3, x4, x5, hi0, hi1⟩)
        (fail)
      go_wp2
      have hV := blk_drew (blk_put (blk_put (blk_put (blk_put HR2.out 0 (.string r.2.2.name) rfl) 1 (.int .i64 (rd r.2.2.head 0)) rfl) 2 (.int .i64 (rd r.2.2.head 1)) rfl) 3 (.slice Ab r.2.2.blocks.length cb) rfl)
      have k0 := (blk_cell hV 0).trans (show _ = some (.string r.2.2.name) from rfl)
      have k1 := (blk_cell hV 1).trans (show _ = some (.int .i64 (rd r.2.2.head 0)) from rfl)
      have k2 := (blk_cell hV 2).trans (show _ = some (.int .i64 (rd r.2.2.head 1)) from rfl)
      have k3 := (blk_cell hV 3).trans (show _ = some (.slice Ab r.2.2.blocks.length cb) from rfl)
      have ag : ∀ k, k ≠ w.heap.size → (((((w2.setCell ⟨w.heap.size, 0, none⟩ (.string r.2.2.name)).setCell ⟨w.heap.size, 1, none⟩ (.int .i64 (rd r.2.2.head 0))).setCell ⟨w.heap.size, 2, none⟩ (.int .i64 (rd r.2.2.head 1))).setCell ⟨w.heap.size, 3, none⟩ (.slice Ab r.2.2.blocks.length cb)).drew).heap[k]? = w2.heap[k]? := fun k hk => ((Below.heap_setCell _ _ _ _ hk).trans ((Below.heap_setCell _ _ _ _ hk).trans ((Below.heap_setCell _ _ _ _ hk).trans (Below.heap_setCell _ _ _ _ hk))))
      refine bodyPost_ret (v := .tuple #[.agg #[.string r.2.2.name, .int .i64 (rd r.2.2.head 0), .int .i64 (rd r.2.2.head 1), .slice Ab r.2.2.blocks.length cb], .int .i64 0, .int .i64 0]) (by simp [results, Tryd.results15, go_sem, hu43, k0, k1, k2, k3]) rfl ?_
      obtain ⟨rfl, rfl, rfl, rfl, rfl, rfl⟩ := H2.out
      exact ⟨_, rfl, Kd.R_lower (HPw.out.agree (by simp) (ag _ (by omega)) (fun k hk _ => ag k (by omega))).bl.R (by omega), below_drew ((((HBw.out.setCell (p := ⟨w.heap.size, 0, none⟩) (Nat.le_refl _) _).setCell (p := ⟨w.heap.size, 1, none⟩) (Nat.le_refl _) _).setCell (p := ⟨w.heap.size, 2, none⟩) (Nat.le_refl _) _).setCell (p := ⟨w.heap.size, 3, none⟩) (Nat.le_refl _) _)⟩
    · have p1 : (r.2.1 != 0) = true := bne_iff_ne.mpr h0
      have p2 : (r.2.1 == 0) = false := beq_eq_false_iff_ne.mpr h0
      simp only [if_neg h0] at h
      injection h with h
      simp only [Prod.mk.injEq] at h
      have H2 := Lib.hid h
      have z0 : w2.cell? ⟨w.heap.size, 0, none⟩ = some (.string ⟨#[]⟩) := (blk_cell HR2.out 0).trans rfl
      have y0 := blk_frozen HR2.out 0
      have z1 : w2.cell? ⟨w.heap.size, 1, none⟩ = some (.int .i64 0) := (blk_cell HR2.out 1).trans rfl
      have y1 := blk_frozen HR2.out 1
      have z2 : w2.cell? ⟨w.heap.size, 2, none⟩ = some (.int .i64 0) := (blk_cell HR2.out 2).trans rfl
      have y2 := blk_frozen HR2.out 2
      have z3 : w2.cell? ⟨w.heap.size, 3, none⟩ = some (.slice none 0 0) := (blk_cell HR2.out 3).trans rfl
      have y3 := blk_frozen HR2.out 3
      clear h h0 H HPS
      go_wp2
      have hV := (blk_put (blk_put (blk_put (blk_put HR2.out 0 (.string ⟨#[]⟩) rfl) 1 (.int .i64 0) rfl) 2 (.int .i64 0) rfl) 3 (.slice none 0 0) rfl)
      have k0 := (blk_cell hV 0).trans (show _ = some (.string ⟨#[]⟩) from rfl)
      have k1 := (blk_cell hV 1).trans (show _ = some (.int .i64 0) from rfl)
      have k2 := (blk_cell hV 2).trans (show _ = some (.int .i64 0) from rfl)
      have k3 := (blk_cell hV 3).trans (show _ = some (.slice none 0 0) from rfl)
      refine bodyPost_ret (v := .tuple #[.agg #[.string ⟨#[]⟩, .int .i64 0, .int .i64 0, .slice none 0 0], .int .i64 r.1, .int .i64 r.2.1]) (by simp [results, Tryd.results15, go_sem, hu43, k0, k1, k2, k3]) rfl ?_
      obtain ⟨rfl, rfl, rfl, rfl, rfl, rfl⟩ := H2.out
      exact ⟨_, rfl, Kd.R_nil _ _ _ _ _, ((((HBw.out.setCell (p := ⟨w.heap.size, 0, none⟩) (Nat.le_refl _) _).setCell (p := ⟨w.heap.size, 1, none⟩) (Nat.le_refl _) _).setCell (p := ⟨w.heap.size, 2, none⟩) (Nat.le_refl _) _).setCell (p := ⟨w.heap.size, 3, none⟩) (Nat.le_refl _) _)⟩
  · rw [if_neg hs] at h
    cases h
end Go.Proofs.YtfibkajflenekaaDoor.G
