/-
  ask.numbers: what it comes to, by a walk over its text. Conditions: the package variables hold what they hold (GW); the text is shorter than 4294967281 bytes.
-/
import Derived.Test.YtfibkajflenekaaDoorPAskx1
import Derived.Lib.AtoiErrMem
namespace Go.Proofs.YtfibkajflenekaaDoor.G
set_option linter.unusedVariables false
set_option linter.unusedSimpArgs false
open Go.RowKit Go.Proofs.YtfibkajflenekaaDoorW.PrintWords Go.Proofs.YtfibkajflenekaaDoorW.PrintLast Go.Proofs.YtfibkajflenekaaDoor.PAsk

/-- What a call keeps that writes into the blocks of S. -/
structure Keeps (w w' : World) (S : Nat → Prop) : Prop where
  os : w'.os = w.os
  tape : w'.tape = w.tape
  output : w'.output = w.output
  size : w.heap.size ≤ w'.heap.size
  block : ∀ k, k < w.heap.size → ¬ S k → w'.heap[k]? = w.heap[k]?
theorem Keeps.of_below {w w' : World} {S : Nat → Prop} (h : Below w.heap.size w w') : Keeps w w' S := ⟨h.os, h.tape, h.output, h.size, fun k hk _ => h.block k hk⟩
theorem Keeps.refl (w : World) (S : Nat → Prop) : Keeps w w S := .of_below (Below.refl _ _)
theorem Keeps.trans {w w1 w2 : World} {S : Nat → Prop} (h : Keeps w w1 S) (k : Keeps w1 w2 S) : Keeps w w2 S :=
  ⟨k.os.trans h.os, k.tape.trans h.tape, k.output.trans h.output, Nat.le_trans h.size k.size, fun i hi hn => (k.block i (Nat.lt_of_lt_of_le hi h.size) hn).trans (h.block i hi hn)⟩
theorem Keeps.then_below {w w1 w2 : World} {S : Nat → Prop} (h : Keeps w w1 S) (k : Below w1.heap.size w1 w2) : Keeps w w2 S := h.trans (.of_below k)
theorem Keeps.setCell {w w1 : World} {S : Nat → Prop} (h : Keeps w w1 S) {p : Addr} (hp : S p.block) (u : Value) : Keeps w (w1.setCell p u) S :=
  h.trans ⟨rfl, rfl, rfl, by simp [World.setCell], fun i _ hn => Below.heap_setCell _ _ _ _ (fun e => hn (e ▸ hp))⟩
theorem Keeps.below {w w1 : World} {S : Nat → Prop} {B : Nat} (h : Keeps w w1 S) (hS : ∀ k, S k → B ≤ k) (hB : B ≤ w.heap.size) : Below B w w1 :=
  ⟨h.os, h.tape, h.output, h.size, fun k hk => h.block k (by omega) (fun hs => by have := hS k hs; omega)⟩
theorem Keeps.cell {w w1 : World} {S : Nat → Prop} (h : Keeps w w1 S) {a : Addr} {v : Value} (hc : w.cell? a = some v) (hn : ¬ S a.block) : w1.cell? a = some v := by
  have := h.block a.block (World.block_lt_of_cell? w a hc) hn
  simpa [World.cell?, this] using hc

/-! ### a word that is a number -/
def num (t : ByteArray) : Option Int :=
  match Lib.atoiAll t.data.toList with
  | .ok v => if 0 ≤ v ∧ v < 2147483648 ∧ Lib.itoa v = t.data.toList then some v else none
  | _ => none
def nums : List ByteArray → Option (List Int)
  | [] => some []
  | t :: l => (num t).bind fun n => (nums l).bind fun r => some (n :: r)
def words (s : ByteArray) : List ByteArray := Lib.splitB ⟨#[32]⟩ 0 (Lib.countB s ⟨#[32]⟩) s
theorem words_length (s : ByteArray) : (words s).length = Lib.countB s ⟨#[32]⟩ + 1 := Lib.splitB_all ⟨#[32]⟩ (by decide) 0 _ s rfl
theorem words_le (s : ByteArray) : (words s).length ≤ s.size + 1 := by
  have := words_length s
  have := Lib.countB_le ⟨#[32]⟩ (by decide) s.size s (Nat.le_refl _)
  omega

theorem split_any (s : ByteArray) (w : World) (hG : GW w) (hs : s.size < 4294967281) :
    Calls Tryd.prog 40 #[.string s, .string ⟨#[32]⟩] w fun e w' => e = .returned (.slice (some ⟨w.heap.size, 0, none⟩) (words s).length (words s).length) ∧
      (∀ i t, (words s)[i]? = some t → w'.cell? ⟨w.heap.size, i, none⟩ = some (.string t)) ∧ Below w.heap.size w w' ∧ w.heap.size < w'.heap.size := by
  obtain ⟨m, hm⟩ := hG.mlen
  refine (Tryd.strings_Split s ⟨#[32]⟩ m w hs hm (by decide)).mono ?_
  rintro e w' ⟨rfl, rfl⟩
  have ho := own_lit_of (enc := Value.string) w w.heap.size 9 (words s) (Nat.le_refl _) (by have := words_le s; omega)
  refine ⟨by rw [words_length], fun i t hi => ?_, below_alloc (Below.refl _ _) _, by simp⟩
  have hc := ho.cells (g := w.heap.size) rfl i (.string t) (by simp [encs, hi])
  rw [add_plain] at hc
  exact hc

theorem atoi_ok (t : ByteArray) (v : Int) (w : World) (ht : t.size < 4294967281) (h : Lib.atoiAll t.data.toList = .ok v) :
    Calls Tryd.prog 41 #[.string t] w fun e w' => e = .returned (.tuple #[.int .i64 v, .nilIface]) ∧ Below w.heap.size w w' :=
  (Tryd.strconv_Atoi_ok t (by omega) v h w).mono fun e w' ⟨h1, h2⟩ => ⟨h1, by
    rcases h2 with rfl | ⟨q, rfl⟩
    · exact Below.refl _ _
    · exact Lib.bytesWorld_below _ _ _⟩
theorem atoi_no (t : ByteArray) (w : World) (hG : GW w) (ht : t.size < 4294967281) (h : ∀ v, Lib.atoiAll t.data.toList ≠ .ok v) :
    Calls Tryd.prog 41 #[.string t] w fun e w' => ∃ (v : Int) (u : Value), e = .returned (.tuple #[.int .i64 v, .iface 131 u]) ∧ Below w.heap.size w w' := by
  rcases hx : Lib.atoiAll t.data.toList with v | _ | _
  · exact absurd hx (h v)
  · obtain ⟨tp, p, hv⟩ := hG.syn
    refine (Any.strconv_Atoi_syntax_var Tryd.laysC172 t (by omega) hx tp p w hv).mono ?_
    rintro e w' ⟨N, rfl, _, _, hb⟩
    exact ⟨_, _, rfl, hb⟩
  · obtain ⟨tp, p, hv⟩ := hG.rng
    refine (Tryd.strconv_Atoi_range_var t (by omega) hx tp p w hv).mono ?_
    rintro e w' ⟨N, rfl, _, _, hb⟩
    exact ⟨_, _, rfl, hb⟩

/-! ### ask.numbers -/
theorem words_some (s : ByteArray) (i : Nat) (h : i < (words s).length) : ∃ t, (words s)[i]? = some t := ⟨_, List.getElem?_eq_getElem h⟩
theorem numbers_head (s wd : ByteArray) (A : Option Addr) (n : Nat) (w : World) (hG : GW w) (hs : s.size < 4294967281) (hn : n < 1000) (t0 : ByteArray) (h0 : (words s)[0]? = some t0)
    (hne : t0.toList ≠ wd.toList) :
    Calls Tryd.prog 25 #[.string s, .string wd, .slice A n n] w fun e w' => e = .returned (.bool false) ∧ Below w.heap.size w w' := by
  have hlen : 0 < (words s).length := (List.getElem?_eq_some_iff.1 h0).1
  have hbne : (t0.toList != wd.toList) = true := by simpa using hne
  generalize hws : words s = ws at *
  have hle : ws.length ≤ 4294967282 := by have := words_le s; rw [hws] at this; omega
  have Hws := Lib.hid hws
  clear hws
  go_enter Tryd.func25, Tryd.ntmps25
  go_wp2_with fail
  have HS := split_any s w hG hs
  rw [Hws.out] at HS
  refine HS.mono ?_
  rintro e w1 ⟨rfl, hc, hb, hz⟩
  have hc0 := hc 0 t0 h0
  clear hc h0
  go_wp2
  go_ret
  exact ⟨rfl, hb⟩
theorem numbers_len (s wd : ByteArray) (A : Option Addr) (n : Nat) (w : World) (hG : GW w) (hs : s.size < 4294967281) (hn : n < 1000) (t0 : ByteArray) (h0 : (words s)[0]? = some t0)
    (he : t0.toList = wd.toList) (hl : (words s).length ≠ n + 1) :
    Calls Tryd.prog 25 #[.string s, .string wd, .slice A n n] w fun e w' => e = .returned (.bool false) ∧ Below w.heap.size w w' := by
  have hlen : 0 < (words s).length := (List.getElem?_eq_some_iff.1 h0).1
  have hbe : (t0.toList != wd.toList) = false := by simpa using he
  have hlb : (((words s).length : Int) != (n : Int) + 1) = true := by rw [bne_iff_ne]; omega
  generalize hws : words s = ws at *
  have hle : ws.length ≤ 4294967282 := by have := words_le s; rw [hws] at this; omega
  have Hws := Lib.hid hws
  have He := eq_true he
  clear hws he
  go_enter Tryd.func25, Tryd.ntmps25
  go_wp2_with fail
  have HS := split_any s w hG hs
  rw [Hws.out] at HS
  refine HS.mono ?_
  rintro e w1 ⟨rfl, hc, hb, hz⟩
  have hc0 := hc 0 t0 h0
  clear hc h0
  go_wp2
  go_ret
  exact ⟨rfl, hb⟩

/-- The variables whose addresses were handed over. -/
def Holds (w : World) (gs : List Nat) (P : Nat → Int → Prop) : Prop := ∀ i g, gs[i]? = some g → ∃ x, w.heap[g]? = some (.cells #[.int .i64 x] 3 (0, 0)) ∧ P i x
theorem Holds.below {w w1 : World} {gs : List Nat} {P : Nat → Int → Prop} (h : Holds w gs P) (hb : Below w.heap.size w w1) : Holds w1 gs P := fun i g hi => by
  obtain ⟨x, hx, hp⟩ := h i g hi
  exact ⟨x, (hb.block g (blk_lt hx)).trans hx, hp⟩
theorem Holds.imp {w : World} {gs : List Nat} {P Q : Nat → Int → Prop} (h : Holds w gs P) (hi : ∀ i x, i < gs.length → P i x → Q i x) : Holds w gs Q := fun i g hg => by
  obtain ⟨x, hx, hp⟩ := h i g hg
  exact ⟨x, hx, hi i x (List.getElem?_eq_some_iff.1 hg).1 hp⟩
theorem Holds.set {w : World} {gs : List Nat} {P Q : Nat → Int → Prop} (h : Holds w gs P) (hnd : ∀ (i j g : Nat), gs[i]? = some g → gs[j]? = some g → i = j) {k g : Nat} (hk : gs[k]? = some g) (v : Int) (hv : Q k v) (hi : ∀ i x, i ≠ k → P i x → Q i x) : Holds (w.setCell ⟨g, 0, none⟩ (.int .i64 v)) gs Q := fun i g' hg => by
  obtain ⟨x, hx, hp⟩ := h i g' hg
  by_cases e : i = k
  · subst e
    rw [hk] at hg
    obtain rfl := Option.some.inj hg
    exact ⟨v, by simpa using blk_set hx 0 (.int .i64 v), hv⟩
  · have hne : g' ≠ g := fun e' => e (by
      subst e'
      exact hnd i k g' hg hk)
    exact ⟨x, (Below.heap_setCell _ _ _ _ hne).trans hx, hi i x e hp⟩

theorem splitB_size (sep : ByteArray) : ∀ (k : Nat) (s t : ByteArray), t ∈ Lib.splitB sep 0 k s → t.size ≤ s.size
  | 0, s, t, h => by simp [Lib.splitB] at h; subst h; exact Nat.le_refl _
  | k + 1, s, t, h => by
    simp only [Lib.splitB] at h
    split at h
    · simp at h; subst h; exact Nat.le_refl _
    · rcases List.mem_cons.1 h with rfl | h
      · simp only [ByteArray.size_extract]; omega
      · have := splitB_size sep k _ t h
        simp only [ByteArray.size_extract] at this; omega
theorem words_size (s t : ByteArray) (i : Nat) (h : (words s)[i]? = some t) : t.size ≤ s.size := splitB_size _ _ _ _ (List.mem_of_getElem? h)
theorem toList_inj {a b : ByteArray} (h : a.toList = b.toList) : a = b := by
  rw [ByteArray.toList_eq, ByteArray.toList_eq] at h
  exact WideShapes.bytes_inj h
theorem nums_drop {l : List ByteArray} {k : Nat} {t : ByteArray} (h : l[k]? = some t) : nums (l.drop k) = (num t).bind fun n => (nums (l.drop (k + 1))).bind fun r => some (n :: r) := by
  obtain ⟨hk, rfl⟩ := List.getElem?_eq_some_iff.1 h
  rw [List.drop_eq_getElem_cons hk]
  rfl

set_option maxHeartbeats 1600000 in
theorem numbers_run (gs : List Nat) (s wd : ByteArray) (tb : Nat) (w0 w : World) (hG0 : Hid (GW w0)) (hB0 : Hid (Below w0.heap.size w0 w)) (hgs : Hid (∀ g, g ∈ gs → w0.heap.size ≤ g)) (hs : s.size < 4294967281) (hn : gs.length < 1000) (hn1 : 1 ≤ gs.length) (t0 : ByteArray) (h0 : (words s)[0]? = some t0)
    (he : t0.toList = wd.toList) (hl : (words s).length = gs.length + 1)
    (hto : ∀ i g, gs[i]? = some g → w.cell? ⟨tb, i, none⟩ = some (.pointer (some ⟨g, 0, none⟩))) (hg : Holds w gs fun _ _ => True) (hnd : ∀ (i j g : Nat), gs[i]? = some g → gs[j]? = some g → i = j) (htb : tb ∉ gs)
    (r : Option (List Int)) (hr : nums ((words s).drop 1) = r) :
    Calls Tryd.prog 25 #[.string s, .string wd, .slice (some ⟨tb, 0, none⟩) gs.length gs.length] w fun e w' => e = .returned (.bool r.isSome) ∧ Keeps w w' (· ∈ gs) ∧ Holds w' gs (fun i x => ∀ l, r = some l → l[i]? = some x) := by
  have hbe : (t0.toList != wd.toList) = false := by simpa using he
  have hbe2 : (!t0.toList == wd.toList) = false := by simpa using he
  have hG : GW w := GW_below hG0.out hB0.out
  have Hsz := Lib.hid (fun i t (hi : (words s)[i]? = some t) => Nat.lt_of_le_of_lt (words_size s t i hi) hs)
  have HS := split_any s w hG hs
  rw [hl] at HS
  generalize hgn : gs.length = n at *
  have hlb : (((n + 1 : Nat) : Int) != (n : Int) + 1) = false := by rw [bne_eq_false_iff_eq]; omega
  generalize hws : words s = ws at *
  have He := eq_true he
  have hS : Hid (∀ k, k ∈ gs → k < w.heap.size) := Lib.hid (fun k hk => by
    obtain ⟨i, hi⟩ := List.mem_iff_getElem?.1 hk
    obtain ⟨x, hx, _⟩ := hg i k hi
    exact blk_lt hx)
  have hBn : Hid (¬ w.heap.size ∈ gs) := Lib.hid (fun h => by have := hS.out _ h; omega)
  have Hr := Lib.hid hr
  have Hl := Lib.hid hl
  have Hto := Lib.hid hto
  have Hg := Lib.hid hg
  have Hgn := Lib.hid hgn
  have Hlen1 : 1 ≤ n + 1 := by omega
  have Hne1 : ¬ n = 0 := by omega
  clear hws he hr hl hto hg hgn
  go_enter Tryd.func25, Tryd.ntmps25
  go_wp2_with fail
  refine HS.mono ?_
  rintro e w1 ⟨rfl, hc, hb, hz⟩
  have hc0 := hc 0 t0 h0
  have Hc := Lib.hid hc
  clear hc h0 HS
  go_wp2
  have HB := Lib.hid hb
  clear hb hc0
  go_loopg [30] n (fun kq v30 wr => ∃ k : Nat, v30 = .int .i64 k ∧ Hid (kq + k = n) ∧ Hid (Keeps w wr (· ∈ gs)) ∧ Hid (Keeps w1 wr (· ∈ gs)) ∧ Hid (∃ ys : List Int, ys.length = k ∧ r = (nums (ws.drop (k + 1))).map (ys ++ ·) ∧ Holds wr gs (fun i x => i < k → ys[i]? = some x)))
  case atStart => exact ⟨0, rfl, Lib.hid (by omega), Lib.hid (Keeps.of_below HB.out), Lib.hid (Keeps.refl _ _), Lib.hid ⟨[], rfl, by rw [← Hr.out]; simp, (Hg.out.below HB.out).imp (fun _ _ _ _ h => absurd h (by omega))⟩⟩
  case round =>
    obtain ⟨k, rfl, Hk, HK0, HK1, HY⟩ := hrel
    by_cases hlt : k < n
    · have hkb : decide ((k : Int) < n) = true := decide_eq_true (by omega)
      obtain ⟨t, ht⟩ : ∃ t, ws[k + 1]? = some t := ⟨_, List.getElem?_eq_getElem (by have := Hl.out; omega)⟩
      obtain ⟨g, hgk⟩ : ∃ g, gs[k]? = some g := ⟨_, List.getElem?_eq_getElem (by have := Hgn.out; omega)⟩
      have hts := Hsz.out _ t ht
      have hcw : wr.cell? ⟨w.heap.size, 1 + k, none⟩ = some (.string t) := by
        rw [Nat.add_comm]
        exact HK1.out.cell (Hc.out _ t ht) hBn.out
      have hcp : wr.cell? ⟨tb, k, none⟩ = some (.pointer (some ⟨g, 0, none⟩)) := HK0.out.cell (Hto.out _ _ hgk) htb
      have hklt : k < n := hlt
      have hGr : GW wr := GW_below hG0.out (hB0.out.trans (HK0.out.below (B := w0.heap.size) (fun k hk => hgs.out k hk) hB0.out.size))
      have Hnone : Hid (num t = none → ∀ w2 : World, Below wr.heap.size wr w2 → r.isSome = false ∧ Keeps w w2 (· ∈ gs) ∧ Holds w2 gs (fun i x => ∀ l, r = some l → l[i]? = some x)) := Lib.hid (by
        intro h w2 hb2
        obtain ⟨ys, hy, hr, hh⟩ := HY.out
        have hrn : r = none := by rw [hr, nums_drop ht, h]; rfl
        exact ⟨by rw [hrn]; rfl, HK0.out.then_below hb2, (hh.below hb2).imp (fun i x _ _ l hl => by rw [hrn] at hl; cases hl)⟩)
      have HGr := Lib.hid hGr
      have Hgk := Lib.hid hgk
      have Ht := Lib.hid ht
      clear hgk ht hGr
      by_cases hno : ∃ v, Lib.atoiAll t.data.toList = .ok v
      · obtain ⟨v, hv⟩ := hno
        have HA := Lib.hid (fun W => atoi_ok t v W hts hv)
        have Hv := Lib.hid hv
        clear hv
        by_cases h0 : v < 0
        · have Hn := Lib.hid (Hnone.out (by unfold num; rw [Hv.out]; simp only; rw [if_neg (by omega)]))
          have h0b : decide (v < 0) = true := decide_eq_true h0
          go_wp2_with fail
          refine (HA.out _).mono ?_
          rintro e w2 ⟨rfl, hb2⟩
          go_wp2
          go_ret
          exact ⟨by rw [(Hn.out _ hb2).1]; rfl, (Hn.out _ hb2).2.1, (Hn.out _ hb2).2.2⟩
        · have h0b : decide (v < 0) = false := decide_eq_false h0
          by_cases h1 : 2147483648 ≤ v
          · have Hn := Lib.hid (Hnone.out (by unfold num; rw [Hv.out]; simp only; rw [if_neg (by omega)]))
            have h1b : decide (2147483648 ≤ v) = true := decide_eq_true h1
            go_wp2_with fail
            refine (HA.out _).mono ?_
            rintro e w2 ⟨rfl, hb2⟩
            go_wp2
            go_ret
            exact ⟨by rw [(Hn.out _ hb2).1]; rfl, (Hn.out _ hb2).2.1, (Hn.out _ hb2).2.2⟩
          · have h1b : decide (2147483648 ≤ v) = false := decide_eq_false h1
            obtain ⟨q, hq⟩ : ∃ q : ByteArray, ⟨(Lib.itoa v).toArray⟩ = q := ⟨_, rfl⟩
            have HI := Lib.hid (fun W hGW => strconv_Itoa.calls v q W hGW (by unfold strconv_Itoa.f; rw [if_pos ⟨by omega, by omega⟩, hq]))
            by_cases h2 : Lib.itoa v = t.data.toList
            · have hqt : q = t := by rw [← hq, h2]
              subst hqt
              have Hnum : Hid (num q = some v) := Lib.hid (by unfold num; rw [Hv.out]; simp only; rw [if_pos ⟨by omega, by omega, h2⟩])
              clear hq h2
              cases gk with
              | zero => exfalso; have := Hk.out; omega
              | succ k1 =>
              go_wp2_with fail
              refine (HA.out _).mono ?_
              rintro e w2 ⟨rfl, hb2⟩
              go_wp2_with fail
              refine (HI.out _ (GW_below HGr.out hb2)).mono ?_
              rintro e w3 ⟨rfl, hb3⟩
              have Hb := Lib.hid (below_step hb2 hb3)
              clear hb2 hb3 hcw
              have hcp3 := pw_cell_below Hb.out hcp
              clear hcp
              have Hnew : Hid (Keeps w (w3.setCell ⟨g, 0, none⟩ (.int .i64 v)) (· ∈ gs) ∧ Keeps w1 (w3.setCell ⟨g, 0, none⟩ (.int .i64 v)) (· ∈ gs) ∧
                  ∃ ys : List Int, ys.length = k + 1 ∧ r = (nums (ws.drop (k + 1 + 1))).map (ys ++ ·) ∧ Holds (w3.setCell ⟨g, 0, none⟩ (.int .i64 v)) gs (fun i x => i < k + 1 → ys[i]? = some x)) := Lib.hid (by
                have hmem : g ∈ gs := List.mem_of_getElem? Hgk.out
                refine ⟨(HK0.out.then_below Hb.out).setCell (p := ⟨g, 0, none⟩) hmem _, (HK1.out.then_below Hb.out).setCell (p := ⟨g, 0, none⟩) hmem _, ?_⟩
                obtain ⟨ys, hy, hr, hh⟩ := HY.out
                refine ⟨ys ++ [v], by simp [hy], ?_, (hh.below Hb.out).set hnd Hgk.out v (fun _ => by rw [← hy]; simp) (fun i x hne hp hlt2 => ?_)⟩
                · rw [hr, nums_drop Ht.out, Hnum.out]
                  cases nums (ws.drop (k + 1 + 1)) <;> simp
                · rw [List.getElem?_append_left (by omega)]
                  exact hp (by omega))
              obtain ⟨x, hx⟩ : ∃ x, w3.heap[g]? = some (.cells #[.int .i64 x] 3 (0, 0)) := by
                obtain ⟨ys, hy, hr, hh⟩ := HY.out
                obtain ⟨x, hx, _⟩ := hh k g Hgk.out
                exact ⟨x, (Hb.out.block g (blk_lt hx)).trans hx⟩
              have hxc : w3.cell? ⟨g, 0, none⟩ = some (.int .i64 x) := (blk_cell hx 0).trans rfl
              have hxf : w3.frozen? ⟨g, 0, none⟩ = false := blk_frozen hx 0
              clear hx
              go_wp2
              go_roundg k1
              case measure => omega
              case rel => exact ⟨k + 1, by go_num, Lib.hid (by have := Hk.out; omega), Lib.hid Hnew.out.1, Lib.hid Hnew.out.2.1, Lib.hid Hnew.out.2.2⟩
            · have Hn := Lib.hid (Hnone.out (by unfold num; rw [Hv.out]; simp only; rw [if_neg (fun h => h2 h.2.2)]))
              have hqt : ¬ q.toList = t.toList := fun h => h2 (by
                rw [← toList_inj h, ← hq])
              have hqb : (q.toList != t.toList) = true := by simpa using hqt
              have hqb2 : (!q.toList == t.toList) = true := by simpa using hqt
              clear hq h2
              go_wp2_with fail
              refine (HA.out _).mono ?_
              rintro e w2 ⟨rfl, hb2⟩
              go_wp2_with fail
              refine (HI.out _ (GW_below HGr.out hb2)).mono ?_
              rintro e w3 ⟨rfl, hb3⟩
              go_wp2
              go_ret
              exact ⟨by rw [(Hn.out _ (below_step hb2 hb3)).1]; rfl, (Hn.out _ (below_step hb2 hb3)).2.1, (Hn.out _ (below_step hb2 hb3)).2.2⟩
      · have HA := Lib.hid (fun W hGW => atoi_no t W hGW hts (fun v hv => hno ⟨v, hv⟩))
        have Hn := Lib.hid (Hnone.out (by unfold num; split; rename_i v hv; exact absurd ⟨v, hv⟩ hno; rfl))
        clear hno
        go_wp2_with fail
        refine (HA.out _ HGr.out).mono ?_
        rintro e w2 ⟨v, u, rfl, hb2⟩
        go_wp2
        go_ret
        exact ⟨by rw [(Hn.out _ hb2).1]; rfl, (Hn.out _ hb2).2.1, (Hn.out _ hb2).2.2⟩
    · have hkb : decide ((k : Int) < n) = false := decide_eq_false (by omega)
      have hkn : k = n := by have := Hk.out; omega
      obtain ⟨ys, hy, hr, hh⟩ := HY.out
      have hfin : r = some ys := by
        rw [hr, List.drop_eq_nil_of_le (by have := Hl.out; omega)]
        simp [nums]
      have Hfin := Lib.hid hfin
      clear hfin hr hy hh
      have Hkn := Lib.hid hkn
      clear hkn
      go_wp2
      go_ret
      refine ⟨by rw [Hfin.out]; rfl, HK0.out, ?_⟩
      obtain ⟨ys', hy, hr, hh⟩ := HY.out
      have hys : ys' = ys := by
        have h1 : r = some ys' := by
          rw [hr, List.drop_eq_nil_of_le (by have := Hl.out; have := Hkn.out; omega)]
          simp [nums]
        rw [Hfin.out] at h1
        exact (Option.some.inj h1).symm
      subst hys
      exact hh.imp (fun i x hi hp l hl => by
        rw [Hfin.out] at hl
        obtain rfl := Option.some.inj hl
        exact hp (by have := Hgn.out; have := Hkn.out; omega))

/-- The numbers behind a word: just so many. -/
def heard (s wd : ByteArray) (n : Nat) : Option (List Int) :=
  match (words s)[0]? with
  | some t0 => if t0.toList = wd.toList ∧ (words s).length = n + 1 then nums ((words s).drop 1) else none
  | none => none
theorem numbers_any (gs : List Nat) (s wd : ByteArray) (n : Nat) (hgn : gs.length = n) (hn : n < 1000) (hn1 : 1 ≤ n) (tb : Nat) (w0 w : World) (hG0 : GW w0) (hB0 : Below w0.heap.size w0 w) (hgs : ∀ g, g ∈ gs → w0.heap.size ≤ g) (hs : s.size < 4294967281)
    (hto : ∀ i g, gs[i]? = some g → w.cell? ⟨tb, i, none⟩ = some (.pointer (some ⟨g, 0, none⟩))) (hg : Holds w gs fun _ _ => True) (hnd : ∀ (i j g : Nat), gs[i]? = some g → gs[j]? = some g → i = j) (htb : tb ∉ gs) :
    Calls Tryd.prog 25 #[.string s, .string wd, .slice (some ⟨tb, 0, none⟩) n n] w fun e w' => e = .returned (.bool (heard s wd n).isSome) ∧ Keeps w w' (· ∈ gs) ∧ Holds w' gs (fun i x => ∀ l, heard s wd n = some l → l[i]? = some x) := by
  obtain ⟨t0, h0⟩ := words_some s 0 (by have := words_length s; omega)
  have hG : GW w := GW_below hG0 hB0
  have hno : heard s wd n = none → ∀ w' : World, Below w.heap.size w w' → (heard s wd n).isSome = false ∧ Keeps w w' (· ∈ gs) ∧ Holds w' gs (fun i x => ∀ l, heard s wd n = some l → l[i]? = some x) := fun h w' hb =>
    ⟨by rw [h]; rfl, Keeps.of_below hb, (hg.below hb).imp (fun i x _ _ l hl => by rw [h] at hl; cases hl)⟩
  by_cases he : t0.toList = wd.toList
  · by_cases hl : (words s).length = n + 1
    · subst hgn
      have hr : heard s wd gs.length = nums ((words s).drop 1) := by unfold heard; rw [h0]; simp only; rw [if_pos ⟨he, hl⟩]
      rw [hr]
      exact numbers_run gs s wd tb w0 w (Lib.hid hG0) (Lib.hid hB0) (Lib.hid hgs) hs hn hn1 t0 h0 he hl hto hg hnd htb _ rfl
    · have hr : heard s wd n = none := by unfold heard; rw [h0]; simp only; rw [if_neg (fun h => hl h.2)]
      refine (numbers_len s wd _ n w hG hs hn t0 h0 he hl).mono ?_
      rintro e w' ⟨rfl, hb⟩
      obtain ⟨h1, h2, h3⟩ := hno hr w' hb
      exact ⟨by rw [h1], h2, h3⟩
  · have hr : heard s wd n = none := by unfold heard; rw [h0]; simp only; rw [if_neg (fun h => he h.1)]
    refine (numbers_head s wd _ n w hG hs hn t0 h0 he).mono ?_
    rintro e w' ⟨rfl, hb⟩
    obtain ⟨h1, h2, h3⟩ := hno hr w' hb
    exact ⟨by rw [h1], h2, h3⟩

end Go.Proofs.YtfibkajflenekaaDoor.G
