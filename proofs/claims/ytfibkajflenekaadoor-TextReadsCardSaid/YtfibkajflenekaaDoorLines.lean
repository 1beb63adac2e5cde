/-
  strings.Lines and the iterator that it hands back, by a walk over their texts: its contract for every loop body that leaves the captured variable alone. Conditions: the text is shorter than 4611686018427387904 bytes.
-/
import Derived.Test.YtfibkajflenekaaDoorRParse
import Derived.Test.YtfibkajflenekaaDoorSuffix
import Derived.RangeFuncWrites
import Derived.RangeFuncLeaves
import Derived.Shelf.Abstract
import Derived.OwnWalkIn
import Derived.TacticsInMore
import Derived.LoopNIn
import Derived.Sort.LoopGhostIn
import Derived.BigFrameIn
import Derived.Lib.IndexLaws
namespace Go.Proofs.YtfibkajflenekaaDoor.G
set_option linter.unusedVariables false
set_option linter.unusedSimpArgs false
open Go.RowKit Go.Proofs.YtfibkajflenekaaDoorW.PrintWords Go.Proofs.YtfibkajflenekaaDoorW.PrintLast Go.Proofs.YtfibkajflenekaaDoor.PTx

theorem index_nl (s : ByteArray) : Lib.indexByte s.data.toList 10 = if nl s < s.size then (nl s : Int) else -1 := by
  have hsz : s.data.toList.length = s.size := by simp
  have hge := Lib.indexByte_ge s.data.toList 10
  rcases hx : Lib.indexByte s.data.toList 10 with o | o
  · have hx' : Lib.indexByte s.data.toList 10 = (o : Int) := hx
    obtain ⟨h1, h2⟩ := Lib.indexByte_some hx'
    obtain ⟨hlt, h3⟩ := List.getElem?_eq_some_iff.1 h1
    have hn : nl s = o := by
      unfold nl
      rw [List.findIdx_eq hlt]
      refine ⟨by simp [h3], fun j hj => ?_⟩
      have hjl : j < s.data.toList.length := by omega
      have := h2 j hj
      rw [List.getElem?_eq_getElem hjl] at this
      simpa using this
    rw [hn, if_pos (by omega)]
    rfl
  · have ho : o = 0 := by rw [hx] at hge; omega
    subst ho
    have hx' : Lib.indexByte s.data.toList 10 = -1 := hx
    have h1 := Lib.indexByte_none hx'
    have hn : nl s = s.size := by
      unfold nl
      rw [← hsz, List.findIdx_eq_length]
      intro x hxm
      obtain ⟨k, hk⟩ := List.getElem?_of_mem hxm
      have := h1 k
      rw [hk] at this
      simpa using this
    rw [hn, if_neg (by omega)]
    rfl
def lineOf (r : ByteArray) : ByteArray := if nl r < r.size then r.extract 0 (nl r + 1) else r
def restOf (r : ByteArray) : ByteArray := if nl r < r.size then r.extract (nl r + 1) r.size else ⟨#[]⟩
theorem restOf_lt (r : ByteArray) (h : 0 < r.size) : (restOf r).size < r.size := by
  unfold restOf
  split
  · rw [ByteArray.size_extract]; omega
  · exact h

set_option maxHeartbeats 1000000 in
theorem Lines_calls (s : ByteArray) (w : World) :
    Calls Tryd.prog 48 #[.string s] w fun e w' => e = .returned (.func (.func 69) #[] #[.pointer (some ⟨w.heap.size, 0, none⟩)]) ∧ w' = w.alloc (.cells #[.string s] 9) := by
  go_enter Tryd.func48, Tryd.ntmps48
  go_wp2
  go_ret
  exact ⟨rfl, rfl⟩

theorem index_calls (r : ByteArray) (V : World) :
    Calls Tryd.prog 70 #[.string r, .int .u8 10] V fun e V' => e = .returned (.int .i64 (if nl r < r.size then (nl r : Int) else -1)) ∧ V' = V := by
  have h := Tryd.strings_IndexByte r 10 V
  rw [show ((10 : Int).toNat.toUInt8) = 10 from rfl, index_nl] at h
  exact h
set_option maxRecDepth 100000 in
set_option maxHeartbeats 4000000 in
theorem iter_run (n l C : Nat) (hn : 1 ≤ n) (J : ByteArray → World → Prop) (Jx : World → Prop) (s : ByteArray) (W : World) (hs : s.size < 4611686018427387904)
    (hJs : ∀ r V u u0, J r V → V.heap[C]? = some (.cells #[u0] 9 (0, 0)) → J r (V.setCell ⟨C, 0, none⟩ u)) (hJd : ∀ r V, J r V → J r V.drew)
    (hY : ∀ r V, J r V → 0 < r.size → YieldAt Fence.wide (n - 1) Tryd.prog l #[.string (lineOf r)] V fun e V' => (e = .returned (.bool true) ∧ J (restOf r) V' ∧ V'.heap[C]? = V.heap[C]?) ∨ (e = .returned (.bool false) ∧ Jx V'))
    (h0 : J s W) (hc : W.heap[C]? = some (.cells #[.string s] 9 (0, 0))) :
    CallsIn Fence.wide n Tryd.prog 69 #[.func (.yield l) #[] #[], .pointer (some ⟨C, 0, none⟩)] W fun e W' => (∃ v, e = .returned v) ∧ ((∃ r, r.size = 0 ∧ J r W') ∨ Jx W') := by
  have HJs := Lib.hid hJs
  have HJd := Lib.hid hJd
  have HY := Lib.hid hY
  have H0 := Lib.hid h0
  have Hc := Lib.hid hc
  clear hJs hJd hY h0 hc
  refine callsIn_of_wp Tryd.func69 rfl trivial ?_ rfl
  simp only [Tryd.ntmps69, List.size_toArray, List.length_cons, List.length_nil, Nat.reduceAdd, Nat.reduceSub, Array.replicate_succ, Array.replicate_zero, List.push_toArray, List.append_toArray, List.nil_append, List.cons_append]
  gi_wp2
  gi_loopg [] s.size (fun kq wr => ∃ r : ByteArray, Hid (r.size = kq) ∧ Hid (kq ≤ s.size) ∧ Hid (J r wr) ∧ Hid (wr.heap[C]? = some (.cells #[.string r] 9 (0, 0))))
  case atStart => exact ⟨s, Lib.hid rfl, Lib.hid (Nat.le_refl _), H0, Hc⟩
  case round =>
    obtain ⟨r, Hr, Hk, HJ, HC⟩ := hrel
    have hcell : wr.cell? ⟨C, 0, none⟩ = some (.string r) := (blk_cell HC.out 0).trans rfl
    have hfr := blk_frozen HC.out 0
    by_cases hz : r.size = 0
    · have hq : decide (0 < r.size) = false := decide_eq_false (by omega)
      have Hz := Lib.hid hz
      clear hz
      gi_wp2
      go_end0
      exact ⟨⟨_, rfl⟩, .inl ⟨r, Hz.out, HJ.out⟩⟩
    · have hq : decide (0 < r.size) = true := decide_eq_true (by omega)
      have hz' : 0 < r.size := by omega
      have hI := (callsIn_wide (n := n - 1)).2 (index_calls r wr)
      have hle := nl_le r
      by_cases hnl : nl r < r.size
      · rw [if_pos hnl] at hI
        have hl : lineOf r = r.extract 0 (nl r + 1) := if_pos hnl
        have hrs : restOf r = r.extract (nl r + 1) r.size := if_pos hnl
        have HI := Lib.hid hI
        have HL := Lib.hid hl
        have HR := Lib.hid hrs
        have Hz := Lib.hid hz'
        have hq1 : decide ((nl r : Int) < 0) = false := decide_eq_false (by omega)
        have hq2 : decide (0 ≤ (nl r : Int)) = true := decide_eq_true (by omega)
        have Hlt := restOf_lt r hz'
        generalize hen : nl r = en at *
        clear hI hl hrs hz hz' hen
        have q1 : ((en : Int) + 1 ≤ r.size) = True := eq_true (by omega)
        have q2 : (en + 1 ≤ r.size) = True := eq_true (by omega)
        have hw : wrap64 ((en : Int) + 1) = (en : Int) + 1 := by have := Hr.out; have := Hk.out; unfold wrap64; omega
        obtain ⟨fn, tmps, assign, body, hy, hR⟩ := HY.out r (wr.setCell ⟨C, 0, none⟩ (.string (r.extract (en + 1) r.size))).drew (HJd.out _ _ (HJs.out r wr _ _ HJ.out HC.out)) Hz.out
        rw [HL.out] at hy
        rw [HR.out] at hR
        have HC3 := Lib.hid (blk_drew (blk_put HC.out 0 (.string (r.extract (en + 1) r.size)) rfl))
        have HRo := Lib.hid hR
        have Hlt2 := Lib.hid Hlt
        clear hR Hlt HJs HJd HY H0 Hc
        gi_wp2
        refine ⟨trivial, HI.out.mono ?_⟩
        rintro e w2 ⟨rfl, rfl⟩
        gi_wp2
        gi_region
        gi_wp2
        refine HRo.out.mono ?_
        rintro e W3 (⟨rfl, hJ3, hk3⟩ | ⟨rfl, hJx3⟩)
        · have HJ3 := Lib.hid hJ3
          have HC4 := Lib.hid (hk3.trans HC3.out)
          clear hJ3 hk3
          gi_wp2
          go_roundg (restOf r).size
          case rel => exact ⟨restOf r, Lib.hid rfl, Lib.hid (by have := Hlt2.out; have := Hr.out; have := Hk.out; omega), Lib.hid (by rw [HR.out]; exact HJ3.out), Lib.hid (by rw [HR.out]; exact HC4.out)⟩
          case measure => have := Hlt2.out; have := Hr.out; omega
        · have HX3 := Lib.hid hJx3
          clear hJx3
          gi_wp2
          refine bodyPost_ret (results_none rfl _ _ _) rfl ?_
          exact ⟨⟨_, rfl⟩, .inr HX3.out⟩
      · rw [if_neg hnl] at hI
        have hl : lineOf r = r := if_neg hnl
        have hrs : restOf r = ⟨#[]⟩ := if_neg hnl
        have HI := Lib.hid hI
        have Hz := Lib.hid hz'
        have HR := Lib.hid hrs
        have Hlt2 := Lib.hid (restOf_lt r hz')
        obtain ⟨fn, tmps, assign, body, hy, hR⟩ := HY.out r (wr.setCell ⟨C, 0, none⟩ (.string ⟨#[]⟩)) (HJs.out r wr _ _ HJ.out HC.out) Hz.out
        rw [hl] at hy
        rw [hrs] at hR
        have HC3 := Lib.hid (blk_put HC.out 0 (.string ⟨#[]⟩) rfl)
        have HRo := Lib.hid hR
        clear hR HJs HJd HY H0 Hc hI hl hrs hz hz' hnl hle
        gi_wp2
        refine ⟨trivial, HI.out.mono ?_⟩
        rintro e w2 ⟨rfl, rfl⟩
        gi_wp2
        refine HRo.out.mono ?_
        rintro e W3 (⟨rfl, hJ3, hk3⟩ | ⟨rfl, hJx3⟩)
        · have HJ3 := Lib.hid hJ3
          have HC4 := Lib.hid (hk3.trans HC3.out)
          clear hJ3 hk3
          gi_wp2
          go_roundg (restOf r).size
          case rel => exact ⟨restOf r, Lib.hid rfl, Lib.hid (by have := Hlt2.out; have := Hr.out; have := Hk.out; omega), Lib.hid (by rw [HR.out]; exact HJ3.out), Lib.hid (by rw [HR.out]; exact HC4.out)⟩
          case measure => have := Hlt2.out; have := Hr.out; omega
        · have HX3 := Lib.hid hJx3
          clear hJx3
          gi_wp2
          refine bodyPost_ret (results_none rfl _ _ _) rfl ?_
          exact ⟨⟨_, rfl⟩, .inr HX3.out⟩
end Go.Proofs.YtfibkajflenekaaDoor.G
