/- What octets.Num returns. -/
import Derived.Test.YtdpmaocbfmgmlaaBase
import Derived.Test.YtdpmaocbfmgmlaaLen
import Derived.Test.YtdpmaocbfmgmlaaPlain
set_option linter.unusedVariables false
set_option linter.unusedSimpArgs false
namespace Go.Proofs.Ytdpmaocbfmgmlaa
open Go.RowKit
theorem Try.infoU8 : (Try.prog.info? 5).map (fun i => (i.zero, i.size, i.bytes)) = some (some (.int .u8 0), 1, 1) := by kernel_rfl

def OwnB (w0 w : World) (v : Value) (n : Nat) (l : List UInt8) : Prop := Own w0 w 5 1 v n (bcells l)
/-- It returns a slice of its own, of these bytes. -/
def RetB (w0 : World) (l : List UInt8) (e : Ending) (w : World) : Prop := ∃ ao n cap, l.length = n ∧ e = .returned (.slice ao n cap) ∧ OwnB w0 w (.slice ao n cap) n l

theorem OwnB.length {w0 w : World} {v : Value} {n : Nat} {l : List UInt8} (h : OwnB w0 w v n l) : l.length = n := by
  have := Own.length h; simpa [bcells_length] using this

/-- append of bytes, onto bytes of the call's own. -/
theorem app_bs {w : World} {ops : Array Oper} {rest : List Oper} {o : Oper} {a : Act} {Q : Exit → Act → World → Prop} (w0 : World) (s x : Operand)
    (hgd : Region.wanted o (yielded ops a.tmps) = true) (ho : o.op = .call { callee := .builtin .append, args := #[s, x], argTypes := #[40, 40] })
    {v : Value} {n : Nat} {l : List UInt8} (hown : OwnB w0 w v n l) (hs : a.eval s = v)
    {ao : Option Addr} {m cap : Nat} {news : List UInt8} (hx : a.eval x = .slice ao m cap) (hm : news.length = m) (hc : Cs w ao (bcells news)) (hb : n + m ≤ 140737488355328)
    (h : ∀ ao cap w', OwnB w0 w' (.slice ao (n + m) cap) (n + m) (l ++ news) → wpList Try.prog ops Q rest (a.put o.dst (.slice ao (n + m) cap)) w') :
    wpList Try.prog ops Q (o :: rest) a w :=
  wpList_append_Own w0 5 (.int .u8 0) 1 1 Try.infoU8 rfl (by decide) s x 40 40 Try.underlying40 hgd ho v n (bcells l) hown hs _ m (bcells news) hx
    (Src.ofCs Try.underlying40 hc (by simp [bcells_length, hm]) (bcells_one _)) (by omega) (by omega) (fun ao cap w' h1 _ _ _ => h ao cap w' (by rw [OwnB, bcells_append]; exact h1))

theorem app_bs' {w : World} {ops : Array Oper} {rest : List Oper} {o : Oper} {a : Act} {Q : Exit → Act → World → Prop} (w0 : World) (s x : Operand)
    (hgd : Region.wanted o (yielded ops a.tmps) = true) (ho : o.op = .call { callee := .builtin .append, args := #[s, x], argTypes := #[40, 40] })
    {v : Value} {n : Nat} {l : List UInt8} (hown : OwnB w0 w v n l) (hs : a.eval s = v)
    {ao : Option Addr} {m cap : Nat} {news : List UInt8} (hx : a.eval x = .slice ao m cap) (hm : news.length = m) (hc : Cs w ao (bcells news)) (hb : n + m ≤ 140737488355328)
    (h : ∀ ao cap w', OwnB w0 w' (.slice ao (n + m) cap) (n + m) (l ++ news) → w.grownBy w' v.ownBlock → (ao = none ↔ v = .slice none 0 0 ∧ m = 0) → wpList Try.prog ops Q rest (a.put o.dst (.slice ao (n + m) cap)) w') :
    wpList Try.prog ops Q (o :: rest) a w :=
  wpList_append_Own w0 5 (.int .u8 0) 1 1 Try.infoU8 rfl (by decide) s x 40 40 Try.underlying40 hgd ho v n (bcells l) hown hs _ m (bcells news) hx
    (Src.ofCs Try.underlying40 hc (by simp [bcells_length, hm]) (bcells_one _)) (by omega) (by omega) (fun ao cap w' h1 h2 h3 _ => h ao cap w' (by rw [OwnB, bcells_append]; exact h1) h2 h3)

/-- append of one byte, that lies in a new block. -/
theorem cs_new (w : World) (v : Value) (e : TypeId) : Cs (w.alloc (.cells #[v] e)) (some ⟨w.heap.size, 0, none⟩) [v] := by
  intro j u hj
  match j, hj with
  | 0, hj => simp at hj; subst hj; exact ⟨_, _, rfl, by simp⟩
theorem app_b1 {w : World} {c : Int} {e : TypeId} {ops : Array Oper} {rest : List Oper} {o : Oper} {a : Act} {Q : Exit → Act → World → Prop} (w0 : World) (s x : Operand)
    (hgd : Region.wanted o (yielded ops a.tmps) = true) (ho : o.op = .call { callee := .builtin .append, args := #[s, x], argTypes := #[40, 40] })
    {v : Value} {n : Nat} {l : List UInt8} (hown : OwnB w0 w v n l) (hs : a.eval s = v) (h0 : 0 ≤ c) (h1 : c < 256)
    (hx : a.eval x = .slice (some ⟨w.heap.size, 0, none⟩) 1 1) (hb : n + 1 ≤ 140737488355328)
    (h : ∀ ao cap w', OwnB w0 w' (.slice ao (n + 1) cap) (n + 1) (l ++ [UInt8.ofNat c.toNat]) → wpList Try.prog ops Q rest (a.put o.dst (.slice ao (n + 1) cap)) w') :
    wpList Try.prog ops Q (o :: rest) a (w.alloc (.cells #[.int .u8 c] e)) :=
  app_bs w0 s x hgd ho (Own.alloc hown _) hs hx rfl (by rw [bcells_int c h0 h1]; exact cs_new w _ e) hb h

theorem app_b1' {w : World} {c : Int} {e : TypeId} {ops : Array Oper} {rest : List Oper} {o : Oper} {a : Act} {Q : Exit → Act → World → Prop} (w0 : World) (s x : Operand)
    (hgd : Region.wanted o (yielded ops a.tmps) = true) (ho : o.op = .call { callee := .builtin .append, args := #[s, x], argTypes := #[40, 40] })
    {v : Value} {n : Nat} {l : List UInt8} (hown : OwnB w0 w v n l) (hs : a.eval s = v) (h0 : 0 ≤ c) (h1 : c < 256)
    (hx : a.eval x = .slice (some ⟨w.heap.size, 0, none⟩) 1 1) (hb : n + 1 ≤ 140737488355328)
    (h : ∀ ao cap w', OwnB w0 w' (.slice ao (n + 1) cap) (n + 1) (l ++ [UInt8.ofNat c.toNat]) → w.grownBy w' v.ownBlock → wpList Try.prog ops Q rest (a.put o.dst (.slice ao (n + 1) cap)) w') :
    wpList Try.prog ops Q (o :: rest) a (w.alloc (.cells #[.int .u8 c] e)) :=
  app_bs' w0 s x hgd ho (Own.alloc hown _) hs hx rfl (by rw [bcells_int c h0 h1]; exact cs_new w _ e) hb
    (fun ao cap w' h2 h3 _ => h ao cap w' h2 ⟨h3.os, h3.tape, h3.output, Nat.le_trans (by simp) h3.size, fun k hk hn => (h3.block k (by simp; omega) hn).trans (Below.heap_alloc _ _ _ hk)⟩)

set_option maxHeartbeats 400000 in
theorem num_any (ao : Option Addr) (m cap : Nat) (bs : List UInt8) (n : Int) (w : World) (hc : Cs w ao (bcells bs)) (hm : bs.length = m) (hl : m ≤ 140737488355000) (h0 : 0 ≤ n) (h1 : n ≤ 18446744073709551615) :
    Calls Try.prog 67 #[.slice ao m cap, .int .u64 n] w (RetB w (bs ++ numB n.toNat)) := by
  obtain ⟨i0, hi, hz0, hz1, hz2⟩ := info_parts Try.infoU8
  have Hm := Lib.hid hm; clear hm
  go_enter Try.func67, Try.ntmps67
  go_wp2_with (first | (at_make; refine Stop.un ?_) | (at_builtin; refine Stop.un ?_))
  refine Stop.mk (wpList_make_own _ rfl _ _ 40 rfl w.heap.size 5 i0 (.int .u8 0) 1 Try.underlying40 hi hz0 hz1 _ _ _ (m + 9) rfl rfl (by omega) (by rw [hz2]; omega) (by unfold maxLen; omega) (Nat.le_refl _) ?_)
  intro w1 ho1 hg1
  have hO : OwnB w w1 _ 0 [] := Own.made ho1 hg1 (Below.refl _ _)
  have hc1 := hc.mono hO.below (Nat.le_refl _)
  clear ho1 hg1 hc hz2 hz1 hz0 hi i0
  go_wp2_with (first | (at_make; refine Stop.un ?_) | (at_builtin; refine Stop.un ?_))
  refine Stop.mk (app_bs w _ _ rfl rfl hO rfl rfl Hm.out hc1 (by omega) ?_)
  intro ao2 cap2 w2 hO2
  simp only [Nat.zero_add, List.nil_append] at hO2
  clear hc1 hO
  by_cases hlt : n < 248
  · go_wp2_with (first | (at_make; refine Stop.un ?_) | (at_builtin; refine Stop.un ?_))
    refine Stop.mk ?_
    refine app_b1 w _ _ rfl rfl hO2 rfl (by omega) (by omega) rfl (by omega) ?_
    intro ao3 cap3 w3 hO3
    clear hO2
    go_wp2_with (first | (at_make; refine Stop.un ?_) | (at_builtin; refine Stop.un ?_))
    go_ret
    refine ⟨_, _, _, ?_, rfl, ?_⟩
    · rw [← Hm.out]; simp [numB, show n.toNat < 248 by omega]
    · simpa [numB, show n.toNat < 248 by omega] using hO3
  · have hge : 248 ≤ n := by omega
    clear hlt
    have HL := fun w => Try.bits_Len64 n w h0 h1
    have hbl := bitLen_le64 n.toNat
    have hbg := bitLen_ge8 n.toNat (by omega) (by omega)
    generalize hL : Lib.bitLen n.toNat = L at HL hbl hbg
    have HL2 := Lib.hid HL; have HhL := Lib.hid hL
    clear HL hL
    go_wp2_with (first | (at_make; refine Stop.un ?_) | (at_builtin; refine Stop.un ?_))
    refine (HL2.out _).mono ?_
    rintro e w3 ⟨rfl, rfl⟩
    go_wp2_with (first | (at_make; refine Stop.un ?_) | (at_builtin; refine Stop.un ?_))
    refine Stop.mk (app_b1 w _ _ rfl rfl hO2 rfl (by omega) (by omega) rfl (by omega) ?_)
    intro ao3 cap3 w3 hO3
    clear hO2
    go_wp2_with fail
    go_loopw [5, 6] (fun v i wr => ∃ (j q : Nat) (ao : Option Addr) (cap : Nat) (l : List UInt8), j ≤ 8 ∧ i = .int .i64 ((j : Int) - 1) ∧ v = .slice ao q cap ∧ q + j ≤ m + 9 ∧ OwnB w wr (.slice ao q cap) q l ∧ Hid (l ++ be j n.toNat = bs ++ numB n.toNat)) (fun _ i _ => (intOf i + 1).toNat)
    case atStart =>
      refine ⟨(L + 7) / 8, m + 1, ao3, cap3, _, by omega, ?_, rfl, by omega, hO3, ?_⟩
      · congr 1
      · have := HhL.out
        refine Lib.hid ?_
        simp only [numB, nbytes, this, if_neg (show ¬ n.toNat < 248 by omega), List.append_assoc, List.singleton_append]
        congr 3
    case round =>
      obtain ⟨j, q, ao4, cap4, l, hj, rfl, rfl, hq, hO4, hl4⟩ := hrel
      by_cases hj0 : j = 0
      · subst hj0
        go_wp2_with (first | (at_make; refine Stop.un ?_) | (at_builtin; refine Stop.un ?_))
        go_ret
        have e := hl4.out
        rw [be, List.append_nil] at e
        subst e
        exact ⟨_, _, _, OwnB.length hO4, rfl, hO4⟩
      · obtain ⟨j, rfl⟩ : ∃ k, j = k + 1 := ⟨j - 1, by omega⟩
        go_wp2_with (first | (at_make; refine Stop.un ?_) | (at_builtin; refine Stop.un ?_))
        refine Stop.mk (app_b1 w _ _ rfl rfl hO4 rfl (by omega) (by omega) rfl (by omega) ?_)
        intro ao5 cap5 w5 hO5
        clear hO4
        go_wp2_with fail
        go_roundw
        case rel =>
          refine ⟨j, q + 1, ao5, cap5, _, by omega, by go_num, rfl, by omega, hO5, Lib.hid ?_⟩
          rw [← hl4.out, be, List.append_assoc, byte_at n h0 j]
          rfl
        case measure => simp [intOf]
end Go.Proofs.Ytdpmaocbfmgmlaa
