/- What octets.Text returns. -/
import Derived.Test.YtdpmaocbfmgmlaaOct
set_option linter.unusedVariables false
set_option linter.unusedSimpArgs false
namespace Go.Proofs.Ytdpmaocbfmgmlaa
open Go.RowKit
/-- A text as bytes. -/
def textB (s : List UInt8) : List UInt8 := numB s.length ++ s

theorem app_str {w : World} {ops : Array Oper} {rest : List Oper} {o : Oper} {a : Act} {Q : Exit → Act → World → Prop} (w0 : World) (s x : Operand)
    (hgd : Region.wanted o (yielded ops a.tmps) = true) (ho : o.op = .call { callee := .builtin .append, args := #[s, x], argTypes := #[40, 9] })
    {v : Value} {n : Nat} {l : List UInt8} (hown : OwnB w0 w v n l) (hs : a.eval s = v)
    {t : ByteArray} (hx : a.eval x = .string t) (hb : n + t.size ≤ 140737488355328)
    (h : ∀ ao cap w', OwnB w0 w' (.slice ao (n + t.size) cap) (n + t.size) (l ++ t.data.toList) → wpList Try.prog ops Q rest (a.put o.dst (.slice ao (n + t.size) cap)) w') :
    wpList Try.prog ops Q (o :: rest) a w :=
  wpList_append_Own w0 5 (.int .u8 0) 1 1 Try.infoU8 rfl (by decide) s x 40 9 Try.underlying40 hgd ho v n (bcells l) hown hs _ t.size (byteCells t) hx
    (Src.ofString _ Try.underlying9 t) (by omega) (by omega) (fun ao cap w' h1 _ _ _ => h ao cap w' (by rw [OwnB, bcells_append]; exact h1))

set_option maxHeartbeats 400000 in
theorem text_any (ao : Option Addr) (m cap : Nat) (bs : List UInt8) (t : ByteArray) (w : World) (hc : Cs w ao (bcells bs)) (hm : bs.length = m) (hl : m + t.size ≤ 140737488355000) :
    Calls Try.prog 69 #[.slice ao m cap, .string t] w (RetB w (bs ++ textB t.data.toList)) := by
  have Hm := Lib.hid hm; clear hm
  go_enter Try.func69, Try.ntmps69
  go_wp2_with (first | (at_make; refine Stop.un ?_) | (at_builtin; refine Stop.un ?_))
  refine (num_any ao m cap bs t.size _ hc Hm.out (by omega) (by omega) (by omega)).mono ?_
  rintro e w2 ⟨ao2, n2, cap2, hn2, rfl, hO⟩
  rw [Int.toNat_natCast] at hO hn2
  have hle : n2 ≤ m + 9 := by rw [← hn2, List.length_append, Hm.out]; have := (numB_length t.size).2; omega
  have Hn2 := Lib.hid hn2; clear hn2
  go_wp2_with (first | (at_make; refine Stop.un ?_) | (at_builtin; refine Stop.un ?_))
  refine Stop.mk (app_str w _ _ rfl rfl hO rfl rfl (by omega) ?_)
  intro ao3 cap3 w3 hO3
  go_wp2_with (first | (at_make; refine Stop.un ?_) | (at_builtin; refine Stop.un ?_))
  go_ret
  rw [List.append_assoc] at hO3
  exact ⟨ao3, _, cap3, OwnB.length hO3, rfl, hO3⟩
end Go.Proofs.Ytdpmaocbfmgmlaa
