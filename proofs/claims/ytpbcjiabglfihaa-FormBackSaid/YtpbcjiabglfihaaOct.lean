/- What octets.zig, Int and Text return. -/
import Derived.Test.YtpbcjiabglfihaaNum
set_option linter.unusedVariables false
namespace Go.Proofs.Ytpbcjiabglfihaa
open Go.RowKit
set_option maxHeartbeats 400000 in
theorem zig_any (n : Int) (w : World) (h0 : -9223372036854775808 ≤ n) (h1 : n ≤ 9223372036854775807) :
    Calls Try.prog 29 #[.int .i64 n] w (fun e w' => e = .returned (.int .u64 (Lib.zigzag n)) ∧ w = w') := by
  by_cases hp : 0 ≤ n
  · go_enter Try.func29, Try.ntmps29
    go_wp2
    go_ret
    exact ⟨by rw [zig_xor_pos n hp h1]; rfl, rfl⟩
  · have hq : n < 0 := by omega
    clear hp
    go_enter Try.func29, Try.ntmps29
    go_wp2
    go_ret
    exact ⟨by rw [zig_xor_neg n hq h0]; rfl, rfl⟩

/-- A number that may be below 0, as bytes. -/
def intB (n : Int) : List UInt8 := numB (Lib.zigzag n)

set_option maxHeartbeats 400000 in
theorem int_any (ao : Option Addr) (m cap : Nat) (bs : List UInt8) (n : Int) (w : World) (hc : Cs w ao (bcells bs)) (hm : bs.length = m) (hl : m ≤ 140737488355000) (h0 : -9223372036854775808 ≤ n) (h1 : n ≤ 9223372036854775807) :
    Calls Try.prog 12 #[.slice ao m cap, .int .i64 n] w (RetB w (bs ++ intB n)) := by
  have Hm := Lib.hid hm; clear hm
  go_enter Try.func12, Try.ntmps12
  go_wp2_with (first | (at_make; refine Stop.un ?_) | (at_builtin; refine Stop.un ?_))
  refine (zig_any n _ h0 h1).mono ?_
  rintro e w1 ⟨rfl, rfl⟩
  have hz := Lib.zigzag_lt h0 h1
  generalize hZ : Lib.zigzag n = Z at hz
  have HZ := Lib.hid hZ; clear hZ
  go_wp2_with (first | (at_make; refine Stop.un ?_) | (at_builtin; refine Stop.un ?_))
  refine (num_any ao m cap bs Z _ hc Hm.out hl (by omega) (by omega)).mono ?_
  rintro e w2 ⟨ao2, n2, cap2, hn2, rfl, hO⟩
  have Hn2 := Lib.hid hn2; clear hn2
  go_wp2_with (first | (at_make; refine Stop.un ?_) | (at_builtin; refine Stop.un ?_))
  go_ret
  have e := HZ.out
  rw [Int.toNat_natCast] at hO Hn2
  exact ⟨ao2, n2, cap2, by rw [intB, e]; exact Hn2.out, rfl, by rw [intB, e]; exact hO⟩

/-- A text as bytes. -/
def textB (s : List UInt8) : List UInt8 := numB s.length ++ s

theorem app_str {w : World} {ops : Array Oper} {rest : List Oper} {o : Oper} {a : Act} {Q : Exit → Act → World → Prop} (w0 : World) (s x : Operand)
    (hgd : Region.wanted o (yielded ops a.tmps) = true) (ho : o.op = .call { callee := .builtin .append, args := #[s, x], argTypes := #[22, 9] })
    {v : Value} {n : Nat} {l : List UInt8} (hown : OwnB w0 w v n l) (hs : a.eval s = v)
    {t : ByteArray} (hx : a.eval x = .string t) (hb : n + t.size ≤ 140737488355328)
    (h : ∀ ao cap w', OwnB w0 w' (.slice ao (n + t.size) cap) (n + t.size) (l ++ t.data.toList) → wpList Try.prog ops Q rest (a.put o.dst (.slice ao (n + t.size) cap)) w') :
    wpList Try.prog ops Q (o :: rest) a w :=
  wpList_append_Own w0 5 (.int .u8 0) 1 1 Try.infoU8 rfl (by decide) s x 22 9 Try.underlying22 hgd ho v n (bcells l) hown hs _ t.size (byteCells t) hx
    (Src.ofString _ Try.underlying9 t) (by omega) (by omega) (fun ao cap w' h1 _ _ => h ao cap w' (by rw [OwnB, bcells_append]; exact h1))

set_option maxHeartbeats 400000 in
theorem text_any (ao : Option Addr) (m cap : Nat) (bs : List UInt8) (t : ByteArray) (w : World) (hc : Cs w ao (bcells bs)) (hm : bs.length = m) (hl : m + t.size ≤ 140737488355000) :
    Calls Try.prog 13 #[.slice ao m cap, .string t] w (RetB w (bs ++ textB t.data.toList)) := by
  have Hm := Lib.hid hm; clear hm
  go_enter Try.func13, Try.ntmps13
  go_wp2_with (first | (at_make; refine Stop.un ?_) | (at_builtin; refine Stop.un ?_))
  refine (num_any ao m cap bs t.size _ hc Hm.out (by omega) (by omega) (by omega)).mono ?_
  rintro e w2 ⟨ao2, n2, cap2, hn2, rfl, hO⟩
  rw [Int.toNat_natCast] at hO hn2
  have hle : n2 ≤ m + 9 := by rw [← hn2, List.length_append, Hm.out]; have := (numB_length t.size).2; omega
  have Hn2 := Lib.hid hn2; clear hn2
  go_wp2_with (first | (at_make; refine Stop.un ?_) | (at_builtin; refine Stop.un ?_))
  refine Stop.mk (app_str w _ _ rfl rfl hO rfl rfl (by omega) ?_)
  intro ao3 cap3 w3 hO3
  go_wp2_with (first | (at_make; refine Stop.un ?_) | (at_builtin; refine Stop.un ?_))
  go_ret
  rw [List.append_assoc] at hO3
  exact ⟨ao3, _, cap3, OwnB.length hO3, rfl, hO3⟩
end Go.Proofs.Ytpbcjiabglfihaa
