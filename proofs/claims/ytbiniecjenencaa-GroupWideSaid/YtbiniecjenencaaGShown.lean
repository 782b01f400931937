/- The head of all statements of layer 22. -/
import Derived.Test.YtbiniecjenencaaGRows
import Derived.Test.YtbiniecjenencaaOSame
set_option linter.unusedVariables false
set_option linter.unusedSimpArgs false
set_option maxRecDepth 10000
namespace Go.Proofs.Ytbiniecjenencaa
open Go.RowKit
def txtG (s : ByteArray) : V := ⟨3, 0, s⟩
theorem num_any22 (n : Int) (w : World) :
    Calls Try.prog 13 #[.int .i64 n] w (fun e w' => e = .returned (.agg #[.int .u8 2, .int .i64 n, .string ⟨#[]⟩]) ∧ Below w.heap.size w w') := by
  go_enter Try.func13, Try.ntmps13
  go_wp2_with (first | (at_make; refine Stop.un ?_) | (at_builtin; refine Stop.un ?_) | (with_reducible refine Stop.conv 22 9 ?_) | (with_reducible refine Stop.conv 9 22 ?_))
  exact bodyPost_ret (v := .agg #[.int .u8 2, .int .i64 n, .string ⟨#[]⟩]) (by simp [results, Try.results13, go_sem]) rfl ⟨rfl, ((Below.refl _ _).alloc (Nat.le_refl _) _)⟩
theorem text_any22 (s : ByteArray) (w : World) :
    Calls Try.prog 22 #[.string s] w (fun e w' => e = .returned (.agg #[.int .u8 3, .int .i64 0, .string s]) ∧ Below w.heap.size w w') := by
  go_enter Try.func22, Try.ntmps22
  go_wp2_with (first | (at_make; refine Stop.un ?_) | (at_builtin; refine Stop.un ?_) | (with_reducible refine Stop.conv 22 9 ?_) | (with_reducible refine Stop.conv 9 22 ?_))
  exact bodyPost_ret (v := .agg #[.int .u8 3, .int .i64 0, .string s]) (by simp [results, Try.results22, go_sem]) rfl ⟨rfl, ((Below.refl _ _).alloc (Nat.le_refl _) _)⟩
/-- A row that lies in a block of its own. -/
theorem rowAt {w : World} {g : Nat} {l : List V} {t : TypeId} (z : At w g (vcells l).toArray t) (hm : l.length ≤ maxLen) (hk : ∀ v ∈ l, 0 ≤ v.k) : RowOk w ⟨some ⟨g, 0, none⟩, l.length, l.length, l⟩ := ⟨At.cs15 z, rfl, Nat.le_refl _, hm, hk⟩
theorem tabAt {w : World} {g : Nat} {rs : List Rw} {t : TypeId} (z : At w g (rwcells rs).toArray t) (h : ∀ r ∈ rs, RowOk w r) : Tab w (some ⟨g, 0, none⟩) rs := ⟨At.cs15 z, h⟩
def aG : ByteArray := ⟨#[97]⟩
def bG : ByteArray := ⟨#[98]⟩
theorem sg1 : grpB [3, 2] [[txtG aG, numG 1], [txtG bG, numG 2], [txtG aG, numG 3]] [0] [⟨1, 0⟩, ⟨3, 1⟩] = (0, [[txtG aG, numG 2, numG 4], [txtG bG, numG 1, numG 2]]) := by decide +kernel
theorem sg2 : (grpB [2] [[numG 9223372036854775807], [numG 1]] [] [⟨3, 0⟩]).1 = 220 := by decide +kernel
theorem sg3 : grpB [2] [[numG 9223372036854775807], [numG 1], [numG (-1)]] [] [⟨3, 0⟩] = (0, [[numG 9223372036854775807]]) := by decide +kernel
set_option maxRecDepth 100000 in
set_option maxHeartbeats 16000000 in
theorem shown_any22 (w : World) : Calls Try.prog 9 #[] w (fun e w' => e = .returned (.bool true) ∧ Below w.heap.size w w') := by
  go_enter Try.func9, Try.ntmps9
  have b0 : Below w.heap.size w w := Below.refl _ _
  go_wp2_with (first | (at_make; refine Stop.un ?_) | (at_builtin; refine Stop.un ?_) | (with_reducible refine Stop.conv 22 9 ?_) | (with_reducible refine Stop.conv 9 22 ?_))
  have hsz0 := b0.size
  clear hsz0
  have zk : At (w.alloc (.cells #[.int .u8 3, .int .u8 2] 5)) (w.heap.size) #[.int .u8 3, .int .u8 2] 5 := by simpa only [World.size_alloc, Nat.add_assoc, Nat.reduceAdd] using At.new w #[.int .u8 3, .int .u8 2] 5
  have BB : Below w.heap.size w (w.alloc (.cells #[.int .u8 3, .int .u8 2] 5)) := Below.alloc (Below.refl w.heap.size w) (by (try simp only [World.size_alloc]) <;> omega) (.cells #[.int .u8 3, .int .u8 2] 5)
  replace b0 := Below.next b0 BB
  clear BB
  generalize (w.alloc (.cells #[.int .u8 3, .int .u8 2] 5)) = x2 at b0 zk ⊢
  generalize w.heap.size = g_zk at zk ⊢
  refine (text_any22 _ _).mono ?_
  rintro e w1 ⟨rfl, bt⟩
  replace b0 := Below.next b0 bt
  replace zk := At.mono zk bt
  clear bt
  go_wp2_with (first | (at_make; refine Stop.un ?_) | (at_builtin; refine Stop.un ?_) | (with_reducible refine Stop.conv 22 9 ?_) | (with_reducible refine Stop.conv 9 22 ?_))
  refine (num_any22 (1) _).mono ?_
  rintro e w3 ⟨rfl, bt⟩
  replace b0 := Below.next b0 bt
  replace zk := At.mono zk bt
  clear bt
  go_wp2_with (first | (at_make; refine Stop.un ?_) | (at_builtin; refine Stop.un ?_) | (with_reducible refine Stop.conv 22 9 ?_) | (with_reducible refine Stop.conv 9 22 ?_))
  have hsz0 := b0.size
  clear hsz0
  have r1 : At (w3.alloc (.cells #[.int .u8 3, .int .i64 0, .string ⟨#[97]⟩, .int .u8 2, .int .i64 (1), .string ⟨#[]⟩] 38)) (w3.heap.size) #[.int .u8 3, .int .i64 0, .string ⟨#[97]⟩, .int .u8 2, .int .i64 (1), .string ⟨#[]⟩] 38 := by simpa only [World.size_alloc, Nat.add_assoc, Nat.reduceAdd] using At.new w3 #[.int .u8 3, .int .i64 0, .string ⟨#[97]⟩, .int .u8 2, .int .i64 (1), .string ⟨#[]⟩] 38
  have BB : Below w3.heap.size w3 (w3.alloc (.cells #[.int .u8 3, .int .i64 0, .string ⟨#[97]⟩, .int .u8 2, .int .i64 (1), .string ⟨#[]⟩] 38)) := Below.alloc (Below.refl w3.heap.size w3) (by (try simp only [World.size_alloc]) <;> omega) (.cells #[.int .u8 3, .int .i64 0, .string ⟨#[97]⟩, .int .u8 2, .int .i64 (1), .string ⟨#[]⟩] 38)
  replace b0 := Below.next b0 BB
  replace zk := At.mono zk BB
  clear BB
  generalize (w3.alloc (.cells #[.int .u8 3, .int .i64 0, .string ⟨#[97]⟩, .int .u8 2, .int .i64 (1), .string ⟨#[]⟩] 38)) = x5 at b0 zk r1 ⊢
  generalize w3.heap.size = g_r1 at r1 ⊢
  refine (text_any22 _ _).mono ?_
  rintro e w4 ⟨rfl, bt⟩
  replace b0 := Below.next b0 bt
  replace zk := At.mono zk bt
  replace r1 := At.mono r1 bt
  clear bt
  go_wp2_with (first | (at_make; refine Stop.un ?_) | (at_builtin; refine Stop.un ?_) | (with_reducible refine Stop.conv 22 9 ?_) | (with_reducible refine Stop.conv 9 22 ?_))
  refine (num_any22 (2) _).mono ?_
  rintro e w6 ⟨rfl, bt⟩
  replace b0 := Below.next b0 bt
  replace zk := At.mono zk bt
  replace r1 := At.mono r1 bt
  clear bt
  go_wp2_with (first | (at_make; refine Stop.un ?_) | (at_builtin; refine Stop.un ?_) | (with_reducible refine Stop.conv 22 9 ?_) | (with_reducible refine Stop.conv 9 22 ?_))
  have hsz0 := b0.size
  clear hsz0
  have r2 : At (w6.alloc (.cells #[.int .u8 3, .int .i64 0, .string ⟨#[98]⟩, .int .u8 2, .int .i64 (2), .string ⟨#[]⟩] 38)) (w6.heap.size) #[.int .u8 3, .int .i64 0, .string ⟨#[98]⟩, .int .u8 2, .int .i64 (2), .string ⟨#[]⟩] 38 := by simpa only [World.size_alloc, Nat.add_assoc, Nat.reduceAdd] using At.new w6 #[.int .u8 3, .int .i64 0, .string ⟨#[98]⟩, .int .u8 2, .int .i64 (2), .string ⟨#[]⟩] 38
  have BB : Below w6.heap.size w6 (w6.alloc (.cells #[.int .u8 3, .int .i64 0, .string ⟨#[98]⟩, .int .u8 2, .int .i64 (2), .string ⟨#[]⟩] 38)) := Below.alloc (Below.refl w6.heap.size w6) (by (try simp only [World.size_alloc]) <;> omega) (.cells #[.int .u8 3, .int .i64 0, .string ⟨#[98]⟩, .int .u8 2, .int .i64 (2), .string ⟨#[]⟩] 38)
  replace b0 := Below.next b0 BB
  replace zk := At.mono zk BB
  replace r1 := At.mono r1 BB
  clear BB
  generalize (w6.alloc (.cells #[.int .u8 3, .int .i64 0, .string ⟨#[98]⟩, .int .u8 2, .int .i64 (2), .string ⟨#[]⟩] 38)) = x8 at b0 zk r1 r2 ⊢
  generalize w6.heap.size = g_r2 at r2 ⊢
  refine (text_any22 _ _).mono ?_
  rintro e w7 ⟨rfl, bt⟩
  replace b0 := Below.next b0 bt
  replace zk := At.mono zk bt
  replace r1 := At.mono r1 bt
  replace r2 := At.mono r2 bt
  clear bt
  go_wp2_with (first | (at_make; refine Stop.un ?_) | (at_builtin; refine Stop.un ?_) | (with_reducible refine Stop.conv 22 9 ?_) | (with_reducible refine Stop.conv 9 22 ?_))
  refine (num_any22 (3) _).mono ?_
  rintro e w9 ⟨rfl, bt⟩
  replace b0 := Below.next b0 bt
  replace zk := At.mono zk bt
  replace r1 := At.mono r1 bt
  replace r2 := At.mono r2 bt
  clear bt
  go_wp2_with (first | (at_make; refine Stop.un ?_) | (at_builtin; refine Stop.un ?_) | (with_reducible refine Stop.conv 22 9 ?_) | (with_reducible refine Stop.conv 9 22 ?_))
  have hsz0 := b0.size
  clear hsz0
  have r3 : At ((((w9.alloc (.cells #[.int .u8 3, .int .i64 0, .string ⟨#[97]⟩, .int .u8 2, .int .i64 (3), .string ⟨#[]⟩] 38)).alloc (.cells #[.slice (some ⟨g_r1, 0, none⟩) 2 2, .slice (some ⟨g_r2, 0, none⟩) 2 2, .slice (some ⟨w9.heap.size, 0, none⟩) 2 2] 36)).alloc (.cells #[.int .i64 0] 3)).alloc (.cells #[.int .u8 1, .int .i64 0, .int .u8 3, .int .i64 1] 34)) (w9.heap.size) #[.int .u8 3, .int .i64 0, .string ⟨#[97]⟩, .int .u8 2, .int .i64 (3), .string ⟨#[]⟩] 38 := by simpa only [World.size_alloc, Nat.add_assoc, Nat.reduceAdd] using (((At.new w9 #[.int .u8 3, .int .i64 0, .string ⟨#[97]⟩, .int .u8 2, .int .i64 (3), .string ⟨#[]⟩] 38).alloc (.cells #[.slice (some ⟨g_r1, 0, none⟩) 2 2, .slice (some ⟨g_r2, 0, none⟩) 2 2, .slice (some ⟨w9.heap.size, 0, none⟩) 2 2] 36)).alloc (.cells #[.int .i64 0] 3)).alloc (.cells #[.int .u8 1, .int .i64 0, .int .u8 3, .int .i64 1] 34)
  have zt : At ((((w9.alloc (.cells #[.int .u8 3, .int .i64 0, .string ⟨#[97]⟩, .int .u8 2, .int .i64 (3), .string ⟨#[]⟩] 38)).alloc (.cells #[.slice (some ⟨g_r1, 0, none⟩) 2 2, .slice (some ⟨g_r2, 0, none⟩) 2 2, .slice (some ⟨w9.heap.size, 0, none⟩) 2 2] 36)).alloc (.cells #[.int .i64 0] 3)).alloc (.cells #[.int .u8 1, .int .i64 0, .int .u8 3, .int .i64 1] 34)) (w9.heap.size + 1) #[.slice (some ⟨g_r1, 0, none⟩) 2 2, .slice (some ⟨g_r2, 0, none⟩) 2 2, .slice (some ⟨w9.heap.size, 0, none⟩) 2 2] 36 := by simpa only [World.size_alloc, Nat.add_assoc, Nat.reduceAdd] using ((At.new (w9.alloc (.cells #[.int .u8 3, .int .i64 0, .string ⟨#[97]⟩, .int .u8 2, .int .i64 (3), .string ⟨#[]⟩] 38)) #[.slice (some ⟨g_r1, 0, none⟩) 2 2, .slice (some ⟨g_r2, 0, none⟩) 2 2, .slice (some ⟨w9.heap.size, 0, none⟩) 2 2] 36).alloc (.cells #[.int .i64 0] 3)).alloc (.cells #[.int .u8 1, .int .i64 0, .int .u8 3, .int .i64 1] 34)
  have zb : At ((((w9.alloc (.cells #[.int .u8 3, .int .i64 0, .string ⟨#[97]⟩, .int .u8 2, .int .i64 (3), .string ⟨#[]⟩] 38)).alloc (.cells #[.slice (some ⟨g_r1, 0, none⟩) 2 2, .slice (some ⟨g_r2, 0, none⟩) 2 2, .slice (some ⟨w9.heap.size, 0, none⟩) 2 2] 36)).alloc (.cells #[.int .i64 0] 3)).alloc (.cells #[.int .u8 1, .int .i64 0, .int .u8 3, .int .i64 1] 34)) (w9.heap.size + 2) #[.int .i64 0] 3 := by simpa only [World.size_alloc, Nat.add_assoc, Nat.reduceAdd] using (At.new ((w9.alloc (.cells #[.int .u8 3, .int .i64 0, .string ⟨#[97]⟩, .int .u8 2, .int .i64 (3), .string ⟨#[]⟩] 38)).alloc (.cells #[.slice (some ⟨g_r1, 0, none⟩) 2 2, .slice (some ⟨g_r2, 0, none⟩) 2 2, .slice (some ⟨w9.heap.size, 0, none⟩) 2 2] 36)) #[.int .i64 0] 3).alloc (.cells #[.int .u8 1, .int .i64 0, .int .u8 3, .int .i64 1] 34)
  have zg : At ((((w9.alloc (.cells #[.int .u8 3, .int .i64 0, .string ⟨#[97]⟩, .int .u8 2, .int .i64 (3), .string ⟨#[]⟩] 38)).alloc (.cells #[.slice (some ⟨g_r1, 0, none⟩) 2 2, .slice (some ⟨g_r2, 0, none⟩) 2 2, .slice (some ⟨w9.heap.size, 0, none⟩) 2 2] 36)).alloc (.cells #[.int .i64 0] 3)).alloc (.cells #[.int .u8 1, .int .i64 0, .int .u8 3, .int .i64 1] 34)) (w9.heap.size + 3) #[.int .u8 1, .int .i64 0, .int .u8 3, .int .i64 1] 34 := by simpa only [World.size_alloc, Nat.add_assoc, Nat.reduceAdd] using At.new (((w9.alloc (.cells #[.int .u8 3, .int .i64 0, .string ⟨#[97]⟩, .int .u8 2, .int .i64 (3), .string ⟨#[]⟩] 38)).alloc (.cells #[.slice (some ⟨g_r1, 0, none⟩) 2 2, .slice (some ⟨g_r2, 0, none⟩) 2 2, .slice (some ⟨w9.heap.size, 0, none⟩) 2 2] 36)).alloc (.cells #[.int .i64 0] 3)) #[.int .u8 1, .int .i64 0, .int .u8 3, .int .i64 1] 34
  have BB : Below w9.heap.size w9 ((((w9.alloc (.cells #[.int .u8 3, .int .i64 0, .string ⟨#[97]⟩, .int .u8 2, .int .i64 (3), .string ⟨#[]⟩] 38)).alloc (.cells #[.slice (some ⟨g_r1, 0, none⟩) 2 2, .slice (some ⟨g_r2, 0, none⟩) 2 2, .slice (some ⟨w9.heap.size, 0, none⟩) 2 2] 36)).alloc (.cells #[.int .i64 0] 3)).alloc (.cells #[.int .u8 1, .int .i64 0, .int .u8 3, .int .i64 1] 34)) := Below.alloc (Below.alloc (Below.alloc (Below.alloc (Below.refl w9.heap.size w9) (by (try simp only [World.size_alloc]) <;> omega) (.cells #[.int .u8 3, .int .i64 0, .string ⟨#[97]⟩, .int .u8 2, .int .i64 (3), .string ⟨#[]⟩] 38)) (by (try simp only [World.size_alloc]) <;> omega) (.cells #[.slice (some ⟨g_r1, 0, none⟩) 2 2, .slice (some ⟨g_r2, 0, none⟩) 2 2, .slice (some ⟨w9.heap.size, 0, none⟩) 2 2] 36)) (by (try simp only [World.size_alloc]) <;> omega) (.cells #[.int .i64 0] 3)) (by (try simp only [World.size_alloc]) <;> omega) (.cells #[.int .u8 1, .int .i64 0, .int .u8 3, .int .i64 1] 34)
  replace b0 := Below.next b0 BB
  replace zk := At.mono zk BB
  replace r1 := At.mono r1 BB
  replace r2 := At.mono r2 BB
  clear BB
  generalize ((((w9.alloc (.cells #[.int .u8 3, .int .i64 0, .string ⟨#[97]⟩, .int .u8 2, .int .i64 (3), .string ⟨#[]⟩] 38)).alloc (.cells #[.slice (some ⟨g_r1, 0, none⟩) 2 2, .slice (some ⟨g_r2, 0, none⟩) 2 2, .slice (some ⟨w9.heap.size, 0, none⟩) 2 2] 36)).alloc (.cells #[.int .i64 0] 3)).alloc (.cells #[.int .u8 1, .int .i64 0, .int .u8 3, .int .i64 1] 34)) = x10 at b0 zk r1 r2 r3 zt zb zg ⊢
  generalize w9.heap.size + 3 = g_zg at zg ⊢
  generalize w9.heap.size + 2 = g_zb at zb zg ⊢
  generalize w9.heap.size + 1 = g_zt at zt zb zg ⊢
  generalize w9.heap.size = g_r3 at r3 zt zb zg ⊢
  have tR := tabAt (rs := [⟨some ⟨g_r1, 0, none⟩, 2, 2, [txtG aG, numG (1)]⟩, ⟨some ⟨g_r2, 0, none⟩, 2, 2, [txtG bG, numG (2)]⟩, ⟨some ⟨g_r3, 0, none⟩, 2, 2, [txtG aG, numG (3)]⟩]) zt (fun r hr => by
    simp only [List.mem_cons, List.not_mem_nil, or_false] at hr
    rcases hr with rfl | rfl | rfl
    · exact (rowAt (l := [txtG aG, numG (1)]) r1 (Nat.le_of_ble_eq_true rfl) (by decide))
    · exact (rowAt (l := [txtG bG, numG (2)]) r2 (Nat.le_of_ble_eq_true rfl) (by decide))
    · exact (rowAt (l := [txtG aG, numG (3)]) r3 (Nat.le_of_ble_eq_true rfl) (by decide)))
  have hgr := grows_any (some ⟨g_zk, 0, none⟩) 2 2 [3, 2] (some ⟨g_zt, 0, none⟩) 3 3 _ (some ⟨g_zb, 0, none⟩) 1 1 [0] (some ⟨g_zg, 0, none⟩) 2 2 [⟨1, 0⟩, ⟨3, 1⟩] x10 (At.cs15 (xs := bcells [3, 2]) zk) rfl (by decide) (by decide) tR rfl (by decide) (by decide) (by decide) (fun r hr => by
    simp only [List.mem_cons, List.not_mem_nil, or_false] at hr
    rcases hr with rfl | rfl | rfl
    · exact Nat.le_of_ble_eq_true rfl
    · exact Nat.le_of_ble_eq_true rfl
    · exact Nat.le_of_ble_eq_true rfl) (At.cs15 (xs := icells [0]) zb) rfl (by decide) (by decide) (by decide) (At.cs15 (xs := agcells [⟨1, 0⟩, ⟨3, 1⟩]) zg) rfl (by decide) (by decide) (by decide)
  simp only [List.map_cons, List.map_nil] at hgr
  rw [sg1] at hgr
  have HGR := Lib.hid hgr
  clear hgr tR
  refine HGR.out.mono ?_
  rintro e w11 ⟨aA, nA, cA, rsA, rfl, MA, hA⟩
  clear HGR
  have bt := Own.below MA.O
  replace b0 := Below.next b0 bt
  replace zk := At.mono zk bt
  replace r1 := At.mono r1 bt
  replace r2 := At.mono r2 bt
  replace r3 := At.mono r3 bt
  replace zt := At.mono zt bt
  replace zb := At.mono zb bt
  replace zg := At.mono zg bt
  clear bt
  have HRA := Lib.hid hA
  clear hA
  have hleA := owns_le MA.O.1
  have hmxA : cA ≤ 9223372036854775807 := owns_max MA.O.1
  clear zk
  clear r1
  clear r2
  clear r3
  clear zt
  clear zb
  clear zg
  go_wp2_with (first | (at_make; refine Stop.un ?_) | (at_builtin; refine Stop.un ?_) | (with_reducible refine Stop.conv 22 9 ?_) | (with_reducible refine Stop.conv 9 22 ?_))
  refine (text_any22 _ _).mono ?_
  rintro e w12 ⟨rfl, bt⟩
  replace b0 := Below.next b0 bt
  replace MA := OutM.below MA bt
  clear bt
  go_wp2_with (first | (at_make; refine Stop.un ?_) | (at_builtin; refine Stop.un ?_) | (with_reducible refine Stop.conv 22 9 ?_) | (with_reducible refine Stop.conv 9 22 ?_))
  refine (num_any22 (2) _).mono ?_
  rintro e w13 ⟨rfl, bt⟩
  replace b0 := Below.next b0 bt
  replace MA := OutM.below MA bt
  clear bt
  go_wp2_with (first | (at_make; refine Stop.un ?_) | (at_builtin; refine Stop.un ?_) | (with_reducible refine Stop.conv 22 9 ?_) | (with_reducible refine Stop.conv 9 22 ?_))
  refine (num_any22 (4) _).mono ?_
  rintro e w14 ⟨rfl, bt⟩
  replace b0 := Below.next b0 bt
  replace MA := OutM.below MA bt
  clear bt
  go_wp2_with (first | (at_make; refine Stop.un ?_) | (at_builtin; refine Stop.un ?_) | (with_reducible refine Stop.conv 22 9 ?_) | (with_reducible refine Stop.conv 9 22 ?_))
  have hsz0 := b0.size
  clear hsz0
  have s1 : At (w14.alloc (.cells #[.int .u8 3, .int .i64 0, .string ⟨#[97]⟩, .int .u8 2, .int .i64 (2), .string ⟨#[]⟩, .int .u8 2, .int .i64 (4), .string ⟨#[]⟩] 38)) (w14.heap.size) #[.int .u8 3, .int .i64 0, .string ⟨#[97]⟩, .int .u8 2, .int .i64 (2), .string ⟨#[]⟩, .int .u8 2, .int .i64 (4), .string ⟨#[]⟩] 38 := by simpa only [World.size_alloc, Nat.add_assoc, Nat.reduceAdd] using At.new w14 #[.int .u8 3, .int .i64 0, .string ⟨#[97]⟩, .int .u8 2, .int .i64 (2), .string ⟨#[]⟩, .int .u8 2, .int .i64 (4), .string ⟨#[]⟩] 38
  have BB : Below w14.heap.size w14 (w14.alloc (.cells #[.int .u8 3, .int .i64 0, .string ⟨#[97]⟩, .int .u8 2, .int .i64 (2), .string ⟨#[]⟩, .int .u8 2, .int .i64 (4), .string ⟨#[]⟩] 38)) := Below.alloc (Below.refl w14.heap.size w14) (by (try simp only [World.size_alloc]) <;> omega) (.cells #[.int .u8 3, .int .i64 0, .string ⟨#[97]⟩, .int .u8 2, .int .i64 (2), .string ⟨#[]⟩, .int .u8 2, .int .i64 (4), .string ⟨#[]⟩] 38)
  replace b0 := Below.next b0 BB
  replace MA := OutM.below MA BB
  clear BB
  generalize (w14.alloc (.cells #[.int .u8 3, .int .i64 0, .string ⟨#[97]⟩, .int .u8 2, .int .i64 (2), .string ⟨#[]⟩, .int .u8 2, .int .i64 (4), .string ⟨#[]⟩] 38)) = x16 at b0 MA s1 ⊢
  generalize w14.heap.size = g_s1 at s1 ⊢
  refine (text_any22 _ _).mono ?_
  rintro e w15 ⟨rfl, bt⟩
  replace b0 := Below.next b0 bt
  replace MA := OutM.below MA bt
  replace s1 := At.mono s1 bt
  clear bt
  go_wp2_with (first | (at_make; refine Stop.un ?_) | (at_builtin; refine Stop.un ?_) | (with_reducible refine Stop.conv 22 9 ?_) | (with_reducible refine Stop.conv 9 22 ?_))
  refine (num_any22 (1) _).mono ?_
  rintro e w17 ⟨rfl, bt⟩
  replace b0 := Below.next b0 bt
  replace MA := OutM.below MA bt
  replace s1 := At.mono s1 bt
  clear bt
  go_wp2_with (first | (at_make; refine Stop.un ?_) | (at_builtin; refine Stop.un ?_) | (with_reducible refine Stop.conv 22 9 ?_) | (with_reducible refine Stop.conv 9 22 ?_))
  refine (num_any22 (2) _).mono ?_
  rintro e w18 ⟨rfl, bt⟩
  replace b0 := Below.next b0 bt
  replace MA := OutM.below MA bt
  replace s1 := At.mono s1 bt
  clear bt
  go_wp2_with (first | (at_make; refine Stop.un ?_) | (at_builtin; refine Stop.un ?_) | (with_reducible refine Stop.conv 22 9 ?_) | (with_reducible refine Stop.conv 9 22 ?_))
  have hsz0 := b0.size
  clear hsz0
  have s2 : At ((w18.alloc (.cells #[.int .u8 3, .int .i64 0, .string ⟨#[98]⟩, .int .u8 2, .int .i64 (1), .string ⟨#[]⟩, .int .u8 2, .int .i64 (2), .string ⟨#[]⟩] 38)).alloc (.cells #[.slice (some ⟨g_s1, 0, none⟩) 3 3, .slice (some ⟨w18.heap.size, 0, none⟩) 3 3] 36)) (w18.heap.size) #[.int .u8 3, .int .i64 0, .string ⟨#[98]⟩, .int .u8 2, .int .i64 (1), .string ⟨#[]⟩, .int .u8 2, .int .i64 (2), .string ⟨#[]⟩] 38 := by simpa only [World.size_alloc, Nat.add_assoc, Nat.reduceAdd] using (At.new w18 #[.int .u8 3, .int .i64 0, .string ⟨#[98]⟩, .int .u8 2, .int .i64 (1), .string ⟨#[]⟩, .int .u8 2, .int .i64 (2), .string ⟨#[]⟩] 38).alloc (.cells #[.slice (some ⟨g_s1, 0, none⟩) 3 3, .slice (some ⟨w18.heap.size, 0, none⟩) 3 3] 36)
  have zq : At ((w18.alloc (.cells #[.int .u8 3, .int .i64 0, .string ⟨#[98]⟩, .int .u8 2, .int .i64 (1), .string ⟨#[]⟩, .int .u8 2, .int .i64 (2), .string ⟨#[]⟩] 38)).alloc (.cells #[.slice (some ⟨g_s1, 0, none⟩) 3 3, .slice (some ⟨w18.heap.size, 0, none⟩) 3 3] 36)) (w18.heap.size + 1) #[.slice (some ⟨g_s1, 0, none⟩) 3 3, .slice (some ⟨w18.heap.size, 0, none⟩) 3 3] 36 := by simpa only [World.size_alloc, Nat.add_assoc, Nat.reduceAdd] using At.new (w18.alloc (.cells #[.int .u8 3, .int .i64 0, .string ⟨#[98]⟩, .int .u8 2, .int .i64 (1), .string ⟨#[]⟩, .int .u8 2, .int .i64 (2), .string ⟨#[]⟩] 38)) #[.slice (some ⟨g_s1, 0, none⟩) 3 3, .slice (some ⟨w18.heap.size, 0, none⟩) 3 3] 36
  have BB : Below w18.heap.size w18 ((w18.alloc (.cells #[.int .u8 3, .int .i64 0, .string ⟨#[98]⟩, .int .u8 2, .int .i64 (1), .string ⟨#[]⟩, .int .u8 2, .int .i64 (2), .string ⟨#[]⟩] 38)).alloc (.cells #[.slice (some ⟨g_s1, 0, none⟩) 3 3, .slice (some ⟨w18.heap.size, 0, none⟩) 3 3] 36)) := Below.alloc (Below.alloc (Below.refl w18.heap.size w18) (by (try simp only [World.size_alloc]) <;> omega) (.cells #[.int .u8 3, .int .i64 0, .string ⟨#[98]⟩, .int .u8 2, .int .i64 (1), .string ⟨#[]⟩, .int .u8 2, .int .i64 (2), .string ⟨#[]⟩] 38)) (by (try simp only [World.size_alloc]) <;> omega) (.cells #[.slice (some ⟨g_s1, 0, none⟩) 3 3, .slice (some ⟨w18.heap.size, 0, none⟩) 3 3] 36)
  replace b0 := Below.next b0 BB
  replace MA := OutM.below MA BB
  replace s1 := At.mono s1 BB
  clear BB
  generalize ((w18.alloc (.cells #[.int .u8 3, .int .i64 0, .string ⟨#[98]⟩, .int .u8 2, .int .i64 (1), .string ⟨#[]⟩, .int .u8 2, .int .i64 (2), .string ⟨#[]⟩] 38)).alloc (.cells #[.slice (some ⟨g_s1, 0, none⟩) 3 3, .slice (some ⟨w18.heap.size, 0, none⟩) 3 3] 36)) = x19 at b0 MA s1 s2 zq ⊢
  generalize w18.heap.size + 1 = g_zq at zq ⊢
  generalize w18.heap.size = g_s2 at s2 zq ⊢
  have tX := tabAt (rs := [⟨some ⟨g_s1, 0, none⟩, 3, 3, [txtG aG, numG (2), numG (4)]⟩, ⟨some ⟨g_s2, 0, none⟩, 3, 3, [txtG bG, numG (1), numG (2)]⟩]) zq (fun r hr => by
    simp only [List.mem_cons, List.not_mem_nil, or_false] at hr
    rcases hr with rfl | rfl
    · exact (rowAt (l := [txtG aG, numG (2), numG (4)]) s1 (Nat.le_of_ble_eq_true rfl) (by decide))
    · exact (rowAt (l := [txtG bG, numG (1), numG (2)]) s2 (Nat.le_of_ble_eq_true rfl) (by decide)))
  have hsm := samerows_any aA nA cA rsA (some ⟨g_zq, 0, none⟩) 2 2 _ x19 ⟨Own.cs MA.O, fun r hr => (MA.F r hr).1⟩ tX (OwnRs.length MA.O) rfl hleA (by decide) hmxA (by decide)
  rw [decide_eq_true (by rw [HRA.out]; rfl)] at hsm
  have HSM := Lib.hid hsm
  clear hsm tX
  refine HSM.out.mono ?_
  rintro e w20 ⟨rfl, bt⟩
  replace b0 := Below.next b0 bt
  replace MA := OutM.below MA bt
  replace s1 := At.mono s1 bt
  replace s2 := At.mono s2 bt
  replace zq := At.mono zq bt
  clear bt HSM
  clear s1
  clear s2
  clear zq
  clear MA
  go_wp2_with (first | (at_make; refine Stop.un ?_) | (at_builtin; refine Stop.un ?_) | (with_reducible refine Stop.conv 22 9 ?_) | (with_reducible refine Stop.conv 9 22 ?_))
  refine (num_any22 (9223372036854775807) _).mono ?_
  rintro e w21 ⟨rfl, bt⟩
  replace b0 := Below.next b0 bt
  clear bt
  go_wp2_with (first | (at_make; refine Stop.un ?_) | (at_builtin; refine Stop.un ?_) | (with_reducible refine Stop.conv 22 9 ?_) | (with_reducible refine Stop.conv 9 22 ?_))
  have hsz0 := b0.size
  clear hsz0
  have r4 : At (w21.alloc (.cells #[.int .u8 2, .int .i64 (9223372036854775807), .string ⟨#[]⟩] 38)) (w21.heap.size) #[.int .u8 2, .int .i64 (9223372036854775807), .string ⟨#[]⟩] 38 := by simpa only [World.size_alloc, Nat.add_assoc, Nat.reduceAdd] using At.new w21 #[.int .u8 2, .int .i64 (9223372036854775807), .string ⟨#[]⟩] 38
  have BB : Below w21.heap.size w21 (w21.alloc (.cells #[.int .u8 2, .int .i64 (9223372036854775807), .string ⟨#[]⟩] 38)) := Below.alloc (Below.refl w21.heap.size w21) (by (try simp only [World.size_alloc]) <;> omega) (.cells #[.int .u8 2, .int .i64 (9223372036854775807), .string ⟨#[]⟩] 38)
  replace b0 := Below.next b0 BB
  clear BB
  generalize (w21.alloc (.cells #[.int .u8 2, .int .i64 (9223372036854775807), .string ⟨#[]⟩] 38)) = x23 at b0 r4 ⊢
  generalize w21.heap.size = g_r4 at r4 ⊢
  refine (num_any22 (1) _).mono ?_
  rintro e w22 ⟨rfl, bt⟩
  replace b0 := Below.next b0 bt
  replace r4 := At.mono r4 bt
  clear bt
  go_wp2_with (first | (at_make; refine Stop.un ?_) | (at_builtin; refine Stop.un ?_) | (with_reducible refine Stop.conv 22 9 ?_) | (with_reducible refine Stop.conv 9 22 ?_))
  have hsz0 := b0.size
  have HB_zB : Hid (w.heap.size ≤ w22.heap.size + 1) := Lib.hid (by omega)
  have HN_zB_r4 : Hid (g_r4 ≠ w22.heap.size + 1) := Lib.hid (by have := r4.lt; omega)
  have HN_zB_r5 : Hid (w22.heap.size ≠ w22.heap.size + 1) := Lib.hid (by omega)
  clear hsz0
  have r5 : At ((((w22.alloc (.cells #[.int .u8 2, .int .i64 (1), .string ⟨#[]⟩] 38)).alloc (.cells #[.slice (some ⟨g_r4, 0, none⟩) 1 1, .slice (some ⟨w22.heap.size, 0, none⟩) 1 1] 36)).alloc (.cells #[.int .u8 2] 5)).alloc (.cells #[.int .u8 3, .int .i64 0] 34)) (w22.heap.size) #[.int .u8 2, .int .i64 (1), .string ⟨#[]⟩] 38 := by simpa only [World.size_alloc, Nat.add_assoc, Nat.reduceAdd] using (((At.new w22 #[.int .u8 2, .int .i64 (1), .string ⟨#[]⟩] 38).alloc (.cells #[.slice (some ⟨g_r4, 0, none⟩) 1 1, .slice (some ⟨w22.heap.size, 0, none⟩) 1 1] 36)).alloc (.cells #[.int .u8 2] 5)).alloc (.cells #[.int .u8 3, .int .i64 0] 34)
  have zB : At ((((w22.alloc (.cells #[.int .u8 2, .int .i64 (1), .string ⟨#[]⟩] 38)).alloc (.cells #[.slice (some ⟨g_r4, 0, none⟩) 1 1, .slice (some ⟨w22.heap.size, 0, none⟩) 1 1] 36)).alloc (.cells #[.int .u8 2] 5)).alloc (.cells #[.int .u8 3, .int .i64 0] 34)) (w22.heap.size + 1) #[.slice (some ⟨g_r4, 0, none⟩) 1 1, .slice (some ⟨w22.heap.size, 0, none⟩) 1 1] 36 := by simpa only [World.size_alloc, Nat.add_assoc, Nat.reduceAdd] using ((At.new (w22.alloc (.cells #[.int .u8 2, .int .i64 (1), .string ⟨#[]⟩] 38)) #[.slice (some ⟨g_r4, 0, none⟩) 1 1, .slice (some ⟨w22.heap.size, 0, none⟩) 1 1] 36).alloc (.cells #[.int .u8 2] 5)).alloc (.cells #[.int .u8 3, .int .i64 0] 34)
  have k2 : At ((((w22.alloc (.cells #[.int .u8 2, .int .i64 (1), .string ⟨#[]⟩] 38)).alloc (.cells #[.slice (some ⟨g_r4, 0, none⟩) 1 1, .slice (some ⟨w22.heap.size, 0, none⟩) 1 1] 36)).alloc (.cells #[.int .u8 2] 5)).alloc (.cells #[.int .u8 3, .int .i64 0] 34)) (w22.heap.size + 2) #[.int .u8 2] 5 := by simpa only [World.size_alloc, Nat.add_assoc, Nat.reduceAdd] using (At.new ((w22.alloc (.cells #[.int .u8 2, .int .i64 (1), .string ⟨#[]⟩] 38)).alloc (.cells #[.slice (some ⟨g_r4, 0, none⟩) 1 1, .slice (some ⟨w22.heap.size, 0, none⟩) 1 1] 36)) #[.int .u8 2] 5).alloc (.cells #[.int .u8 3, .int .i64 0] 34)
  have a2 : At ((((w22.alloc (.cells #[.int .u8 2, .int .i64 (1), .string ⟨#[]⟩] 38)).alloc (.cells #[.slice (some ⟨g_r4, 0, none⟩) 1 1, .slice (some ⟨w22.heap.size, 0, none⟩) 1 1] 36)).alloc (.cells #[.int .u8 2] 5)).alloc (.cells #[.int .u8 3, .int .i64 0] 34)) (w22.heap.size + 3) #[.int .u8 3, .int .i64 0] 34 := by simpa only [World.size_alloc, Nat.add_assoc, Nat.reduceAdd] using At.new (((w22.alloc (.cells #[.int .u8 2, .int .i64 (1), .string ⟨#[]⟩] 38)).alloc (.cells #[.slice (some ⟨g_r4, 0, none⟩) 1 1, .slice (some ⟨w22.heap.size, 0, none⟩) 1 1] 36)).alloc (.cells #[.int .u8 2] 5)) #[.int .u8 3, .int .i64 0] 34
  have BB : Below w22.heap.size w22 ((((w22.alloc (.cells #[.int .u8 2, .int .i64 (1), .string ⟨#[]⟩] 38)).alloc (.cells #[.slice (some ⟨g_r4, 0, none⟩) 1 1, .slice (some ⟨w22.heap.size, 0, none⟩) 1 1] 36)).alloc (.cells #[.int .u8 2] 5)).alloc (.cells #[.int .u8 3, .int .i64 0] 34)) := Below.alloc (Below.alloc (Below.alloc (Below.alloc (Below.refl w22.heap.size w22) (by (try simp only [World.size_alloc]) <;> omega) (.cells #[.int .u8 2, .int .i64 (1), .string ⟨#[]⟩] 38)) (by (try simp only [World.size_alloc]) <;> omega) (.cells #[.slice (some ⟨g_r4, 0, none⟩) 1 1, .slice (some ⟨w22.heap.size, 0, none⟩) 1 1] 36)) (by (try simp only [World.size_alloc]) <;> omega) (.cells #[.int .u8 2] 5)) (by (try simp only [World.size_alloc]) <;> omega) (.cells #[.int .u8 3, .int .i64 0] 34)
  replace b0 := Below.next b0 BB
  replace r4 := At.mono r4 BB
  clear BB
  generalize ((((w22.alloc (.cells #[.int .u8 2, .int .i64 (1), .string ⟨#[]⟩] 38)).alloc (.cells #[.slice (some ⟨g_r4, 0, none⟩) 1 1, .slice (some ⟨w22.heap.size, 0, none⟩) 1 1] 36)).alloc (.cells #[.int .u8 2] 5)).alloc (.cells #[.int .u8 3, .int .i64 0] 34)) = x24 at b0 r4 r5 zB k2 a2 ⊢
  generalize w22.heap.size + 3 = g_a2 at a2 HB_zB HN_zB_r4 HN_zB_r5 ⊢
  generalize w22.heap.size + 2 = g_k2 at k2 a2 HB_zB HN_zB_r4 HN_zB_r5 ⊢
  generalize w22.heap.size + 1 = g_zB at zB k2 a2 HB_zB HN_zB_r4 HN_zB_r5 ⊢
  generalize w22.heap.size = g_r5 at r5 zB k2 a2 HB_zB HN_zB_r4 HN_zB_r5 ⊢
  have tR := tabAt (rs := [⟨some ⟨g_r4, 0, none⟩, 1, 1, [numG (9223372036854775807)]⟩, ⟨some ⟨g_r5, 0, none⟩, 1, 1, [numG (1)]⟩]) zB (fun r hr => by
    simp only [List.mem_cons, List.not_mem_nil, or_false] at hr
    rcases hr with rfl | rfl
    · exact (rowAt (l := [numG (9223372036854775807)]) r4 (Nat.le_of_ble_eq_true rfl) (by decide))
    · exact (rowAt (l := [numG (1)]) r5 (Nat.le_of_ble_eq_true rfl) (by decide)))
  have hgr := grows_any (some ⟨g_k2, 0, none⟩) 1 1 [2] (some ⟨g_zB, 0, none⟩) 2 2 _ none 0 0 [] (some ⟨g_a2, 0, none⟩) 1 1 [⟨3, 0⟩] x24 (At.cs15 (xs := bcells [2]) k2) rfl (by decide) (by decide) tR rfl (by decide) (by decide) (by decide) (fun r hr => by
    simp only [List.mem_cons, List.not_mem_nil, or_false] at hr
    rcases hr with rfl | rfl
    · exact Nat.le_of_ble_eq_true rfl
    · exact Nat.le_of_ble_eq_true rfl) (Cs.nil _ _) rfl (by decide) (by decide) (by decide) (At.cs15 (xs := agcells [⟨3, 0⟩]) a2) rfl (by decide) (by decide) (by decide)
  simp only [List.map_cons, List.map_nil] at hgr
  obtain ⟨RS, hRS⟩ : ∃ RS, grpB [2] [[numG 9223372036854775807], [numG 1]] [] [⟨3, 0⟩] = (220, RS) := ⟨_, Prod.ext sg2 rfl⟩
  rw [hRS] at hgr
  have HGR := Lib.hid hgr
  clear hgr tR
  refine HGR.out.mono ?_
  rintro e w25 ⟨aZ, nZ, cZ, rsZ, rfl, MZ, hZ⟩
  clear HGR
  have bt := Own.below MZ.O
  replace b0 := Below.next b0 bt
  replace r4 := At.mono r4 bt
  replace r5 := At.mono r5 bt
  replace zB := At.mono zB bt
  replace k2 := At.mono k2 bt
  replace a2 := At.mono a2 bt
  clear bt
  clear MZ hZ
  clear k2
  clear a2
  go_wp2_with (first | (at_make; refine Stop.un ?_) | (at_builtin; refine Stop.un ?_) | (with_reducible refine Stop.conv 22 9 ?_) | (with_reducible refine Stop.conv 9 22 ?_))
  have hsz0 := b0.size
  have HN_k3_zB : Hid (g_zB ≠ w25.heap.size) := Lib.hid (by have := zB.lt; omega)
  clear hsz0
  have k3 : At (w25.alloc (.cells #[.int .u8 2] 5)) (w25.heap.size) #[.int .u8 2] 5 := by simpa only [World.size_alloc, Nat.add_assoc, Nat.reduceAdd] using At.new w25 #[.int .u8 2] 5
  have BB : Below w25.heap.size w25 (w25.alloc (.cells #[.int .u8 2] 5)) := Below.alloc (Below.refl w25.heap.size w25) (by (try simp only [World.size_alloc]) <;> omega) (.cells #[.int .u8 2] 5)
  replace b0 := Below.next b0 BB
  replace r4 := At.mono r4 BB
  replace r5 := At.mono r5 BB
  replace zB := At.mono zB BB
  clear BB
  generalize (w25.alloc (.cells #[.int .u8 2] 5)) = x27 at b0 r4 r5 zB k3 ⊢
  generalize w25.heap.size = g_k3 at k3 HN_k3_zB ⊢
  refine (num_any22 (-1) _).mono ?_
  rintro e w26 ⟨rfl, bt⟩
  replace b0 := Below.next b0 bt
  replace r4 := At.mono r4 bt
  replace r5 := At.mono r5 bt
  replace zB := At.mono zB bt
  replace k3 := At.mono k3 bt
  clear bt
  go_wp2_with (first | (at_make; refine Stop.un ?_) | (at_builtin; refine Stop.un ?_) | (with_reducible refine Stop.conv 22 9 ?_) | (with_reducible refine Stop.conv 9 22 ?_))
  have hsz0 := b0.size
  have HN_r6_zB : Hid (g_zB ≠ w26.heap.size) := Lib.hid (by have := zB.lt; omega)
  have HN_zX_zB : Hid (g_zB ≠ w26.heap.size + 1) := Lib.hid (by have := zB.lt; omega)
  clear hsz0
  have r6 : At ((w26.alloc (.cells #[.int .u8 2, .int .i64 (-1), .string ⟨#[]⟩] 38)).alloc (.cells #[.slice (some ⟨w26.heap.size, 0, none⟩) 1 1] 36)) (w26.heap.size) #[.int .u8 2, .int .i64 (-1), .string ⟨#[]⟩] 38 := by simpa only [World.size_alloc, Nat.add_assoc, Nat.reduceAdd] using (At.new w26 #[.int .u8 2, .int .i64 (-1), .string ⟨#[]⟩] 38).alloc (.cells #[.slice (some ⟨w26.heap.size, 0, none⟩) 1 1] 36)
  have zX : At ((w26.alloc (.cells #[.int .u8 2, .int .i64 (-1), .string ⟨#[]⟩] 38)).alloc (.cells #[.slice (some ⟨w26.heap.size, 0, none⟩) 1 1] 36)) (w26.heap.size + 1) #[.slice (some ⟨w26.heap.size, 0, none⟩) 1 1] 36 := by simpa only [World.size_alloc, Nat.add_assoc, Nat.reduceAdd] using At.new (w26.alloc (.cells #[.int .u8 2, .int .i64 (-1), .string ⟨#[]⟩] 38)) #[.slice (some ⟨w26.heap.size, 0, none⟩) 1 1] 36
  have BB : Below w26.heap.size w26 ((w26.alloc (.cells #[.int .u8 2, .int .i64 (-1), .string ⟨#[]⟩] 38)).alloc (.cells #[.slice (some ⟨w26.heap.size, 0, none⟩) 1 1] 36)) := Below.alloc (Below.alloc (Below.refl w26.heap.size w26) (by (try simp only [World.size_alloc]) <;> omega) (.cells #[.int .u8 2, .int .i64 (-1), .string ⟨#[]⟩] 38)) (by (try simp only [World.size_alloc]) <;> omega) (.cells #[.slice (some ⟨w26.heap.size, 0, none⟩) 1 1] 36)
  replace b0 := Below.next b0 BB
  replace r4 := At.mono r4 BB
  replace r5 := At.mono r5 BB
  replace zB := At.mono zB BB
  replace k3 := At.mono k3 BB
  clear BB
  generalize ((w26.alloc (.cells #[.int .u8 2, .int .i64 (-1), .string ⟨#[]⟩] 38)).alloc (.cells #[.slice (some ⟨w26.heap.size, 0, none⟩) 1 1] 36)) = x28 at b0 r4 r5 zB k3 r6 zX ⊢
  generalize w26.heap.size + 1 = g_zX at zX HN_r6_zB HN_zX_zB ⊢
  generalize w26.heap.size = g_r6 at r6 zX HN_r6_zB HN_zX_zB ⊢
  have OB : OwnRs w x28 (.slice (some ⟨g_zB, 0, none⟩) 2 2) 2 [⟨some ⟨g_r4, 0, none⟩, 1, 1, [numG (9223372036854775807)]⟩, ⟨some ⟨g_r5, 0, none⟩, 1, 1, [numG (1)]⟩] := ⟨⟨rfl, .inr ⟨g_zB, 2, _, rfl, HB_zB.out, zB, Nat.le_refl _, by decide, rfl, rfl⟩⟩, b0⟩
  refine Stop.mk (app_rws w _ _ rfl rfl OB rfl rfl (news := [⟨some ⟨g_r6, 0, none⟩, 1, 1, [numG (-1)]⟩]) rfl (At.cs15 zX) (by decide) ?_)
  intro aY cY wY OY gY kY
  clear OB
  replace r4 := r4.grownK gY (fun e => HN_zB_r4.out (Option.some.inj e).symm)
  replace r5 := r5.grownK gY (fun e => HN_zB_r5.out (Option.some.inj e).symm)
  replace k3 := k3.grownK gY (fun e => HN_k3_zB.out (Option.some.inj e))
  replace r6 := r6.grownK gY (fun e => HN_r6_zB.out (Option.some.inj e))
  have b0 := Own.below OY
  clear gY kY
  clear zB
  clear zX
  have hcle := owns_le OY.1
  have hcmx : cY ≤ maxLen := owns_max OY.1
  have HCM := Lib.hid hcmx
  unfold maxLen at hcmx
  go_wp2_with (first | (at_make; refine Stop.un ?_) | (at_builtin; refine Stop.un ?_) | (with_reducible refine Stop.conv 22 9 ?_) | (with_reducible refine Stop.conv 9 22 ?_))
  have hsz0 := b0.size
  clear hsz0
  have a3 : At (wY.alloc (.cells #[.int .u8 3, .int .i64 0] 34)) (wY.heap.size) #[.int .u8 3, .int .i64 0] 34 := by simpa only [World.size_alloc, Nat.add_assoc, Nat.reduceAdd] using At.new wY #[.int .u8 3, .int .i64 0] 34
  have BB : Below wY.heap.size wY (wY.alloc (.cells #[.int .u8 3, .int .i64 0] 34)) := Below.alloc (Below.refl wY.heap.size wY) (by (try simp only [World.size_alloc]) <;> omega) (.cells #[.int .u8 3, .int .i64 0] 34)
  replace b0 := Below.next b0 BB
  replace r4 := At.mono r4 BB
  replace r5 := At.mono r5 BB
  replace k3 := At.mono k3 BB
  replace r6 := At.mono r6 BB
  replace OY := Own.keep OY BB
  clear BB
  generalize (wY.alloc (.cells #[.int .u8 3, .int .i64 0] 34)) = x29 at b0 r4 r5 k3 r6 OY a3 ⊢
  generalize wY.heap.size = g_a3 at a3 ⊢
  have tR : Tab x29 aY [⟨some ⟨g_r4, 0, none⟩, 1, 1, [numG (9223372036854775807)]⟩, ⟨some ⟨g_r5, 0, none⟩, 1, 1, [numG (1)]⟩, ⟨some ⟨g_r6, 0, none⟩, 1, 1, [numG (-1)]⟩] := ⟨Own.cs OY, (fun r hr => by
    simp only [List.mem_cons, List.not_mem_nil, or_false] at hr
    rcases hr with rfl | rfl | rfl
    · exact (rowAt (l := [numG (9223372036854775807)]) r4 (Nat.le_of_ble_eq_true rfl) (by decide))
    · exact (rowAt (l := [numG (1)]) r5 (Nat.le_of_ble_eq_true rfl) (by decide))
    · exact (rowAt (l := [numG (-1)]) r6 (Nat.le_of_ble_eq_true rfl) (by decide)))⟩
  have hgr := grows_any (some ⟨g_k3, 0, none⟩) 1 1 [2] aY 3 cY _ none 0 0 [] (some ⟨g_a3, 0, none⟩) 1 1 [⟨3, 0⟩] x29 (At.cs15 (xs := bcells [2]) k3) rfl (by decide) (by decide) tR rfl hcle HCM.out (by decide) (fun r hr => by
    simp only [List.mem_cons, List.not_mem_nil, or_false] at hr
    rcases hr with rfl | rfl | rfl
    · exact Nat.le_of_ble_eq_true rfl
    · exact Nat.le_of_ble_eq_true rfl
    · exact Nat.le_of_ble_eq_true rfl) (Cs.nil _ _) rfl (by decide) (by decide) (by decide) (At.cs15 (xs := agcells [⟨3, 0⟩]) a3) rfl (by decide) (by decide) (by decide)
  simp only [List.map_cons, List.map_nil] at hgr
  rw [sg3] at hgr
  have HGR := Lib.hid hgr
  clear hgr tR
  refine HGR.out.mono ?_
  rintro e w30 ⟨aC, nC, cC, rsC, rfl, MC, hC⟩
  clear HGR
  have bt := Own.below MC.O
  replace b0 := Below.next b0 bt
  replace r4 := At.mono r4 bt
  replace r5 := At.mono r5 bt
  replace k3 := At.mono k3 bt
  replace r6 := At.mono r6 bt
  replace OY := Own.keep OY bt
  replace a3 := At.mono a3 bt
  clear bt
  have HRC := Lib.hid hC
  clear hC
  have hleC := owns_le MC.O.1
  have hmxC : cC ≤ 9223372036854775807 := owns_max MC.O.1
  clear k3
  clear a3
  clear r4
  clear r5
  clear r6
  clear OY
  go_wp2_with (first | (at_make; refine Stop.un ?_) | (at_builtin; refine Stop.un ?_) | (with_reducible refine Stop.conv 22 9 ?_) | (with_reducible refine Stop.conv 9 22 ?_))
  refine (num_any22 (9223372036854775807) _).mono ?_
  rintro e w31 ⟨rfl, bt⟩
  replace b0 := Below.next b0 bt
  replace MC := OutM.below MC bt
  clear bt
  go_wp2_with (first | (at_make; refine Stop.un ?_) | (at_builtin; refine Stop.un ?_) | (with_reducible refine Stop.conv 22 9 ?_) | (with_reducible refine Stop.conv 9 22 ?_))
  have hsz0 := b0.size
  clear hsz0
  have s3 : At ((w31.alloc (.cells #[.int .u8 2, .int .i64 (9223372036854775807), .string ⟨#[]⟩] 38)).alloc (.cells #[.slice (some ⟨w31.heap.size, 0, none⟩) 1 1] 36)) (w31.heap.size) #[.int .u8 2, .int .i64 (9223372036854775807), .string ⟨#[]⟩] 38 := by simpa only [World.size_alloc, Nat.add_assoc, Nat.reduceAdd] using (At.new w31 #[.int .u8 2, .int .i64 (9223372036854775807), .string ⟨#[]⟩] 38).alloc (.cells #[.slice (some ⟨w31.heap.size, 0, none⟩) 1 1] 36)
  have zz : At ((w31.alloc (.cells #[.int .u8 2, .int .i64 (9223372036854775807), .string ⟨#[]⟩] 38)).alloc (.cells #[.slice (some ⟨w31.heap.size, 0, none⟩) 1 1] 36)) (w31.heap.size + 1) #[.slice (some ⟨w31.heap.size, 0, none⟩) 1 1] 36 := by simpa only [World.size_alloc, Nat.add_assoc, Nat.reduceAdd] using At.new (w31.alloc (.cells #[.int .u8 2, .int .i64 (9223372036854775807), .string ⟨#[]⟩] 38)) #[.slice (some ⟨w31.heap.size, 0, none⟩) 1 1] 36
  have BB : Below w31.heap.size w31 ((w31.alloc (.cells #[.int .u8 2, .int .i64 (9223372036854775807), .string ⟨#[]⟩] 38)).alloc (.cells #[.slice (some ⟨w31.heap.size, 0, none⟩) 1 1] 36)) := Below.alloc (Below.alloc (Below.refl w31.heap.size w31) (by (try simp only [World.size_alloc]) <;> omega) (.cells #[.int .u8 2, .int .i64 (9223372036854775807), .string ⟨#[]⟩] 38)) (by (try simp only [World.size_alloc]) <;> omega) (.cells #[.slice (some ⟨w31.heap.size, 0, none⟩) 1 1] 36)
  replace b0 := Below.next b0 BB
  replace MC := OutM.below MC BB
  clear BB
  generalize ((w31.alloc (.cells #[.int .u8 2, .int .i64 (9223372036854775807), .string ⟨#[]⟩] 38)).alloc (.cells #[.slice (some ⟨w31.heap.size, 0, none⟩) 1 1] 36)) = x32 at b0 MC s3 zz ⊢
  generalize w31.heap.size + 1 = g_zz at zz ⊢
  generalize w31.heap.size = g_s3 at s3 zz ⊢
  have tX := tabAt (rs := [⟨some ⟨g_s3, 0, none⟩, 1, 1, [numG (9223372036854775807)]⟩]) zz (fun r hr => by rw [List.mem_singleton.1 hr]; exact (rowAt (l := [numG (9223372036854775807)]) s3 (Nat.le_of_ble_eq_true rfl) (by decide)))
  have hsm := samerows_any aC nC cC rsC (some ⟨g_zz, 0, none⟩) 1 1 _ x32 ⟨Own.cs MC.O, fun r hr => (MC.F r hr).1⟩ tX (OwnRs.length MC.O) rfl hleC (by decide) hmxC (by decide)
  rw [decide_eq_true (by rw [HRC.out]; rfl)] at hsm
  have HSM := Lib.hid hsm
  clear hsm tX
  refine HSM.out.mono ?_
  rintro e w33 ⟨rfl, bt⟩
  replace b0 := Below.next b0 bt
  replace MC := OutM.below MC bt
  replace s3 := At.mono s3 bt
  replace zz := At.mono zz bt
  clear bt HSM
  go_wp2_with (first | (at_make; refine Stop.un ?_) | (at_builtin; refine Stop.un ?_) | (with_reducible refine Stop.conv 22 9 ?_) | (with_reducible refine Stop.conv 9 22 ?_))
  go_ret
  exact ⟨by first | rfl | simp, b0⟩
end Go.Proofs.Ytbiniecjenencaa
