/- append(x, make([]T, n)...) onto a slice of the call's own: the builtin takes the number n. -/
import Derived.Test.YtoggjieagnlneaaOOwn
import Derived.Lib.AppendZeros
set_option linter.unusedVariables false
set_option linter.unusedSimpArgs false
namespace Go.Proofs.Ytoggjieagnlneaa
open Go.RowKit
section
variable {P : Program} (w : World)
theorem one_zeroCells (z : Value) (n : Nat) (hz : ∀ u ∈ z.cells.toList, u.oneCell' = true) : ∀ u ∈ (Builtin.zeroCells z.cells n).toList, u.oneCell' = true := by
  intro u hu
  unfold Builtin.zeroCells at hu
  simp only [Array.toList_map, List.mem_map] at hu
  obtain ⟨i, hi, rfl⟩ := hu
  simp at hi
  have hs : 0 < z.cells.size := Nat.pos_of_mul_pos_left (Nat.lt_of_le_of_lt (Nat.zero_le _) hi)
  have hm := Nat.mod_lt i hs
  rw [getElem!_pos z.cells _ hm]
  exact hz _ (by simp)
theorem run_append_own_zeros (base : Nat) (t tx ty e : TypeId) (i : TypeInfo) (z : Value) (size bytes : Nat) (ht : P.underlying t = some (.slice e)) (hx : P.underlying tx = some (.int .i64)) (hi : P.info? e = some i) (hz : i.zero = some z)
    (hsize : i.size = size) (hby : i.bytes = bytes) (hzs : z.cells.size = size) (hsz : 0 < size) (hzo : ∀ u ∈ z.cells.toList, u.oneCell' = true)
    (g n cap : Nat) (xs : List Value) (hown : w.ownsRow base e size (.slice (some ⟨g, 0, none⟩) n cap) n xs)
    (m : Nat) (h0 : 0 < m)
    (h63 : n + m ≤ maxLen) (hbytes : (n + m) * bytes ≤ 140737488355328) (hbase : base ≤ w.heap.size) :
    ∃ v' w', (Builtin.append_ #[t, tx] ty #[.slice (some ⟨g, 0, none⟩) n cap, .int .i64 (m : Int)]).run P w = .ok v' w' ∧ w'.ownsRow base e size v' (n + m) (xs ++ (Builtin.zeroCells z.cells m).toList) ∧ w.grownBy w' (some g) ∧ (v'.ownBlock = some g ∨ v'.ownBlock = some w.heap.size) := by
  subst hsize
  subst hby
  obtain ⟨news, hnews⟩ : ∃ news, (Builtin.zeroCells z.cells m).toList = news := ⟨_, rfl⟩
  have hone : ∀ u ∈ news, u.oneCell' = true := hnews ▸ one_zeroCells z m hzo
  have hl : news.length = m * i.size := by rw [← hnews, Array.length_toList, size_zeroCells, hzs]
  have hsmall : ((n + m : Nat) : Int) ≤ 9223372036854775807 := by simp only [maxLen] at h63; omega
  have hlen : (xs ++ news).length = (n + m) * i.size := by rw [List.length_append, hown.1, hl, Nat.add_mul]
  have hw : IntKind.i64.wrap (m : Int) = m := by rw [IntKind.wrap_i64]; omega
  have hneg : ¬ ((m : Int) < 0) := by omega
  have hns : ¬ (m * i.size = 0) := Nat.mul_ne_zero (by omega) (by omega)
  have hmb : m * i.bytes ≤ 140737488355328 := Nat.le_trans (Nat.mul_le_mul_right _ (Nat.le_add_left m n)) hbytes
  have h48i : ¬ (281474976710656 < (m : Int) * (i.bytes : Int)) := by rw [← Int.natCast_mul]; omega
  have hza : Builtin.zeroCells z.cells m = news.toArray := by rw [← hnews]
  rw [hnews]
  rcases hown.2 with ⟨hv, _⟩ | ⟨g', cap', cur, hv, hbg, hg, hnc, hcm, hcs, htake⟩
  · simp at hv
  · simp only [Value.slice.injEq, Option.some.injEq, Addr.mk.injEq, and_true, true_and] at hv
    obtain ⟨rfl, rfl⟩ := hv
    have hci : Cs w (some ⟨g, 0, none⟩) xs := owns_cs hown
    by_cases hroom : n + m ≤ cap
    · have hfit : n * i.size + news.length ≤ cur.size := by rw [hl, hcs, ← Nat.add_mul]; exact Nat.mul_le_mul_right _ hroom
      have hst := run_storeCells_at P g (n * i.size) e news 0 cur w hg (by simpa using hfit) hone
      simp only [Nat.add_zero] at hst
      have hr : (Builtin.append_ #[t, tx] ty #[.slice (some ⟨g, 0, none⟩) n cap, .int .i64 (m : Int)]).run P w = .ok (.slice (some ⟨g, 0, none⟩) (n + m) cap) (w.setRow g (cur.toList.take (n * i.size) ++ news ++ cur.toList.drop (n * i.size + news.length)).toArray) := by
        simp [Builtin.append_, run_underlying ht, run_underlying hx, sizeOf, typeInfo, zeroValue, hi, hz, asInt, asIntOf, hw, hneg, hns, h48i, hroom, hza, Addr.add_lit, hst]
      refine ⟨_, _, hr, ⟨hlen, .inr ⟨g, cap, _, rfl, hbg, setRow_heap w g cur _ e _ hg, hroom, hcm, ?_, ?_⟩⟩, ⟨rfl, rfl, rfl, by simp, fun k _ hk => setRow_other w g k _ (fun e => hk (by rw [e]))⟩, .inl rfl⟩
      · simp only [List.size_toArray, List.length_append, List.length_take, List.length_drop, Array.length_toList]
        omega
      · rw [htake, ← hlen]
        exact List.take_left
    · have hold := firstCells_cs (P := P) (w := w.drew) (cap := cap) (size := i.size) (n := n) hci.drew hown.1
      have hn : ¬ (n + m ≤ cap) := hroom
      have h63' : ¬ (9223372036854775807 < ((n : Int) + (m : Int))) := by omega
      have hfit := growslice_fits (need := n + m) (old := cap) (bytes := i.bytes) (by omega) hbytes
      have h48' : ¬ (281474976710656 < Builtin.nextslicecap (n + m) cap * i.bytes) := by omega
      have hge := grownCap_ge w (n + m) cap e
      have hcm2 : grownCap w (n + m) cap e ≤ maxLen := grownCap_le_maxLen w (n + m) cap e h63
      have hr : (Builtin.append_ #[t, tx] ty #[.slice (some ⟨g, 0, none⟩) n cap, .int .i64 (m : Int)]).run P w = .ok (.slice (some ⟨w.heap.size, 0, none⟩) (n + m) (grownCap w (n + m) cap e))
          (w.drew.alloc (.cells ((xs ++ news).toArray ++ Builtin.zeroCells z.cells (grownCap w (n + m) cap e - (n + m))) e)) := by
        simp [Builtin.append_, run_underlying ht, run_underlying hx, sizeOf, typeInfo, zeroValue, hi, hz, asInt, asIntOf, hw, hneg, hns, h48i, hn, h63', h48', Question.forced, hold, hza, newRow, grownCap]
        try (congr 2; apply Array.ext'; simp [List.append_assoc])
      refine ⟨_, _, hr, ⟨hlen, .inr ⟨w.heap.size, _, _, rfl, hbase, _root_.Go.heap_alloc_new w.drew _, hge, hcm2, ?_, ?_⟩⟩, ⟨rfl, rfl, rfl, by simp, fun k hk _ => Below.heap_alloc w.drew _ k hk⟩, .inr rfl⟩
      · simp only [Array.size_append, List.size_toArray, size_zeroCells, hzs, hlen, ← Nat.add_mul]
        congr 1
        omega
      · simp only [Array.toList_append]
        rw [← hlen]
        exact List.take_left
end
def zV : Value := .agg #[.int .u8 0, .int .i64 0, .string ⟨#[]⟩]
theorem vcells_rep (m : Nat) : vcells (List.replicate m ⟨0, 0, ⟨#[]⟩⟩) = (List.range (m * 3)).map (fun i => (zV.cells)[i % 3]!) := by
  induction m with
  | zero => rfl
  | succ m ih =>
    rw [List.replicate_succ', vcells_append, ih, show (m + 1) * 3 = m * 3 + 1 + 1 + 1 by omega, List.range_succ, List.range_succ, List.range_succ]
    simp only [List.map_append, List.map_cons, List.map_nil, List.append_assoc]
    congr 1
    rw [show m * 3 % 3 = 0 by omega, show (m * 3 + 1) % 3 = 1 by omega, show (m * 3 + 1 + 1) % 3 = 2 by omega]
    rfl
theorem zeroV (m : Nat) : (Builtin.zeroCells zV.cells m).toList = vcells (List.replicate m ⟨0, 0, ⟨#[]⟩⟩) := by
  rw [vcells_rep]
  unfold Builtin.zeroCells
  simp only [Array.toList_map, Array.toList_range]
  rfl
/-- append of so many zero values, onto values of the call's own. -/
theorem app_zs {w : World} {ops : Array Oper} {rest : List Oper} {o : Oper} {a : Act} {Q : Exit → Act → World → Prop} (w0 : World) (s x : Operand)
    (hgd : Region.wanted o (yielded ops a.tmps) = true) (ho : o.op = .call { callee := .builtin .append, args := #[s, x], argTypes := #[23, 3] })
    {g n cap : Nat} {l : List V} (hown : OwnV w0 w (.slice (some ⟨g, 0, none⟩) n cap) n l) (hs : a.eval s = .slice (some ⟨g, 0, none⟩) n cap)
    {m : Nat} (hx : a.eval x = .int .i64 (m : Int)) (h0 : 0 < m) (hb : (n + m) * 32 ≤ 140737488355328)
    (h : ∀ g' cap w', OwnV w0 w' (.slice (some ⟨g', 0, none⟩) (n + m) cap) (n + m) (l ++ List.replicate m ⟨0, 0, ⟨#[]⟩⟩) → w.grownBy w' (some g) → (g' = g ∨ w.heap.size ≤ g') → wpList Try.prog ops Q rest (a.put o.dst (.slice (some ⟨g', 0, none⟩) (n + m) cap)) w') :
    wpList Try.prog ops Q (o :: rest) a w := by
  refine wpList_want hgd fun K hK => ?_
  obtain ⟨i, hi, hz, hsize, hby⟩ := info_parts Try.infoV
  obtain ⟨v', w', hr, h2, h3, h4⟩ := run_append_own_zeros (P := Try.prog) w w0.heap.size 23 3 o.type 32 i zV 3 32 Try.underlying23 Try.underlying3 hi hz hsize hby rfl (by decide) (by intro u hu; simp [zV, Value.cells] at hu; rcases hu with rfl | rfl | rfl <;> rfl) g n cap (vcells l) hown.1 m h0 (by unfold maxLen; omega) hb hown.le
  rw [zeroV, ← vcells_append] at h2
  have hsh : ∃ g' c, v' = .slice (some ⟨g', 0, none⟩) (n + m) c := by
    obtain ⟨ao, c, e, _⟩ := owns_shape h2
    obtain ⟨_, g', e2, _⟩ := owns_at (e ▸ h2) (by omega)
    exact ⟨g', c, by rw [e, e2]⟩
  obtain ⟨g', c, rfl⟩ := hsh
  unfold Oper.wp execOp
  simp only [ho, resolve, invoke, builtin, Sem.run_bind, Sem.run_pure, Result.andThen_ok, List.map_toArray, List.map_cons, List.map_nil, hs, hx, hr]
  refine hK _ _ (h g' c w' ⟨h2, hown.2.grown h3 hown.le (fun k hk => by cases hk; exact Own.ge hown g rfl)⟩ h3 ?_)
  rcases h4 with h4 | h4
  · exact .inl (Option.some.inj h4)
  · exact .inr (Nat.le_of_eq (Option.some.inj h4).symm)
end Go.Proofs.Ytoggjieagnlneaa
