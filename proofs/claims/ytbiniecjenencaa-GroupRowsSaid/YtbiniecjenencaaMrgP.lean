/- Two lists in order as one, and what is sorted in parts: plain. -/
import Derived.Test.YtbiniecjenencaaInsP
set_option linter.unusedVariables false
set_option linter.unusedSimpArgs false
set_option maxRecDepth 10000
namespace Go.Proofs.Ytbiniecjenencaa
def mergeS {α : Type} (c : α → α → Int) : List α → List α → List α
  | [], B => B
  | a :: A, [] => a :: A
  | a :: A, b :: B => if c a b ≤ 0 then a :: mergeS c A (b :: B) else b :: mergeS c (a :: A) B
termination_by A B => A.length + B.length
theorem mergeS_nil {α : Type} (c : α → α → Int) (A : List α) : mergeS c A [] = A := by cases A <;> simp [mergeS]
theorem nil_mergeS {α : Type} (c : α → α → Int) (B : List α) : mergeS c [] B = B := by simp [mergeS]
theorem mergeS_le {α : Type} (c : α → α → Int) (a b : α) (A B : List α) (h : c a b ≤ 0) : mergeS c (a :: A) (b :: B) = a :: mergeS c A (b :: B) := by rw [mergeS, if_pos h]
theorem mergeS_gt {α : Type} (c : α → α → Int) (a b : α) (A B : List α) (h : ¬ c a b ≤ 0) : mergeS c (a :: A) (b :: B) = b :: mergeS c (a :: A) B := by rw [mergeS, if_neg h]
theorem mergeS_perm {α : Type} (c : α → α → Int) : ∀ (A B : List α), (mergeS c A B).Perm (A ++ B)
  | [], B => by simp [mergeS]
  | a :: A, [] => by simp [mergeS]
  | a :: A, b :: B => by
    by_cases h : c a b ≤ 0
    · rw [mergeS_le c a b A B h]
      exact (mergeS_perm c A (b :: B)).cons a
    · rw [mergeS_gt c a b A B h]
      exact ((mergeS_perm c (a :: A) B).cons b).trans List.perm_middle.symm
termination_by A B => A.length + B.length
theorem mergeS_map {α β : Type} (f : α → β) (c : β → β → Int) : ∀ (A B : List α), (mergeS (fun a b => c (f a) (f b)) A B).map f = mergeS c (A.map f) (B.map f)
  | [], B => by simp [mergeS]
  | a :: A, [] => by simp [mergeS]
  | a :: A, b :: B => by
    by_cases h : c (f a) (f b) ≤ 0
    · rw [mergeS_le _ a b A B h, List.map_cons, List.map_cons, List.map_cons, mergeS_le c (f a) (f b) (A.map f) (B.map f) h, mergeS_map f c A (b :: B)]
      rfl
    · rw [mergeS_gt _ a b A B h, List.map_cons, List.map_cons, List.map_cons, mergeS_gt c (f a) (f b) (A.map f) (B.map f) h, mergeS_map f c (a :: A) B]
      rfl
termination_by A B => A.length + B.length
theorem mergeS_length {α : Type} (c : α → α → Int) (A B : List α) : (mergeS c A B).length = A.length + B.length := by rw [(mergeS_perm c A B).length_eq, List.length_append]
section
variable {α : Type} (c : α → α → Int)
/-- In order: none comes behind one that it should come ahead of. -/
def Asc (A : List α) : Prop := A.Pairwise (fun a b => c a b ≤ 0)
theorem mergeS_split : ∀ (A1 B1 A2 B2 : List α), (∀ a ∈ A1, ∀ b ∈ B2, c a b ≤ 0) → (∀ b ∈ B1, ∀ a ∈ A2, 0 < c a b) → mergeS c (A1 ++ A2) (B1 ++ B2) = mergeS c A1 B1 ++ mergeS c A2 B2
  | [], [], A2, B2, _, _ => by simp [mergeS]
  | [], b :: B1, [], B2, _, _ => by simp [mergeS]
  | [], b :: B1, a :: A2, B2, h1, h2 => by
    have e := mergeS_split [] B1 (a :: A2) B2 h1 (fun y hy => h2 y (List.mem_cons_of_mem _ hy))
    have hp := h2 b (List.mem_cons_self ..) a (List.mem_cons_self ..)
    simp only [List.nil_append, List.cons_append] at e ⊢
    rw [mergeS_gt c a b A2 (B1 ++ B2) (by omega), e, nil_mergeS, nil_mergeS, List.cons_append]
  | a :: A1, [], A2, [], _, _ => by simp [mergeS, mergeS_nil]
  | a :: A1, [], A2, b :: B2, h1, h2 => by
    have e := mergeS_split A1 [] A2 (b :: B2) (fun x hx => h1 x (List.mem_cons_of_mem _ hx)) h2
    have hp := h1 a (List.mem_cons_self ..) b (List.mem_cons_self ..)
    simp only [List.nil_append, List.cons_append] at e ⊢
    rw [mergeS_le c a b (A1 ++ A2) B2 hp, e, mergeS_nil, mergeS_nil, List.cons_append]
  | a :: A1, b :: B1, A2, B2, h1, h2 => by
    simp only [List.cons_append]
    by_cases h : c a b ≤ 0
    · have e := mergeS_split A1 (b :: B1) A2 B2 (fun x hx => h1 x (List.mem_cons_of_mem _ hx)) h2
      simp only [List.cons_append] at e
      rw [mergeS_le c a b _ _ h, mergeS_le c a b _ _ h, e, List.cons_append]
    · have e := mergeS_split (a :: A1) B1 A2 B2 h1 (fun y hy => h2 y (List.mem_cons_of_mem _ hy))
      simp only [List.cons_append] at e
      rw [mergeS_gt c a b _ _ h, mergeS_gt c a b _ _ h, e, List.cons_append]
termination_by A1 B1 => A1.length + B1.length
theorem mergeS_assoc (hneg : ∀ a b, c b a = - c a b) (htr : ∀ a b d, c a b ≤ 0 → c b d ≤ 0 → c a d ≤ 0) : ∀ (A B D : List α), mergeS c (mergeS c A B) D = mergeS c A (mergeS c B D)
  | [], B, D => by rw [nil_mergeS, nil_mergeS]
  | a :: A, [], D => by rw [mergeS_nil, nil_mergeS]
  | a :: A, b :: B, [] => by rw [mergeS_nil, mergeS_nil]
  | a :: A, b :: B, d :: D => by
    have i1 := mergeS_assoc hneg htr A (b :: B) (d :: D)
    have i2 := mergeS_assoc hneg htr (a :: A) B (d :: D)
    have i3 := mergeS_assoc hneg htr (a :: A) (b :: B) D
    have n1 := hneg b d
    have n2 := hneg a b
    by_cases hab : c a b ≤ 0
    · rw [mergeS_le c a b A B hab] at i3 ⊢
      by_cases had : c a d ≤ 0
      · rw [mergeS_le c a d _ D had, i1]
        by_cases hbd : c b d ≤ 0
        · rw [mergeS_le c b d B D hbd, mergeS_le c a b A _ hab]
        · rw [mergeS_gt c b d B D hbd, mergeS_le c a d A _ had]
      · rw [mergeS_gt c a d _ D had, i3]
        have hbd : ¬ c b d ≤ 0 := fun h => had (htr a b d hab h)
        rw [mergeS_gt c b d B D hbd, mergeS_gt c a d A _ had]
    · rw [mergeS_gt c a b A B hab] at i3 ⊢
      by_cases hbd : c b d ≤ 0
      · rw [mergeS_le c b d _ D hbd, mergeS_le c b d B D hbd, mergeS_gt c a b A _ hab, i2]
      · rw [mergeS_gt c b d _ D hbd, i3, mergeS_gt c b d B D hbd]
        have had : ¬ c a d ≤ 0 := fun h => hab (htr a d b h (by omega))
        rw [mergeS_gt c a d A _ had]
termination_by A B D => A.length + B.length + D.length
theorem mergeS_asc (hneg : ∀ a b, c b a = - c a b) (htr : ∀ a b d, c a b ≤ 0 → c b d ≤ 0 → c a d ≤ 0) : ∀ (A B : List α), Asc c A → Asc c B → Asc c (mergeS c A B)
  | [], B, _, hb => by rw [nil_mergeS]; exact hb
  | a :: A, [], ha, _ => by rw [mergeS_nil]; exact ha
  | a :: A, b :: B, ha, hb => by
    have n2 := hneg a b
    have ha2 := List.pairwise_cons.1 ha
    have hb2 := List.pairwise_cons.1 hb
    by_cases hab : c a b ≤ 0
    · rw [mergeS_le c a b A B hab]
      refine List.pairwise_cons.2 ⟨fun x hx => ?_, mergeS_asc hneg htr A (b :: B) ha2.2 hb⟩
      rcases List.mem_append.1 ((mergeS_perm c A (b :: B)).mem_iff.1 hx) with h | h
      · exact ha2.1 x h
      · rcases List.mem_cons.1 h with rfl | h
        · exact hab
        · exact htr _ _ _ hab (hb2.1 x h)
    · rw [mergeS_gt c a b A B hab]
      refine List.pairwise_cons.2 ⟨fun x hx => ?_, mergeS_asc hneg htr (a :: A) B ha hb2.2⟩
      rcases List.mem_append.1 ((mergeS_perm c (a :: A) B).mem_iff.1 hx) with h | h
      · rcases List.mem_cons.1 h with rfl | h
        · omega
        · exact htr _ a _ (by omega) (ha2.1 x h)
      · exact hb2.1 x h
termination_by A B => A.length + B.length
theorem insB_merge (hneg : ∀ a b, c b a = - c a b) (htr : ∀ a b d, c a b ≤ 0 → c b d ≤ 0 → c a d ≤ 0) (x : α) (S : List α) : Asc c S → insB c x S = mergeS c S [x] := by
  refine snoc_ind (q := fun S => Asc c S → insB c x S = mergeS c S [x]) (fun _ => ?_) (fun S y ih hS => ?_) S
  · rw [nil_mergeS]; rfl
  · have h1 := List.pairwise_append.1 hS
    have ny := hneg y x
    have eI : insB c x (S ++ [y]) = if c x y < 0 then insB c x S ++ [y] else S ++ [y] ++ [x] := by
      unfold insB
      rw [List.reverse_append]
      show (insR c x (y :: S.reverse)).reverse = _
      rw [insR]
      split <;> simp
    rw [eI]
    split
    · rename_i h
      have e := mergeS_split c S [x] [y] [] (by simp) (fun b hb a ha => by
        rw [List.mem_singleton.1 hb, List.mem_singleton.1 ha]; omega)
      rw [List.append_nil, mergeS_nil] at e
      rw [e, ih h1.1]
    · rename_i h
      have e := mergeS_split c (S ++ [y]) [] [] [x] (fun a ha b hb => by
        rw [List.mem_singleton.1 hb]
        rcases List.mem_append.1 ha with ha | ha
        · exact htr a y x (h1.2.2 a ha y (List.mem_singleton.2 rfl)) (by omega)
        · rw [List.mem_singleton.1 ha]; omega) (by simp)
      rw [List.append_nil, List.nil_append, mergeS_nil, nil_mergeS] at e
      rw [e]
theorem sortB_asc (hneg : ∀ a b, c b a = - c a b) (htr : ∀ a b d, c a b ≤ 0 → c b d ≤ 0 → c a d ≤ 0) (S : List α) : Asc c (sortB c S) := by
  refine snoc_ind (q := fun S => Asc c (sortB c S)) List.Pairwise.nil (fun S y ih => ?_) S
  rw [sortB_snoc, insB_merge c hneg htr y _ ih]
  exact mergeS_asc c hneg htr _ _ ih (List.pairwise_singleton _ _)
theorem sortB_app (hneg : ∀ a b, c b a = - c a b) (htr : ∀ a b d, c a b ≤ 0 → c b d ≤ 0 → c a d ≤ 0) (A B : List α) : sortB c (A ++ B) = mergeS c (sortB c A) (sortB c B) := by
  refine snoc_ind (q := fun B => sortB c (A ++ B) = mergeS c (sortB c A) (sortB c B)) ?_ (fun B y ih => ?_) B
  · rw [List.append_nil]; exact (mergeS_nil c _).symm
  · rw [← List.append_assoc, sortB_snoc, insB_merge c hneg htr y _ (sortB_asc c hneg htr _), ih, mergeS_assoc c hneg htr, sortB_snoc, insB_merge c hneg htr y _ (sortB_asc c hneg htr _)]
/-- What is in order stays. -/
theorem sortB_of_asc (hneg : ∀ a b, c b a = - c a b) (htr : ∀ a b d, c a b ≤ 0 → c b d ≤ 0 → c a d ≤ 0) (S : List α) : Asc c S → sortB c S = S := by
  refine snoc_ind (q := fun S => Asc c S → sortB c S = S) (fun _ => rfl) (fun S y ih hS => ?_) S
  have h1 := List.pairwise_append.1 hS
  rw [sortB_snoc, ih h1.1, insB_merge c hneg htr y S h1.1]
  have e := mergeS_split c S [] [] [y] (fun a ha b hb => h1.2.2 a ha b hb) (by simp)
  rw [List.append_nil, List.nil_append, mergeS_nil, nil_mergeS] at e
  exact e
/-- Sorted by blocks of so many. -/
def blkS (bs : Nat) (L : List α) : List α := if h : L.length < bs ∨ bs = 0 then sortB c L else sortB c (L.take bs) ++ blkS bs (L.drop bs)
termination_by L.length
decreasing_by rw [List.length_drop]; omega
theorem blkS_lt (bs : Nat) (L : List α) (h : L.length < bs) : blkS c bs L = sortB c L := by rw [blkS, dif_pos (.inl h)]
theorem blkS_ge (bs : Nat) (L : List α) (h : bs ≤ L.length) (h0 : 0 < bs) : blkS c bs L = sortB c (L.take bs) ++ blkS c bs (L.drop bs) := by rw [blkS, dif_neg (by omega)]
theorem blkS_nil (bs : Nat) : blkS c bs [] = [] := by
  rw [blkS]
  split
  · rfl
  · rename_i h; simp at h <;> omega
theorem blkS_le (bs : Nat) (L : List α) (h : L.length ≤ bs) (h0 : 0 < bs) : blkS c bs L = sortB c L := by
  rcases Nat.lt_or_ge L.length bs with h1 | h1
  · exact blkS_lt c bs L h1
  · rw [blkS_ge c bs L h1 h0, List.take_of_length_le h, List.drop_of_length_le h, blkS_nil, List.append_nil]
theorem blkS_length (bs : Nat) : ∀ (k : Nat) (L : List α), L.length ≤ k → (blkS c bs L).length = L.length
  | 0, L, hk => by
    obtain rfl : L = [] := List.eq_nil_of_length_eq_zero (by omega)
    rw [blkS_nil]
  | k + 1, L, hk => by
    rw [blkS]
    split
    · exact sortB_length c L
    · rw [List.length_append, sortB_length, blkS_length bs k _ (by rw [List.length_drop]; omega), ← List.length_append, List.take_append_drop]
/-- Two blocks, and those behind them. -/
theorem blkS_two (bs : Nat) (L : List α) (h : 2 * bs ≤ L.length) (h0 : 0 < bs) : blkS c bs L = sortB c (L.take bs) ++ sortB c ((L.drop bs).take bs) ++ blkS c bs (L.drop (2 * bs)) := by
  rw [blkS_ge c bs L (by omega) h0, blkS_ge c bs (L.drop bs) (by rw [List.length_drop]; omega) h0, List.drop_drop, List.append_assoc, show bs + bs = 2 * bs by omega]
theorem blkS_one (bs : Nat) (L : List α) (h : bs ≤ L.length) (h2 : L.length < 2 * bs) (h0 : 0 < bs) : blkS c bs L = sortB c (L.take bs) ++ sortB c (L.drop bs) := by
  rw [blkS_ge c bs L h h0, blkS_lt c bs (L.drop bs) (by rw [List.length_drop]; omega)]
theorem blkS_dbl (hneg : ∀ a b, c b a = - c a b) (htr : ∀ a b d, c a b ≤ 0 → c b d ≤ 0 → c a d ≤ 0) (bs : Nat) (L : List α) (h : 2 * bs ≤ L.length) (h0 : 0 < bs) :
    blkS c (2 * bs) L = mergeS c (sortB c (L.take bs)) (sortB c ((L.drop bs).take bs)) ++ blkS c (2 * bs) (L.drop (2 * bs)) := by
  rw [blkS_ge c (2 * bs) L h (by omega), ← sortB_app c hneg htr, show 2 * bs = bs + bs by omega, List.take_add]
theorem asc_take (L : List α) (hA : Asc c L) (p : α → Prop) (hp : ∀ z y, c z y ≤ 0 → p y → p z) (t : Nat) (h : t = 0 ∨ ∃ y, L[t - 1]? = some y ∧ p y) : ∀ z ∈ L.take t, p z := by
  rcases h with rfl | ⟨y, hy, py⟩
  · simp
  · rcases Nat.eq_zero_or_pos t with rfl | ht
    · simp
    · obtain ⟨hl, he⟩ := List.getElem?_eq_some_iff.1 hy
      have e : L.take t = L.take (t - 1) ++ [y] := by
        rw [show t = (t - 1) + 1 by omega, List.take_succ_eq_append_getElem hl, he]
        rfl
      have h1 : (L.take t).Pairwise (fun a b => c a b ≤ 0) := List.Pairwise.sublist (List.take_sublist _ _) hA
      rw [e] at h1 ⊢
      intro z hz
      rcases List.mem_append.1 hz with hz | hz
      · exact hp z y ((List.pairwise_append.1 h1).2.2 z hz y (List.mem_singleton.2 rfl)) py
      · rw [List.mem_singleton.1 hz]; exact py
theorem asc_drop (L : List α) (hA : Asc c L) (p : α → Prop) (hp : ∀ y z, c y z ≤ 0 → p y → p z) (t : Nat) (h : L.length ≤ t ∨ ∃ y, L[t]? = some y ∧ p y) : ∀ z ∈ L.drop t, p z := by
  rcases h with h | ⟨y, hy, py⟩
  · rw [List.drop_of_length_le h]; simp
  · obtain ⟨hl, he⟩ := List.getElem?_eq_some_iff.1 hy
    have h1 : (L.drop t).Pairwise (fun a b => c a b ≤ 0) := List.Pairwise.sublist (List.drop_sublist _ _) hA
    rw [List.drop_eq_getElem_cons hl, he] at h1 ⊢
    intro z hz
    rcases List.mem_cons.1 hz with rfl | hz
    · exact py
    · exact hp y z ((List.pairwise_cons.1 h1).1 z hz) py
/-- One ahead of many. -/
theorem merge_left (hneg : ∀ a b, c b a = - c a b) (htr : ∀ a b d, c a b ≤ 0 → c b d ≤ 0 → c a d ≤ 0) (x : α) (L : List α) (hA : Asc c L) (t : Nat) (h1 : t = 0 ∨ ∃ y, L[t - 1]? = some y ∧ c y x < 0) (h2 : L.length ≤ t ∨ ∃ y, L[t]? = some y ∧ ¬ c y x < 0) :
    mergeS c [x] L = L.take t ++ x :: L.drop t := by
  have g1 := asc_take c L hA (fun z => c z x < 0) (fun z y hzy hy => by
    rcases Int.lt_or_le (c z x) 0 with h | h
    · exact h
    · have := htr x z y (by rw [hneg z x]; omega) hzy
      rw [hneg y x] at this
      try simp only at hy
      omega) t h1
  have g2 := asc_drop c L hA (fun z => ¬ c z x < 0) (fun y z hyz hy => by
    have := htr x y z (by rw [hneg y x]; omega) hyz
    rw [hneg z x] at this
    omega) t h2
  have e := mergeS_split c [] (L.take t) [x] (L.drop t) (by simp) (fun b hb a ha => by
    rw [List.mem_singleton.1 ha, hneg b x]
    have := g1 b hb
    try simp only at this
    omega)
  have e2 := mergeS_split c [x] [] [] (L.drop t) (fun a ha b hb => by
    rw [List.mem_singleton.1 ha, hneg b x]
    have := g2 b hb
    try simp only at this
    omega) (by simp)
  simp only [List.nil_append, List.append_nil, List.take_append_drop, nil_mergeS, mergeS_nil] at e e2
  rw [e, e2]
  rfl
/-- Many ahead of one. -/
theorem merge_right (hneg : ∀ a b, c b a = - c a b) (htr : ∀ a b d, c a b ≤ 0 → c b d ≤ 0 → c a d ≤ 0) (y : α) (L : List α) (hA : Asc c L) (t : Nat) (h1 : t = 0 ∨ ∃ x, L[t - 1]? = some x ∧ ¬ c y x < 0) (h2 : L.length ≤ t ∨ ∃ x, L[t]? = some x ∧ c y x < 0) :
    mergeS c L [y] = L.take t ++ y :: L.drop t := by
  have g1 := asc_take c L hA (fun z => ¬ c y z < 0) (fun z x hzx hx => by
    have := htr z x y hzx (by rw [hneg y x]; omega)
    rw [hneg y z] at this
    omega) t h1
  have g2 := asc_drop c L hA (fun z => c y z < 0) (fun x z hxz hx => by
    rcases Int.lt_or_le (c y z) 0 with h | h
    · exact h
    · have := htr x z y hxz (by rw [hneg y z]; omega)
      rw [hneg y x] at this
      try simp only at hx
      omega) t h2
  have e := mergeS_split c (L.take t) [] (L.drop t) [y] (fun a ha b hb => by
    rw [List.mem_singleton.1 hb, hneg y a]
    have := g1 a ha
    try simp only at this
    omega) (by simp)
  have e2 := mergeS_split c [] [y] (L.drop t) [] (by simp) (fun b hb a ha => by
    rw [List.mem_singleton.1 hb, hneg y a]
    have := g2 a ha
    try simp only at this
    omega)
  simp only [List.nil_append, List.append_nil, List.take_append_drop, nil_mergeS, mergeS_nil] at e e2
  rw [e, e2]
  rfl
/-- Both cut in two: where the ways part. -/
theorem merge_cut (hneg : ∀ a b, c b a = - c a b) (htr : ∀ a b d, c a b ≤ 0 → c b d ≤ 0 → c a d ≤ 0) (A L : List α) (hA : Asc c A) (hL : Asc c L) (s e : Nat)
    (h1 : s = 0 ∨ L.length ≤ e ∨ ∃ x y, A[s - 1]? = some x ∧ L[e]? = some y ∧ ¬ c y x < 0) (h2 : A.length ≤ s ∨ e = 0 ∨ ∃ x y, A[s]? = some x ∧ L[e - 1]? = some y ∧ c y x < 0) :
    mergeS c A L = mergeS c (A.take s) (L.take e) ++ mergeS c (A.drop s) (L.drop e) := by
  have g1 : ∀ a ∈ A.take s, ∀ b ∈ L.drop e, c a b ≤ 0 := by
    rcases h1 with rfl | h1 | ⟨x, y, hx, hy, hc⟩
    · simp
    · rw [List.drop_of_length_le h1]; simp
    · have k1 := asc_take c A hA (fun z => c z y ≤ 0) (fun z u hzu hu => htr z u y hzu hu) s (.inr ⟨x, hx, by rw [hneg y x]; omega⟩)
      intro a ha
      exact asc_drop c L hL (fun z => c a z ≤ 0) (fun u z huz hu => htr a u z hu huz) e (.inr ⟨y, hy, k1 a ha⟩)
  have g2 : ∀ b ∈ L.take e, ∀ a ∈ A.drop s, 0 < c a b := by
    rcases h2 with h2 | rfl | ⟨x, y, hx, hy, hc⟩
    · rw [List.drop_of_length_le h2]; simp
    · simp
    · have k1 := asc_take c L hL (fun z => 0 < c x z) (fun z u hzu hu => by
        rcases Int.lt_or_le 0 (c x z) with h | h
        · exact h
        · have := htr x z u h hzu
          try simp only at hu
          omega) e (.inr ⟨y, hy, by rw [hneg y x]; omega⟩)
      intro b hb
      refine asc_drop c A hA (fun z => 0 < c z b) (fun u z huz hu => ?_) s (.inr ⟨x, hx, k1 b hb⟩)
      rcases Int.lt_or_le 0 (c z b) with h | h
      · exact h
      · have := htr u z b huz h
        try simp only at hu
        omega
  have := mergeS_split c (A.take s) (L.take e) (A.drop s) (L.drop e) g1 g2
  simpa only [List.take_append_drop] using this
end
end Go.Proofs.Ytbiniecjenencaa
