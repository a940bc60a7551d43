/-
  The plain laws of strings under the twig statements: how far two lists of bytes go together, the order byte by byte, the least above all that begin so. No program in sight.
-/
import GoSem.Op.String
namespace Go.Proofs.Ytcalklfkihjipaa
open Go.Op

/-- how far two go together -/
def com : List UInt8 → List UInt8 → Nat
  | x :: xs, y :: ys => if x = y then com xs ys + 1 else 0
  | _, _ => 0

/-- the least above all that begin so -/
def above : List UInt8 → Option (List UInt8)
  | [] => none
  | c :: t => match above t with
    | some u => some (c :: u)
    | none => if c = 255 then none else some [c + 1]

theorem com_le_left (a b : List UInt8) : com a b ≤ a.length := by
  induction a generalizing b with
  | nil => simp [com]
  | cons x xs ih =>
    cases b with
    | nil => simp [com]
    | cons y ys => simp only [com]; split <;> simp [ih]

theorem com_comm (a b : List UInt8) : com a b = com b a := by
  induction a generalizing b with
  | nil => cases b <;> simp [com]
  | cons x xs ih =>
    cases b with
    | nil => simp [com]
    | cons y ys =>
      simp only [com]
      by_cases h : x = y
      · simp [h, ih]
      · simp [h, Ne.symm h]

theorem com_le_right (a b : List UInt8) : com a b ≤ b.length := by
  rw [com_comm]; exact com_le_left b a

theorem com_append (a m : List UInt8) : com (a ++ m) a = a.length := by
  induction a with
  | nil => cases m <;> simp [com]
  | cons x xs ih => simp [com, ih]

theorem com_self (a : List UInt8) : com a a = a.length := by
  have := com_append a []; simpa using this

theorem com_nil (a : List UInt8) : com a [] = 0 := by cases a <;> simp [com]

/-- behind where they part they have nothing in common -/
theorem com_drop (a b : List UInt8) : com (a.drop (com a b)) (b.drop (com a b)) = 0 := by
  induction a generalizing b with
  | nil => simp [com]
  | cons x xs ih =>
    cases b with
    | nil => simp [com]
    | cons y ys =>
      simp only [com]
      by_cases h : x = y
      · simp [h, ih]
      · simp [h, com]

theorem less_drop (a b : List UInt8) : bytesLess a b = bytesLess (a.drop (com a b)) (b.drop (com a b)) := by
  induction a generalizing b with
  | nil => simp [com]
  | cons x xs ih =>
    cases b with
    | nil => simp [com]
    | cons y ys =>
      simp only [com]
      by_cases h : x = y
      · subst h; simp [bytesLess, ← ih]
      · simp [h]

theorem less_irrefl (a : List UInt8) : bytesLess a a = false := by
  induction a with
  | nil => rfl
  | cons x xs ih => simp [bytesLess, ih]

theorem not_less_append (a m : List UInt8) : bytesLess (a ++ m) a = false := by
  induction a with
  | nil => simp [bytesLess]
  | cons x xs ih => simp [bytesLess, ih]

theorem less_cons (x y : UInt8) (a b : List UInt8) : bytesLess (x :: a) (y :: b) = true ↔ x < y ∨ x = y ∧ bytesLess a b = true := by
  simp [bytesLess]

/-- from not above s, s below to: from below to -/
theorem less_of (f s t : List UInt8) (h1 : bytesLess s f = false) (h2 : bytesLess s t = true) : bytesLess f t = true := by
  induction s generalizing f t with
  | nil =>
    cases f with
    | nil => exact h2
    | cons x xs => simp [bytesLess] at h1
  | cons x xs ih =>
    cases t with
    | nil => simp [bytesLess] at h2
    | cons y ys =>
      cases f with
      | nil => simp [bytesLess]
      | cons z zs =>
        rw [less_cons] at h2 ⊢
        rw [Bool.eq_false_iff, Ne, less_cons] at h1
        by_cases hzx : z = x
        · subst hzx
          rcases h2 with h2 | ⟨rfl, h2⟩
          · exact .inl h2
          · refine .inr ⟨rfl, ih zs ys ?_ h2⟩
            rw [Bool.eq_false_iff]; intro h; exact h1 (.inr ⟨rfl, h⟩)
        · have hlt : z < x := by
            have : ¬ x < z := fun h => h1 (.inl h)
            simp only [UInt8.lt_iff_toNat_lt] at *
            have hne : z.toNat ≠ x.toNat := fun h => hzx (UInt8.toNat_inj.1 h)
            omega
          rcases h2 with h2 | ⟨rfl, _⟩
          · left; simp only [UInt8.lt_iff_toNat_lt] at *; omega
          · exact .inl hlt

theorem not_less_of_com (o s : List UInt8) (h : com o s = s.length) : bytesLess o s = false := by
  induction s generalizing o with
  | nil => cases o <;> rfl
  | cons c t ih =>
    cases o with
    | nil => simp [com] at h
    | cons d o =>
      simp only [com] at h
      split at h
      · rename_i hd; subst hd; simp [bytesLess, ih o (by simpa using h)]
      · simp at h

theorem above_none (s : List UInt8) (h : above s = none) (o : List UInt8) : bytesLess o s = true ∨ com o s = s.length := by
  induction s generalizing o with
  | nil => right; simp [com_nil]
  | cons c t ih =>
    cases ht : above t with
    | some u => simp [above, ht] at h
    | none =>
      simp only [above, ht] at h
      split at h
      · rename_i hc; subst hc
        cases o with
        | nil => left; rfl
        | cons d o =>
          by_cases hd : d = 255
          · subst hd
            rcases ih ht o with g | g
            · left; simp [bytesLess, g]
            · right; simp [com, g]
          · left; rw [less_cons]; left
            rw [UInt8.lt_iff_toNat_lt]
            have h1 := d.toNat_lt
            have h2 : d.toNat ≠ (255 : UInt8).toNat := fun h => hd (UInt8.toNat_inj.1 h)
            simp at h2 ⊢; omega
      · simp at h

theorem lt_succ (c : UInt8) (h : c ≠ 255) : c < c + 1 := by
  rw [UInt8.lt_iff_toNat_lt, UInt8.toNat_add]
  have h1 := c.toNat_lt
  have h2 : c.toNat ≠ (255 : UInt8).toNat := fun g => h (UInt8.toNat_inj.1 g)
  simp at h2 ⊢; omega

theorem above_less (s u m : List UInt8) (h : above s = some u) : bytesLess (s ++ m) u = true := by
  induction s generalizing u with
  | nil => simp [above] at h
  | cons c t ih =>
    cases ht : above t with
    | some v =>
      simp only [above, ht, Option.some.injEq] at h; subst h
      simp [bytesLess, ih v ht]
    | none =>
      simp only [above, ht] at h
      split at h
      · simp at h
      · rename_i hc
        simp only [Option.some.injEq] at h; subst h
        simp [bytesLess, lt_succ c hc]

theorem above_between (s u o : List UInt8) (h : above s = some u) : (com o s == s.length) = (!bytesLess o s && bytesLess o u) := by
  induction s generalizing u o with
  | nil => simp [above] at h
  | cons c t ih =>
    cases o with
    | nil => simp [com, bytesLess]
    | cons d o =>
      cases ht : above t with
      | some v =>
        simp only [above, ht, Option.some.injEq] at h; subst h
        have g := ih v o ht
        by_cases hd : d = c
        · subst hd
          simp only [com, if_pos, List.length_cons, bytesLess]
          simp only [UInt8.lt_irrefl, decide_false, Bool.false_or, beq_self_eq_true, Bool.true_and]
          rw [← g]; simp
        · simp only [com, if_neg hd, List.length_cons, bytesLess]
          have hb : (d == c) = false := by simp [hd]
          simp [hb]
      | none =>
        simp only [above, ht] at h
        split at h
        · simp at h
        · rename_i hc
          simp only [Option.some.injEq] at h; subst h
          by_cases hd : d = c
          · subst hd
            have e : bytesLess (d :: o) [d + 1] = true := by rw [less_cons]; exact .inl (lt_succ d hc)
            rw [e]
            simp only [com, if_pos, List.length_cons, bytesLess, UInt8.lt_irrefl, decide_false, Bool.false_or, beq_self_eq_true, Bool.true_and, Bool.and_true]
            rcases above_none t ht o with g | g
            · rw [g]
              have : com o t ≠ t.length := fun k => by simp [not_less_of_com o t k] at g
              simp [this]
            · rw [not_less_of_com o t g]; simp [g]
          · have hb : (d == c) = false := by simp [hd]
            simp only [com, if_neg hd, List.length_cons]
            have e1 : bytesLess (d :: o) (c :: t) = decide (d < c) := by simp [bytesLess, hb]
            rw [e1]
            by_cases hlt : d < c
            · simp [hlt]
            · have e2 : bytesLess (d :: o) [c + 1] = false := by
                rw [Bool.eq_false_iff, Ne, less_cons]
                rintro (k | ⟨_, k⟩)
                · rw [UInt8.lt_iff_toNat_lt] at k hlt
                  have h3 := UInt8.toNat_add c 1
                  have hn : d.toNat ≠ c.toNat := fun g => hd (UInt8.toNat_inj.1 g)
                  have h1 := c.toNat_lt
                  have h4 : (1 : UInt8).toNat = 1 := rfl
                  omega
                · simp [bytesLess] at k
              simp [e2]

theorem above_append_some (a m : List UInt8) (h : above a ≠ none) : above (a ++ m) ≠ none := by
  induction a with
  | nil => simp [above] at h
  | cons c t ih =>
    simp only [List.cons_append, above]
    cases ht : above t with
    | some u =>
      have := ih (by simp [ht])
      cases hm : above (t ++ m) with
      | none => exact absurd hm this
      | some v => simp
    | none =>
      cases hm : above (t ++ m) with
      | none =>
        simp only [above, ht] at h ⊢; exact h
      | some v => simp

theorem above_append (a m u v : List UInt8) (h : above a = some u) (g : above (a ++ m) = some v) : bytesLess u v = false := by
  induction a generalizing u v with
  | nil => simp [above] at h
  | cons c t ih =>
    simp only [List.cons_append, above] at h g
    cases ht : above t with
    | some u' =>
      simp only [ht, Option.some.injEq] at h; subst h
      cases hm : above (t ++ m) with
      | none => exact absurd hm (above_append_some t m (by simp [ht]))
      | some v' =>
        simp only [hm, Option.some.injEq] at g; subst g
        simp [bytesLess, ih u' v' ht hm]
    | none =>
      simp only [ht] at h
      split at h
      · simp at h
      · rename_i hc
        simp only [Option.some.injEq] at h; subst h
        have hlt := lt_succ c hc
        cases hm : above (t ++ m) with
        | none =>
          simp only [hm, hc, if_false, Option.some.injEq] at g; subst g
          exact less_irrefl _
        | some v' =>
          simp only [hm, Option.some.injEq] at g; subst g
          rw [Bool.eq_false_iff, Ne, less_cons]
          rintro (k | ⟨k, _⟩)
          · rw [UInt8.lt_iff_toNat_lt] at k hlt; omega
          · rw [k] at hlt; exact absurd hlt (UInt8.lt_irrefl _)

/-- from behind: a last byte -/
theorem above_snoc (l : List UInt8) (c : UInt8) : above (l ++ [c]) = if c = 255 then above l else some (l ++ [c + 1]) := by
  induction l with
  | nil => simp [above]
  | cons x l ih =>
    simp only [List.cons_append, above, ih]
    by_cases h : c = 255 <;> simp [h]

theorem above_len (l u : List UInt8) (h : above l = some u) : u.length ≤ l.length := by
  induction l generalizing u with
  | nil => simp [above] at h
  | cons c t ih =>
    simp only [above] at h
    cases ht : above t with
    | some v => simp only [ht, Option.some.injEq] at h; subst h; simpa using ih v ht
    | none =>
      simp only [ht] at h
      split at h
      · simp at h
      · simp only [Option.some.injEq] at h; subst h; simp

/-- as far as they go together they are alike -/
theorem com_same (a b : List UInt8) (n : Nat) (h : n < com a b) : n < a.length ∧ n < b.length ∧ a[n]? = b[n]? := by
  induction a generalizing b n with
  | nil => simp [com] at h
  | cons x xs ih =>
    cases b with
    | nil => simp [com] at h
    | cons y ys =>
      simp only [com] at h
      split at h
      · cases n with
        | zero => simp_all
        | succ n => have := ih ys n (by omega); simpa using this
      · omega

/-- where they part they differ, or one ends -/
theorem com_part (a b : List UInt8) (h1 : com a b < a.length) (h2 : com a b < b.length) : a[com a b]? ≠ b[com a b]? := by
  induction a generalizing b with
  | nil => simp [com] at h1
  | cons x xs ih =>
    cases b with
    | nil => simp [com] at h2
    | cons y ys =>
      by_cases hxy : x = y
      · have e : com (x :: xs) (y :: ys) = com xs ys + 1 := by simp [com, hxy]
        rw [e] at h1 h2
        simp only [e, List.getElem?_cons_succ]
        exact ih ys (by simpa using h1) (by simpa using h2)
      · have e : com (x :: xs) (y :: ys) = 0 := by simp [com, hxy]
        simpa [e] using hxy

theorem at_list (a : ByteArray) (k : Nat) (h : k < a.size) : a.data.toList[k]? = some a[k] := by
  rw [List.getElem?_eq_getElem (by simpa using h)]; rfl

theorem len_list (a : ByteArray) : a.data.toList.length = a.size := by
  rw [Array.length_toList]; rfl

/-- a round of the loops: they part here -/
theorem com_here (a b : ByteArray) (k : Nat) (h1 : k < a.size) (h2 : k < b.size) (hk : k ≤ com a.data.toList b.data.toList) (hne : (((a[k].toNat : Nat) : Int) != ((b[k].toNat : Nat) : Int)) = true) :
    com a.data.toList b.data.toList = k := by
  by_cases h : com a.data.toList b.data.toList = k
  · exact h
  · have := (com_same a.data.toList b.data.toList k (by omega)).2.2
    rw [at_list a k h1, at_list b k h2] at this
    simp only [Option.some.injEq] at this
    rw [this] at hne; simp at hne

theorem com_on (a b : ByteArray) (k : Nat) (h1 : k < a.size) (h2 : k < b.size) (hk : k ≤ com a.data.toList b.data.toList) (he : (((a[k].toNat : Nat) : Int) != ((b[k].toNat : Nat) : Int)) = false) :
    k + 1 ≤ com a.data.toList b.data.toList := by
  by_cases h : com a.data.toList b.data.toList = k
  · exfalso
    have := com_part a.data.toList b.data.toList (by rw [h, len_list]; exact h1) (by rw [h, len_list]; exact h2)
    rw [h, at_list a k h1, at_list b k h2] at this
    apply this
    simp only [bne_eq_false_iff_eq] at he
    rw [UInt8.toNat_inj.1 (by omega : a[k].toNat = b[k].toNat)]
  · omega

theorem com_end_left (a b : ByteArray) (k : Nat) (h1 : a.size ≤ k) (hk : k ≤ com a.data.toList b.data.toList) : com a.data.toList b.data.toList = k := by
  have := com_le_left a.data.toList b.data.toList
  rw [len_list] at this; omega
theorem com_end_right (a b : ByteArray) (k : Nat) (h1 : b.size ≤ k) (hk : k ≤ com a.data.toList b.data.toList) : com a.data.toList b.data.toList = k := by
  have := com_le_right a.data.toList b.data.toList
  rw [len_list] at this; omega

/-- the order, where they part -/
theorem less_here (a b : ByteArray) (k : Nat) (h1 : k < a.size) (h2 : k < b.size) (hk : com a.data.toList b.data.toList = k) :
    bytesLess a.data.toList b.data.toList = decide (((a[k].toNat : Nat) : Int) < ((b[k].toNat : Nat) : Int)) := by
  rw [less_drop, hk]
  have e1 : a.data.toList.drop k = a[k] :: a.data.toList.drop (k + 1) := by
    rw [List.drop_eq_getElem_cons (by simpa using h1)]; rfl
  have e2 : b.data.toList.drop k = b[k] :: b.data.toList.drop (k + 1) := by
    rw [List.drop_eq_getElem_cons (by simpa using h2)]; rfl
  have hne := com_part a.data.toList b.data.toList (by rw [hk, len_list]; exact h1) (by rw [hk, len_list]; exact h2)
  rw [hk, at_list a k h1, at_list b k h2] at hne
  have hne' : (a[k] == b[k]) = false := by simpa using hne
  rw [e1, e2, bytesLess, hne']
  simp only [Bool.false_and, Bool.or_false]
  rw [Bool.eq_iff_iff]; simp [UInt8.lt_iff_toNat_lt]

theorem less_end (a b : ByteArray) (h : com a.data.toList b.data.toList = a.size ∨ com a.data.toList b.data.toList = b.size) :
    bytesLess a.data.toList b.data.toList = decide ((a.size : Int) < (b.size : Int)) := by
  rw [less_drop]
  rcases h with h | h
  · rw [h]
    have e : a.data.toList.drop a.size = [] := List.drop_eq_nil_of_le (by rw [len_list]; exact Nat.le_refl _)
    rw [e]
    by_cases hl : a.size < b.size
    · obtain ⟨c, t, ht⟩ : ∃ c t, b.data.toList.drop a.size = c :: t := by
        cases hd : b.data.toList.drop a.size with
        | nil => rw [List.drop_eq_nil_iff, len_list] at hd; omega
        | cons c t => exact ⟨c, t, rfl⟩
      rw [ht]; simp [bytesLess]; omega
    · have e2 : b.data.toList.drop a.size = [] := List.drop_eq_nil_of_le (by rw [len_list]; omega)
      rw [e2]; simp [bytesLess]; omega
  · have e2 : b.data.toList.drop (com a.data.toList b.data.toList) = [] := List.drop_eq_nil_of_le (by rw [len_list, h]; exact Nat.le_refl _)
    rw [e2]
    have := com_le_left a.data.toList b.data.toList
    rw [len_list, h] at this
    have e3 : ∀ l : List UInt8, bytesLess l [] = false := fun l => by cases l <;> rfl
    rw [e3]; simp; omega

theorem less_here_nat (a b : ByteArray) (k : Nat) (h1 : k < a.size) (h2 : k < b.size) (hk : com a.data.toList b.data.toList = k) :
    bytesLess a.data.toList b.data.toList = decide (a[k].toNat < b[k].toNat) := by
  rw [less_here a b k h1 h2 hk, Bool.eq_iff_iff]; simp

theorem less_end_nat (a b : ByteArray) (h : com a.data.toList b.data.toList = a.size ∨ com a.data.toList b.data.toList = b.size) :
    bytesLess a.data.toList b.data.toList = decide (a.size < b.size) := by
  rw [less_end a b h, Bool.eq_iff_iff]; simp

theorem begins_of (a b : List UInt8) : (com a b == b.length) = b.isPrefixOf a := by
  induction b generalizing a with
  | nil => simp [com_nil]
  | cons y ys ih =>
    cases a with
    | nil => simp [com]
    | cons x xs =>
      by_cases h : x = y
      · simp [com, h, List.isPrefixOf, ← ih]
      · simp [com, h, List.isPrefixOf, Ne.symm h]

end Go.Proofs.Ytcalklfkihjipaa
