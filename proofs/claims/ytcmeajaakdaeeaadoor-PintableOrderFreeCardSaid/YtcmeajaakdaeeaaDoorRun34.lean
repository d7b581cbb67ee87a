/-
  Texts in one: TabPlain, TabPlain2.
-/
import Derived.Test.YtcmeajaakdaeeaaDoorRun30
/-
  Tables of pins as plain functions: sorted lists. No program stands in this text.
-/
namespace Go.Proofs.YtcmeajaakdaeeaaDoor.Tab

/-- Strictly ascending by host. -/
def Asc (L : List Pin) : Prop := L.Pairwise fun a b => Host.cmp a.h b.h < 0
/-- How many pins come before a host. -/
def lo (L : List Pin) (h : List UInt8) : Nat := (L.takeWhile fun p => decide (Host.cmp p.h h < 0)).length
/-- Whether the pin at this place is the host's. -/
def hit (L : List Pin) (h : List UInt8) : Bool := match L[lo L h]? with
  | some p => decide (p.h = h)
  | none => false
def put (L : List Pin) (cap : Int) (p : Pin) : List Pin × Int :=
  if Pin.valid p = false then (L, 1) else if hit L p.h then (L.set (lo L p.h) p, 0) else if (L.length : Int) = cap then (L, 11) else (L.take (lo L p.h) ++ p :: L.drop (lo L p.h), 0)
def remove (L : List Pin) (h : List UInt8) : List Pin × Bool := if hit L h then (L.take (lo L h) ++ L.drop (lo L h + 1), true) else (L, false)
def live (L : List Pin) (now : Int) : List Pin := L.filter fun p => decide (now < p.x)
/-- The check of a list of pins, from the place k on. -/
def chk (L : List Pin) : Nat → Nat → Int
  | 0, _ => 0
  | n + 1, k => match L[k]? with
    | none => 0
    | some p => if Pin.valid p = false then 1 else if 0 < k ∧ 0 ≤ Host.cmp (L.getD (k - 1) Pin.none).h p.h then 8 else chk L n (k + 1)
def load (L : List Pin) (cap : Int) : Int := if cap < 1 ∨ 1000 < cap then 2 else if cap < L.length then 11 else chk L L.length 0

theorem asc_at {L : List Pin} (h : Asc L) {i j : Nat} (hij : i < j) {a b : Pin} (ha : L[i]? = some a) (hb : L[j]? = some b) : Host.cmp a.h b.h < 0 := by
  obtain ⟨h1, rfl⟩ := List.getElem?_eq_some_iff.1 ha
  obtain ⟨h2, rfl⟩ := List.getElem?_eq_some_iff.1 hb
  exact List.pairwise_iff_getElem.1 h i j h1 h2 hij

theorem lo_le (L : List Pin) (h : List UInt8) : lo L h ≤ L.length := (List.takeWhile_sublist _).length_le
theorem lo_before : ∀ (L : List Pin) (h : List UInt8) (k : Nat), k < lo L h → ∃ p, L[k]? = some p ∧ Host.cmp p.h h < 0
  | [], h, k, hk => by simp [lo] at hk
  | p :: L, h, k, hk => by
    by_cases hp : Host.cmp p.h h < 0
    · cases k with
      | zero => exact ⟨p, rfl, hp⟩
      | succ k =>
        have e : lo (p :: L) h = lo L h + 1 := by unfold lo; rw [List.takeWhile_cons_of_pos (by simpa using hp)]; rfl
        rw [e] at hk
        obtain ⟨q, h1, h2⟩ := lo_before L h k (by omega)
        exact ⟨q, by simpa using h1, h2⟩
    · have e : lo (p :: L) h = 0 := by unfold lo; rw [List.takeWhile_cons_of_neg (by simpa using hp)]; rfl
      omega
theorem lo_at : ∀ (L : List Pin) (h : List UInt8) (p : Pin), L[lo L h]? = some p → ¬ Host.cmp p.h h < 0
  | [], h, p, e => by simp [lo] at e
  | q :: L, h, p, e => by
    by_cases hp : Host.cmp q.h h < 0
    · have e2 : lo (q :: L) h = lo L h + 1 := by unfold lo; rw [List.takeWhile_cons_of_pos (by simpa using hp)]; rfl
      rw [e2, List.getElem?_cons_succ] at e
      exact lo_at L h p e
    · have e2 : lo (q :: L) h = 0 := by unfold lo; rw [List.takeWhile_cons_of_neg (by simpa using hp)]; rfl
      rw [e2] at e
      cases e
      exact hp
/-- In a sorted list the pins before the place are those that come before the host. -/
theorem lo_iff {L : List Pin} (hL : Asc L) (h : List UInt8) {k : Nat} {p : Pin} (hk : L[k]? = some p) : Host.cmp p.h h < 0 ↔ k < lo L h := by
  constructor
  · intro hc
    rcases Nat.lt_trichotomy k (lo L h) with e | e | e
    · exact e
    · subst e; exact absurd hc (lo_at L h p hk)
    · have hkl := (List.getElem?_eq_some_iff.1 hk).1
      have hlt : lo L h < L.length := by omega
      have h1 := asc_at hL e (List.getElem?_eq_getElem hlt) hk
      exact absurd (Host.cmp_lt_trans h1 hc) (lo_at L h _ (List.getElem?_eq_getElem hlt))
  · intro hc
    obtain ⟨q, h1, h2⟩ := lo_before L h k hc
    rw [hk] at h1; cases h1; exact h2
/-- The place is the only one that fits. -/
theorem lo_eq {L : List Pin} {h : List UInt8} {k : Nat} (hk : k ≤ L.length) (h1 : ∀ i p, i < k → L[i]? = some p → Host.cmp p.h h < 0) (h2 : ∀ p, L[k]? = some p → ¬ Host.cmp p.h h < 0) : lo L h = k := by
  rcases Nat.lt_trichotomy (lo L h) k with e | e | e
  · have hlt : lo L h < L.length := by omega
    exact absurd (h1 _ _ e (List.getElem?_eq_getElem hlt)) (lo_at L h _ (List.getElem?_eq_getElem hlt))
  · exact e
  · obtain ⟨p, h3, h4⟩ := lo_before L h k e
    exact absurd h4 (h2 p h3)

theorem hit_iff {L : List Pin} (_hL : Asc L) (h : List UInt8) : hit L h = true ↔ ∃ p, L[lo L h]? = some p ∧ p.h = h := by
  unfold hit
  cases e : L[lo L h]? with
  | none => simp
  | some p => simp
/-- A pin of the host stands at the place. -/
theorem place {L : List Pin} (hL : Asc L) {k : Nat} {p : Pin} (hk : L[k]? = some p) : lo L p.h = k := by
  refine lo_eq (Nat.le_of_lt (List.getElem?_eq_some_iff.1 hk).1) (fun i q hi hq => asc_at hL hi hq hk) fun q hq => ?_
  rw [hk] at hq; cases hq
  rw [Host.cmp_self]; omega
theorem hit_mem {L : List Pin} (hL : Asc L) {k : Nat} {p : Pin} (hk : L[k]? = some p) : hit L p.h = true := by
  rw [hit_iff hL, place hL hk]; exact ⟨p, hk, rfl⟩
theorem hit_none {L : List Pin} (hL : Asc L) {h : List UInt8} (hn : hit L h = false) : ∀ p ∈ L, p.h ≠ h := by
  intro p hp e
  obtain ⟨k, hk, rfl⟩ := List.mem_iff_getElem.1 hp
  have := hit_mem hL (List.getElem?_eq_getElem hk)
  rw [e, hn] at this; cases this
theorem cmp_zero_iff (a b : List UInt8) : Host.cmp a b = 0 ↔ a = b := ⟨Host.cmp_eq, fun e => by rw [e, Host.cmp_self]⟩

theorem asc_take {L : List Pin} (h : Asc L) (k : Nat) : Asc (L.take k) := h.sublist (List.take_sublist _ _)
theorem asc_drop {L : List Pin} (h : Asc L) (k : Nat) : Asc (L.drop k) := h.sublist (List.drop_sublist _ _)
theorem asc_remove {L : List Pin} (h : Asc L) (k : Nat) : Asc (L.take k ++ L.drop (k + 1)) := by
  refine h.sublist ?_
  have : L.take k ++ L.drop (k + 1) = L.eraseIdx k := by rw [List.eraseIdx_eq_take_drop_succ]
  rw [this]; exact List.eraseIdx_sublist _ _
theorem asc_live {L : List Pin} (h : Asc L) (now : Int) : Asc (live L now) := h.sublist (List.filter_sublist)
theorem asc_set {L : List Pin} (hL : Asc L) {k : Nat} {p q : Pin} (hk : L[k]? = some q) (hh : q.h = p.h) : Asc (L.set k p) := by
  have hkl := (List.getElem?_eq_some_iff.1 hk).1
  rw [Asc, List.pairwise_iff_getElem]
  intro i j hi hj hij
  rw [List.length_set] at hi hj
  have g : ∀ m (hm : m < L.length), (((L.set k p)[m]'(by rw [List.length_set]; exact hm)).h) = (L[m]).h := by
    intro m hm
    rw [List.getElem_set]
    split
    · rename_i e; subst e
      have := (List.getElem?_eq_some_iff.1 hk).2
      rw [this, hh]
    · rfl
  rw [g i hi, g j hj]
  exact List.pairwise_iff_getElem.1 hL i j hi hj hij
theorem asc_insert {L : List Pin} (hL : Asc L) {p : Pin} (hn : hit L p.h = false) : Asc (L.take (lo L p.h) ++ p :: L.drop (lo L p.h)) := by
  have hlo := lo_le L p.h
  rw [Asc, List.pairwise_append, List.pairwise_cons]
  have key : ∀ x ∈ L.drop (lo L p.h), Host.cmp p.h x.h < 0 := by
    intro x hx
    obtain ⟨j, hj, rfl⟩ := List.mem_iff_getElem.1 hx
    rw [List.length_drop] at hj
    have hg : L[lo L p.h + j]? = some ((L.drop (lo L p.h))[j]'(by rw [List.length_drop]; exact hj)) := by
      rw [List.getElem_drop, List.getElem?_eq_getElem]
    have h1 : ¬ Host.cmp ((L.drop (lo L p.h))[j]'(by rw [List.length_drop]; exact hj)).h p.h < 0 := by
      rw [lo_iff hL p.h hg]; omega
    have h2 := Host.cmp_neg p.h ((L.drop (lo L p.h))[j]'(by rw [List.length_drop]; exact hj)).h
    have h3 : Host.cmp p.h ((L.drop (lo L p.h))[j]'(by rw [List.length_drop]; exact hj)).h ≠ 0 := by
      intro e
      exact hit_none hL hn _ (List.mem_of_getElem? hg) (Host.cmp_eq e).symm
    omega
  refine ⟨asc_take hL _, ⟨key, asc_drop hL _⟩, ?_⟩
  intro a ha b hb
  have ha' : Host.cmp a.h p.h < 0 := by
    obtain ⟨i, hi, rfl⟩ := List.mem_iff_getElem.1 ha
    rw [List.length_take] at hi
    have hg : L[i]? = some ((L.take (lo L p.h))[i]'(by rw [List.length_take]; exact hi)) := by
      rw [List.getElem_take, List.getElem?_eq_getElem]
    rw [lo_iff hL p.h hg]; omega
  rcases List.mem_cons.1 hb with e | e
  · rw [e]; exact ha'
  · exact Host.cmp_lt_trans ha' (key b e)

theorem put_asc {L : List Pin} (hL : Asc L) (cap : Int) (p : Pin) : Asc (put L cap p).1 := by
  unfold put
  split
  · exact hL
  · split
    · rename_i h
      obtain ⟨q, h1, h2⟩ := (hit_iff hL p.h).1 h
      exact asc_set hL h1 h2
    · split
      · exact hL
      · rename_i h _
        exact asc_insert hL (by simpa using h)
theorem remove_asc {L : List Pin} (hL : Asc L) (h : List UInt8) : Asc (remove L h).1 := by
  unfold remove
  split
  · exact asc_remove hL _
  · exact hL
theorem put_len {L : List Pin} {cap : Int} (hc : (L.length : Int) ≤ cap) (p : Pin) : ((put L cap p).1.length : Int) ≤ cap := by
  unfold put
  have hlo := lo_le L p.h
  split
  · exact hc
  · split
    · simpa using hc
    · split
      · exact hc
      · simp only [List.length_append, List.length_take, List.length_cons, List.length_drop]; omega
theorem remove_len (L : List Pin) (h : List UInt8) : (remove L h).1.length ≤ L.length := by
  unfold remove
  split
  · simp only [List.length_append, List.length_take, List.length_drop]; omega
  · exact Nat.le_refl _
theorem live_len (L : List Pin) (now : Int) : (live L now).length ≤ L.length := List.length_filter_le _ _

/-! ### What the check says -/
theorem chk_iff (L : List Pin) : ∀ n k, n + k = L.length → (chk L n k = 0 ↔ (∀ i p, k ≤ i → L[i]? = some p → Pin.valid p = true) ∧ ∀ i p q, k ≤ i + 1 → L[i]? = some p → L[i + 1]? = some q → Host.cmp p.h q.h < 0)
  | 0, k, hk => by
    refine ⟨fun _ => ⟨fun i p hi hp => ?_, fun i p q hi hp hq => ?_⟩, fun _ => rfl⟩
    · have := (List.getElem?_eq_some_iff.1 hp).1; omega
    · have := (List.getElem?_eq_some_iff.1 hq).1; omega
  | n + 1, k, hk => by
    have hkl : k < L.length := by omega
    have hg := List.getElem?_eq_getElem hkl
    have ih := chk_iff L n (k + 1) (by omega)
    rw [chk, hg]
    dsimp only
    by_cases hv : Pin.valid L[k] = false
    · rw [if_pos hv]
      refine ⟨(fun h => by cases h), fun h => ?_⟩
      rw [h.1 k _ (Nat.le_refl _) hg] at hv; cases hv
    · rw [if_neg hv]
      have hv' : Pin.valid L[k] = true := by simpa using hv
      by_cases hc : 0 < k ∧ 0 ≤ Host.cmp (L.getD (k - 1) Pin.none).h L[k].h
      · rw [if_pos hc]
        refine ⟨(fun h => by cases h), fun h => ?_⟩
        have hk1 : k - 1 < L.length := by omega
        have e1 : L.getD (k - 1) Pin.none = L[k - 1] := by rw [List.getD_eq_getElem?_getD, List.getElem?_eq_getElem hk1]; rfl
        have := h.2 (k - 1) _ _ (by omega) (List.getElem?_eq_getElem hk1) (by rw [show k - 1 + 1 = k by omega]; exact hg)
        rw [e1] at hc; omega
      · rw [if_neg hc, ih]
        constructor
        · rintro ⟨h1, h2⟩
          refine ⟨fun i p hi hp => ?_, fun i p q hi hp hq => ?_⟩
          · rcases Nat.eq_or_lt_of_le hi with e | e
            · subst e; rw [hg] at hp; cases hp; exact hv'
            · exact h1 i p e hp
          · rcases Nat.eq_or_lt_of_le hi with e | e
            · subst e
              rw [hg] at hq; cases hq
              have e1 : L.getD i Pin.none = p := by rw [List.getD_eq_getElem?_getD, hp]; rfl
              rw [Nat.add_sub_cancel, e1] at hc
              omega
            · exact h2 i p q (by omega) hp hq
        · rintro ⟨h1, h2⟩
          exact ⟨fun i p hi hp => h1 i p (by omega) hp, fun i p q hi hp hq => h2 i p q (by omega) hp hq⟩
theorem asc_of_next {L : List Pin} (h : ∀ i p q, L[i]? = some p → L[i + 1]? = some q → Host.cmp p.h q.h < 0) : Asc L := by
  rw [Asc, List.pairwise_iff_getElem]
  intro i j hi hj hij
  obtain ⟨d, rfl⟩ : ∃ d, j = i + 1 + d := ⟨j - (i + 1), by omega⟩
  clear hij
  induction d with
  | zero => exact h i _ _ (List.getElem?_eq_getElem hi) (List.getElem?_eq_getElem hj)
  | succ d ih =>
    have hd : i + 1 + d < L.length := by omega
    have h1 := ih hd
    have h2 := h (i + 1 + d) _ _ (List.getElem?_eq_getElem hd) (List.getElem?_eq_getElem (show i + 1 + d + 1 < L.length by omega))
    exact Host.cmp_lt_trans h1 h2
/-- A list is accepted exactly if its pins are valid and in order. -/
theorem chk_zero (L : List Pin) : chk L L.length 0 = 0 ↔ (∀ p ∈ L, Pin.valid p = true) ∧ Asc L := by
  rw [chk_iff L L.length 0 rfl]
  constructor
  · rintro ⟨h1, h2⟩
    refine ⟨fun p hp => ?_, asc_of_next fun i p q hp hq => h2 i p q (by omega) hp hq⟩
    obtain ⟨i, hi, rfl⟩ := List.mem_iff_getElem.1 hp
    exact h1 i _ (by omega) (List.getElem?_eq_getElem hi)
  · rintro ⟨h1, h2⟩
    exact ⟨fun i p _ hp => h1 p (List.mem_of_getElem? hp), fun i p q _ hp hq => asc_at h2 (by omega) hp hq⟩

end Go.Proofs.YtcmeajaakdaeeaaDoor.Tab

/-
  Tables of pins as plain functions: the reference's lists, what the operations leave, the order of putting. No program stands in this text.
-/
namespace Go.Proofs.YtcmeajaakdaeeaaDoor.Tab

/-! ### The reference's lists -/
def find (L : List Pin) (h : List UInt8) : Nat := (L.takeWhile fun p => decide (p.h ≠ h)).length
def rremove (L : List Pin) (h : List UInt8) : List Pin × Bool := if find L h < L.length then (L.take (find L h) ++ L.drop (find L h + 1), true) else (L, false)
def rput (L : List Pin) (p : Pin) (cap : Int) : List Pin × Int :=
  if Pin.valid p = false then (L, 1) else if (rremove L p.h).2 = false ∧ cap ≤ L.length then (L, 11) else
    ((rremove L p.h).1.take (lo (rremove L p.h).1 p.h) ++ p :: (rremove L p.h).1.drop (lo (rremove L p.h).1 p.h), 0)

theorem find_le (L : List Pin) (h : List UInt8) : find L h ≤ L.length := (List.takeWhile_sublist _).length_le
theorem find_before : ∀ (L : List Pin) (h : List UInt8) (k : Nat), k < find L h → ∃ p, L[k]? = some p ∧ p.h ≠ h
  | [], h, k, hk => by simp [find] at hk
  | p :: L, h, k, hk => by
    by_cases hp : p.h ≠ h
    · cases k with
      | zero => exact ⟨p, rfl, hp⟩
      | succ k =>
        have e : find (p :: L) h = find L h + 1 := by unfold find; rw [List.takeWhile_cons_of_pos (by simpa using hp)]; rfl
        rw [e] at hk
        obtain ⟨q, h1, h2⟩ := find_before L h k (by omega)
        exact ⟨q, by simpa using h1, h2⟩
    · have e : find (p :: L) h = 0 := by unfold find; rw [List.takeWhile_cons_of_neg (by simpa using hp)]; rfl
      omega
theorem find_at : ∀ (L : List Pin) (h : List UInt8) (p : Pin), L[find L h]? = some p → p.h = h
  | [], h, p, e => by simp [find] at e
  | q :: L, h, p, e => by
    by_cases hp : q.h ≠ h
    · have e2 : find (q :: L) h = find L h + 1 := by unfold find; rw [List.takeWhile_cons_of_pos (by simpa using hp)]; rfl
      rw [e2, List.getElem?_cons_succ] at e
      exact find_at L h p e
    · have e2 : find (q :: L) h = 0 := by unfold find; rw [List.takeWhile_cons_of_neg (by simpa using hp)]; rfl
      rw [e2] at e
      cases e
      simpa using hp
theorem find_eq {L : List Pin} {h : List UInt8} {k : Nat} (hk : k ≤ L.length) (h1 : ∀ i p, i < k → L[i]? = some p → p.h ≠ h) (h2 : ∀ p, L[k]? = some p → p.h = h) : find L h = k := by
  rcases Nat.lt_trichotomy (find L h) k with e | e | e
  · have hlt : find L h < L.length := by omega
    exact absurd (find_at L h _ (List.getElem?_eq_getElem hlt)) (h1 _ _ e (List.getElem?_eq_getElem hlt))
  · exact e
  · obtain ⟨p, h3, h4⟩ := find_before L h k e
    exact absurd (h2 p h3) h4
theorem find_hit {L : List Pin} (hL : Asc L) {h : List UInt8} (hh : hit L h = true) : find L h = lo L h := by
  obtain ⟨p, h1, h2⟩ := (hit_iff hL h).1 hh
  refine find_eq (lo_le L h) (fun i q hi hq e => ?_) (fun q hq => ?_)
  · obtain ⟨r, h3, h4⟩ := lo_before L h i hi
    rw [hq] at h3; cases h3
    rw [e, Host.cmp_self] at h4; omega
  · rw [h1] at hq; cases hq; exact h2
theorem find_miss {L : List Pin} (hL : Asc L) {h : List UInt8} (hh : hit L h = false) : find L h = L.length := by
  refine find_eq (Nat.le_refl _) (fun i q _ hq => hit_none hL hh q (List.mem_of_getElem? hq)) (fun q hq => ?_)
  rw [List.getElem?_eq_none (Nat.le_refl _)] at hq; cases hq
theorem lo_lt {L : List Pin} (hL : Asc L) {h : List UInt8} (hh : hit L h = true) : lo L h < L.length := by
  obtain ⟨p, h1, h2⟩ := (hit_iff hL h).1 hh
  exact (List.getElem?_eq_some_iff.1 h1).1

theorem rremove_is {L : List Pin} (hL : Asc L) (h : List UInt8) : rremove L h = remove L h := by
  unfold rremove remove
  cases hh : hit L h with
  | true => rw [find_hit hL hh, if_pos (lo_lt hL hh), if_pos rfl]
  | false => rw [find_miss hL hh, if_neg (by omega), if_neg (by decide)]
theorem lo_removed {L : List Pin} (hL : Asc L) {h : List UInt8} (hh : hit L h = true) : lo (L.take (lo L h) ++ L.drop (lo L h + 1)) h = lo L h := by
  obtain ⟨p, h1, h2⟩ := (hit_iff hL h).1 hh
  have hlt := lo_lt hL hh
  refine lo_eq (by rw [List.length_append, List.length_take, List.length_drop]; omega) (fun i q hi hq => ?_) (fun q hq => ?_)
  · rw [List.getElem?_append_left (by rw [List.length_take]; omega), List.getElem?_take_of_lt hi] at hq
    obtain ⟨r, h3, h4⟩ := lo_before L h i hi
    rw [hq] at h3; cases h3; exact h4
  · rw [List.getElem?_append_right (by rw [List.length_take]; omega), List.length_take, List.getElem?_drop] at hq
    have h3 := asc_at hL (show lo L h < lo L h + 1 + (lo L h - min (lo L h) L.length) by omega) h1 hq
    have h4 := Host.cmp_neg p.h q.h
    rw [h2] at h3 h4
    omega
theorem rput_is {L : List Pin} (hL : Asc L) {cap : Int} (hc : (L.length : Int) ≤ cap) (p : Pin) : rput L p cap = put L cap p := by
  unfold rput put
  by_cases hv : Pin.valid p = false
  · rw [if_pos hv, if_pos hv]
  rw [if_neg hv, if_neg hv, rremove_is hL]
  unfold remove
  cases hh : hit L p.h with
  | true =>
    rw [if_pos rfl, if_neg (by rintro ⟨e, -⟩; cases e), if_pos rfl]
    simp only
    rw [lo_removed hL hh]
    have hlt := lo_lt hL hh
    rw [List.take_left' (by rw [List.length_take]; omega), List.drop_left' (by rw [List.length_take]; omega), List.set_eq_take_append_cons_drop, if_pos hlt]
  | false =>
    have e1 : (if false = true then (L.take (lo L p.h) ++ L.drop (lo L p.h + 1), true) else (L, false)) = (L, false) := if_neg (by decide)
    rw [e1]
    have e2 : ∀ A B : List Pin × Int, (if false = true then A else B) = B := fun A B => if_neg (by decide)
    rw [e2]
    by_cases hf : cap ≤ L.length
    · rw [if_pos ⟨rfl, hf⟩, if_pos (by omega)]
    · rw [if_neg (fun e => hf e.2), if_neg (by omega)]

/-! ### What the operations leave -/
theorem asc_nodup {L : List Pin} (hL : Asc L) {p q : Pin} (hp : p ∈ L) (hq : q ∈ L) (h : p.h = q.h) : p = q := by
  obtain ⟨i, hi, rfl⟩ := List.mem_iff_getElem.1 hp
  obtain ⟨j, hj, rfl⟩ := List.mem_iff_getElem.1 hq
  have e1 := place hL (List.getElem?_eq_getElem hi)
  have e2 := place hL (List.getElem?_eq_getElem hj)
  rw [h, e2] at e1
  subst e1; rfl
theorem remove_mem {L : List Pin} (hL : Asc L) (h : List UInt8) (q : Pin) : q ∈ (remove L h).1 ↔ q ∈ L ∧ q.h ≠ h := by
  unfold remove
  cases hh : hit L h with
  | false =>
    rw [if_neg (by decide)]
    exact ⟨fun hq => ⟨hq, hit_none hL hh q hq⟩, fun hq => hq.1⟩
  | true =>
    rw [if_pos rfl]
    obtain ⟨p, h1, h2⟩ := (hit_iff hL h).1 hh
    simp only
    constructor
    · intro hq
      refine ⟨?_, fun e => ?_⟩
      · rcases List.mem_append.1 hq with m | m
        · exact List.mem_of_mem_take m
        · exact List.mem_of_mem_drop m
      · have hqL : q ∈ L := by
          rcases List.mem_append.1 hq with m | m
          · exact List.mem_of_mem_take m
          · exact List.mem_of_mem_drop m
        have hr := asc_remove hL (lo L h)
        obtain ⟨i, hi, rfl⟩ := List.mem_iff_getElem.1 hq
        have e3 := place hr (List.getElem?_eq_getElem hi)
        rw [e, lo_removed hL hh] at e3
        have hg := List.getElem?_eq_getElem hi
        generalize (L.take (lo L h) ++ L.drop (lo L h + 1))[i] = x at *
        subst e3
        rw [List.getElem?_append_right (by rw [List.length_take]; omega), List.length_take, List.getElem?_drop] at hg
        have h4 := asc_at hL (show lo L h < lo L h + 1 + (lo L h - min (lo L h) L.length) by omega) h1 hg
        rw [h2, e, Host.cmp_self] at h4
        omega
    · rintro ⟨hq, hne⟩
      obtain ⟨i, hi, rfl⟩ := List.mem_iff_getElem.1 hq
      rcases Nat.lt_trichotomy i (lo L h) with e | e | e
      · exact List.mem_append_left _ (List.mem_iff_getElem.2 ⟨i, by rw [List.length_take]; omega, by rw [List.getElem_take]⟩)
      · subst e
        rw [List.getElem?_eq_getElem hi] at h1; cases h1
        exact absurd h2 hne
      · refine List.mem_append_right _ (List.mem_iff_getElem.2 ⟨i - (lo L h + 1), by rw [List.length_drop]; omega, ?_⟩)
        rw [List.getElem_drop]
        congr 1; omega
theorem put_mem {L : List Pin} (hL : Asc L) {cap : Int} {p : Pin} (hv : Pin.valid p = true) (hc : (put L cap p).2 = 0) (q : Pin) : q ∈ (put L cap p).1 ↔ q = p ∨ (q ∈ L ∧ q.h ≠ p.h) := by
  unfold put at hc ⊢
  rw [if_neg (by simp [hv])] at hc ⊢
  have hlo := lo_le L p.h
  cases hh : hit L p.h with
  | true =>
    have hlt := lo_lt hL hh
    have hr := remove_mem hL p.h q
    unfold remove at hr
    rw [hh, if_pos rfl] at hr
    rw [if_pos rfl]
    simp only at hr ⊢
    rw [List.set_eq_take_append_cons_drop, if_pos hlt, List.mem_append, List.mem_cons]
    rw [List.mem_append] at hr
    rw [← hr]
    constructor
    · rintro (m | m | m)
      · exact .inr (.inl m)
      · exact .inl m
      · exact .inr (.inr m)
    · rintro (m | m | m)
      · exact .inr (.inl m)
      · exact .inl m
      · exact .inr (.inr m)
  | false =>
    rw [hh, if_neg (by decide)] at hc
    rw [if_neg (by decide)]
    by_cases hf : (L.length : Int) = cap
    · rw [if_pos hf] at hc; cases hc
    rw [if_neg hf]
    simp only
    rw [List.mem_append, List.mem_cons]
    have hsp : q ∈ L ↔ q ∈ L.take (lo L p.h) ∨ q ∈ L.drop (lo L p.h) := by rw [← List.mem_append, List.take_append_drop]
    have hne : q ∈ L → q.h ≠ p.h := hit_none hL hh q
    constructor
    · rintro (m | m | m)
      · exact .inr ⟨hsp.2 (.inl m), hne (hsp.2 (.inl m))⟩
      · exact .inl m
      · exact .inr ⟨hsp.2 (.inr m), hne (hsp.2 (.inr m))⟩
    · rintro (m | ⟨m, -⟩)
      · exact .inr (.inl m)
      · rcases hsp.1 m with m | m
        · exact .inl m
        · exact .inr (.inr m)
/-- Lists in order with the same pins are equal. -/
theorem asc_ext : ∀ (A B : List Pin), Asc A → Asc B → (∀ q, q ∈ A ↔ q ∈ B) → A = B
  | [], [], _, _, _ => rfl
  | [], b :: B, _, _, h => by have := (h b).2 List.mem_cons_self; cases this
  | a :: A, [], _, _, h => by have := (h a).1 List.mem_cons_self; cases this
  | a :: A, b :: B, hA, hB, h => by
    have hA' := List.pairwise_cons.1 hA
    have hB' := List.pairwise_cons.1 hB
    have e : a = b := by
      rcases List.mem_cons.1 ((h a).1 List.mem_cons_self) with e | e
      · exact e
      · rcases List.mem_cons.1 ((h b).2 List.mem_cons_self) with e2 | e2
        · exact e2.symm
        · have h1 := hB'.1 a e
          have h2 := hA'.1 b e2
          have := Host.cmp_neg a.h b.h
          omega
    subst e
    have hne : ∀ x ∈ A, x ≠ a := fun x hx e => by
      have := hA'.1 x hx
      rw [e, Host.cmp_self] at this; omega
    have hne2 : ∀ x ∈ B, x ≠ a := fun x hx e => by
      have := hB'.1 x hx
      rw [e, Host.cmp_self] at this; omega
    rw [asc_ext A B hA'.2 hB'.2 fun q => ?_]
    constructor
    · intro hq
      rcases List.mem_cons.1 ((h q).1 (List.mem_cons_of_mem _ hq)) with e | e
      · exact absurd e (hne q hq)
      · exact e
    · intro hq
      rcases List.mem_cons.1 ((h q).2 (List.mem_cons_of_mem _ hq)) with e | e
      · exact absurd e (hne2 q hq)
      · exact e

/-! ### Putting one pin after the other -/
def puts (cap : Int) (L : List Pin) (l : List Pin) : List Pin := l.foldl (fun A p => (put A cap p).1) L
theorem puts_snoc (cap : Int) (L l : List Pin) (p : Pin) : puts cap L (l ++ [p]) = (put (puts cap L l) cap p).1 := by
  unfold puts; rw [List.foldl_append]; rfl
theorem puts_asc (cap : Int) : ∀ (l : List Pin) {L : List Pin}, Asc L → Asc (puts cap L l)
  | [], _, h => h
  | p :: l, _, h => puts_asc cap l (put_asc h cap p)
theorem put_grow (L : List Pin) (cap : Int) (p : Pin) : (put L cap p).1.length ≤ L.length + 1 := by
  unfold put
  have hlo := lo_le L p.h
  split
  · exact Nat.le_succ _
  · split
    · simp
    · split
      · exact Nat.le_succ _
      · simp only [List.length_append, List.length_take, List.length_cons, List.length_drop]; omega
theorem puts_mem {cap : Int} : ∀ (l : List Pin) (L : List Pin), Asc L → (L.length + l.length : Int) < cap → l.Pairwise (fun a b => a.h ≠ b.h) → (∀ p ∈ l, ∀ q ∈ L, q.h ≠ p.h) → ∀ q, q ∈ puts cap L l ↔ q ∈ L ∨ (q ∈ l ∧ Pin.valid q = true)
  | [], L, _, _, _, _, q => by simp [puts]
  | p :: l, L, hL, hc, hd, hdis, q => by
    have hd' := List.pairwise_cons.1 hd
    simp only [List.length_cons] at hc
    have hg := put_grow L cap p
    by_cases hv : Pin.valid p = true
    · have hz : (put L cap p).2 = 0 := by
        unfold put
        rw [if_neg (by simp [hv])]
        split
        · rfl
        · rw [if_neg (by omega)]
      have hm := put_mem hL hv hz
      have hdis2 : ∀ p' ∈ l, ∀ q ∈ (put L cap p).1, q.h ≠ p'.h := by
        intro p' hp' q hq
        rcases (hm q).1 hq with e | e
        · subst e; exact hd'.1 p' hp'
        · exact hdis p' (List.mem_cons_of_mem _ hp') q e.1
      have ih := puts_mem (cap := cap) l (put L cap p).1 (put_asc hL cap p) (by omega) hd'.2 hdis2 q
      have e0 : puts cap L (p :: l) = puts cap (put L cap p).1 l := rfl
      rw [e0, ih, hm q, List.mem_cons]
      constructor
      · rintro ((rfl | ⟨m, -⟩) | ⟨m, m2⟩)
        · exact .inr ⟨.inl rfl, hv⟩
        · exact .inl m
        · exact .inr ⟨.inr m, m2⟩
      · rintro (m | ⟨rfl | m, m2⟩)
        · exact .inl (.inr ⟨m, hdis p List.mem_cons_self q m⟩)
        · exact .inl (.inl rfl)
        · exact .inr ⟨m, m2⟩
    · have e1 : (put L cap p).1 = L := by unfold put; rw [if_pos (by simpa using hv)]
      have e0 : puts cap L (p :: l) = puts cap (put L cap p).1 l := rfl
      rw [e0, e1, puts_mem l L hL (by omega) hd'.2 (fun p' hp' => hdis p' (List.mem_cons_of_mem _ hp')) q, List.mem_cons]
      constructor
      · rintro (m | ⟨m, m2⟩)
        · exact .inl m
        · exact .inr ⟨.inr m, m2⟩
      · rintro (m | ⟨rfl | m, m2⟩)
        · exact .inl m
        · exact absurd m2 hv
        · exact .inr ⟨m, m2⟩
/-- The order of putting does not matter. -/
theorem puts_perm {cap : Int} {l k : List Pin} (hp : ∀ q, q ∈ l ↔ q ∈ k) (hl : l.Pairwise (fun a b => a.h ≠ b.h)) (hk : k.Pairwise (fun a b => a.h ≠ b.h)) (h1 : (l.length : Int) < cap) (h2 : (k.length : Int) < cap) : puts cap [] l = puts cap [] k := by
  have hn : Asc [] := List.Pairwise.nil
  refine asc_ext _ _ (puts_asc cap l hn) (puts_asc cap k hn) fun q => ?_
  rw [puts_mem l [] hn (by simpa using h1) hl (fun _ _ q hq => by cases hq) q, puts_mem k [] hn (by simpa using h2) hk (fun _ _ q hq => by cases hq) q, hp q]

end Go.Proofs.YtcmeajaakdaeeaaDoor.Tab
