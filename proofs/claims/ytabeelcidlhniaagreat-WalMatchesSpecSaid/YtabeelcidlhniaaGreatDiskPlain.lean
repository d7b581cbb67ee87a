/-
  Disks as plain data: what each operation of a disk does.
-/
import Derived.Test.YtabeelcidlhniaaGreatBase
namespace Go.Proofs.YtabeelcidlhniaaGreat
namespace Disk

/-- A disk: stored sectors, cache, faults, operations since they were armed, whether the power is off. -/
structure Dk where
  st : List (List UInt8)
  ca : List (Option (List UInt8))
  fs : List (Int × Int)
  cnt : Int
  off : Bool

structure Dk.Ok (d : Dk) : Prop where
  len : d.ca.length = d.st.length
  pos : 1 ≤ d.st.length
  max : d.st.length ≤ 4096
  st64 : ∀ x ∈ d.st, x.length = 64
  ca64 : ∀ x, some x ∈ d.ca → x.length = 64

def new (n : Nat) : Dk := ⟨List.replicate n (List.replicate 64 0), List.replicate n none, [], 0, false⟩
def chunks (n : Nat) (l : List UInt8) : List (List UInt8) := (List.range n).map fun i => (l.drop (64 * i)).take 64
def load (n : Nat) (l : List UInt8) : Dk := ⟨chunks n l, List.replicate n none, [], 0, false⟩
def fault (d : Dk) : Int := ((d.fs.find? fun f => f.1 == d.cnt).map (·.2)).getD 0
def tick (d : Dk) : Dk := { d with cnt := Go.RowKit.wrap64 (d.cnt + 1) }
def cut (d : Dk) : Dk := { d with off := true }
def begin (d : Dk) (fits : Bool) : Bool × Int × Dk :=
  if d.off then (false, 10, d) else if fits then (if fault d = 1 then (false, 9, tick d) else if fault d = 2 then (true, 0, tick d) else (false, 0, tick d)) else (false, 2, d)
def content (d : Dk) (i : Nat) : List UInt8 := ((d.ca[i]?.getD none).getD (d.st[i]?.getD []))
def fits (d : Dk) (i : Int) : Bool := decide (0 ≤ i) && decide (i < (d.st.length : Int))
def put (d : Dk) (i : Nat) (x : List UInt8) : Dk := { d with ca := d.ca.set i (some x) }
def flush (d : Dk) : Dk := { d with st := (List.range d.st.length).map (content d), ca := List.replicate d.ca.length none }
def read (d : Dk) (i : Int) : List UInt8 × Int × Dk :=
  match begin d (fits d i) with
  | (true, _, d') => ([], 10, cut d')
  | (false, e, d') => if e = 0 then (content d i.toNat, 0, d') else ([], e, d')
def write (d : Dk) (i : Int) (x : List UInt8) : Int × Dk :=
  match begin d (fits d i && decide (x.length = 64)) with
  | (true, _, d') => (10, cut (put d' i.toNat x))
  | (false, e, d') => if e = 0 then (0, put d' i.toNat x) else (e, d')
def sync (d : Dk) : Int × Dk :=
  match begin d true with
  | (true, _, d') => (10, cut d')
  | (false, e, d') => if e = 0 then (0, flush d') else (e, d')
def tear (d : Dk) (k : Int × Int) : Dk :=
  if 0 ≤ k.1 then
    match d.ca[k.1.toNat]? with
    | some (some x) => { d with st := d.st.set k.1.toNat (x.take (min (max k.2 0) 64).toNat ++ (d.st[k.1.toNat]?.getD []).drop (min (max k.2 0) 64).toNat) }
    | _ => d
  else d
def restart (d : Dk) (keep : List (Int × Int)) : Dk :=
  { keep.foldl tear d with ca := List.replicate d.ca.length none, fs := [], cnt := 0, off := false }
def badf (p : Int × Int) : Bool := (p.2 != 1 && p.2 != 2) || decide (p.1 < 0)
def validFaults (fs : List (Int × Int)) : Bool := decide (fs.length ≤ 64) && !fs.any badf
def arm (d : Dk) (fs : List (Int × Int)) : Int × Dk := if validFaults fs then (0, { d with fs := fs, cnt := 0 }) else (1, d)
def dirty (d : Dk) : List Int := ((List.range d.ca.length).filter fun (i : Nat) => (d.ca[i]?.getD none).isSome).map fun (i : Nat) => (i : Int)

/-! ### Rows of sectors -/
theorem flat_length (st : List (List UInt8)) (h : ∀ x ∈ st, x.length = 64) : st.flatten.length = 64 * st.length := by
  induction st with
  | nil => rfl
  | cons a st ih =>
    have h1 := h a (by simp)
    have h2 := ih (fun x hx => h x (by simp [hx]))
    simp only [List.flatten_cons, List.length_append, List.length_cons]; omega
theorem flat_drop (st : List (List UInt8)) (h : ∀ x ∈ st, x.length = 64) (i : Nat) : st.flatten.drop (64 * i) = (st.drop i).flatten := by
  induction st generalizing i with
  | nil => simp
  | cons a st ih =>
    have h1 := h a (by simp)
    cases i with
    | zero => simp
    | succ i =>
      rw [List.flatten_cons, List.drop_append, List.drop_of_length_le (by omega), h1, show 64 * (i + 1) - 64 = 64 * i by omega, ih (fun x hx => h x (by simp [hx]))]; simp
theorem flat_take (st : List (List UInt8)) (h : ∀ x ∈ st, x.length = 64) (i : Nat) : st.flatten.take (64 * i) = (st.take i).flatten := by
  induction st generalizing i with
  | nil => simp
  | cons a st ih =>
    have h1 := h a (by simp)
    cases i with
    | zero => simp
    | succ i =>
      rw [List.flatten_cons, List.take_append, List.take_of_length_le (by omega), h1, show 64 * (i + 1) - 64 = 64 * i by omega, ih (fun x hx => h x (by simp [hx]))]; simp
theorem flat_slot (st : List (List UInt8)) (h : ∀ x ∈ st, x.length = 64) (i : Nat) (hi : i < st.length) : (st.flatten.drop (64 * i)).take 64 = st[i]?.getD [] := by
  rw [flat_drop st h, List.drop_eq_getElem_cons hi, List.flatten_cons, List.take_append, List.take_of_length_le (by have := h st[i] (List.getElem_mem hi); omega), h st[i] (List.getElem_mem hi)]
  simp [hi]
theorem flat_set (st : List (List UInt8)) (h : ∀ x ∈ st, x.length = 64) (i : Nat) (hi : i < st.length) (x : List UInt8) (m : Nat) (hx : x.length = m) (hm : m ≤ 64) :
    st.flatten.take (64 * i) ++ x ++ st.flatten.drop (64 * i + m) = (st.set i (x ++ (st[i]?.getD []).drop m)).flatten := by
  have h1 := h st[i] (List.getElem_mem hi)
  rw [flat_take st h, ← List.drop_drop, flat_drop st h, List.set_eq_take_append_cons_drop, if_pos hi, List.flatten_append, List.flatten_cons, List.drop_eq_getElem_cons hi, List.flatten_cons, List.drop_append]
  simp only [List.getElem?_eq_getElem hi, Option.getD_some]
  rw [show m - st[i].length = 0 by omega]
  simp
theorem chunks_flat (n : Nat) (l : List UInt8) (h : l.length = 64 * n) : (chunks n l).flatten = l := by
  induction n generalizing l with
  | zero => simp [chunks]; exact List.eq_nil_of_length_eq_zero (by omega)
  | succ n ih =>
    have := ih (l.drop 64) (by simp; omega)
    unfold chunks at this ⊢
    rw [List.range_succ_eq_map]
    simp only [List.map_cons, List.map_map, List.flatten_cons]
    have e : ((fun i => (l.drop (64 * i)).take 64) ∘ Nat.succ) = fun i => ((l.drop 64).drop (64 * i)).take 64 := by
      funext i; simp only [Function.comp, List.drop_drop]; congr 2; omega
    rw [e, this]; simp
theorem chunks_length (n : Nat) (l : List UInt8) : (chunks n l).length = n := by simp [chunks]
theorem chunks_mem (n : Nat) (l : List UInt8) (h : l.length = 64 * n) : ∀ x ∈ chunks n l, x.length = 64 := by
  intro x hx
  obtain ⟨i, hi, rfl⟩ := List.mem_map.1 hx
  have := List.mem_range.1 hi
  rw [List.length_take, List.length_drop]; omega

/-! ### The operations keep a disk a disk -/
theorem Dk.Ok.tick {d : Dk} (h : d.Ok) : (tick d).Ok := ⟨h.len, h.pos, h.max, h.st64, h.ca64⟩
theorem Dk.Ok.cut {d : Dk} (h : d.Ok) : (cut d).Ok := ⟨h.len, h.pos, h.max, h.st64, h.ca64⟩
theorem Dk.Ok.put {d : Dk} (h : d.Ok) (i : Nat) (x : List UInt8) (hx : x.length = 64) : (put d i x).Ok :=
  ⟨by simp [Disk.put, h.len], h.pos, h.max, h.st64, fun y hy => by
    rcases List.mem_or_eq_of_mem_set hy with h1 | h1
    · exact h.ca64 y h1
    · cases h1; exact hx⟩
theorem content64 {d : Dk} (h : d.Ok) (i : Nat) (hi : i < d.st.length) : (content d i).length = 64 := by
  unfold content
  have h1 : i < d.ca.length := by rw [h.len]; exact hi
  rw [List.getElem?_eq_getElem h1, List.getElem?_eq_getElem hi]
  simp only [Option.getD_some]
  cases hc : d.ca[i] with
  | none => simpa using h.st64 _ (List.getElem_mem hi)
  | some x => simpa using h.ca64 x (by rw [← hc]; exact List.getElem_mem h1)
theorem Dk.Ok.flush {d : Dk} (h : d.Ok) : (flush d).Ok := by
  refine ⟨by simp [Disk.flush, h.len], by simpa [Disk.flush] using h.pos, by simpa [Disk.flush] using h.max, fun x hx => ?_, fun x hx => ?_⟩
  · simp [Disk.flush] at hx
    obtain ⟨i, hi, rfl⟩ := hx
    exact content64 h i hi
  · simp [Disk.flush] at hx
theorem Dk.Ok.begin {d : Dk} (h : d.Ok) (b : Bool) : (begin d b).2.2.Ok := by
  unfold Disk.begin; repeat' split
  all_goals first | exact h | exact h.tick
theorem begin_st (d : Dk) (b : Bool) : (begin d b).2.2.st = d.st ∧ (begin d b).2.2.ca = d.ca := by
  unfold Disk.begin; repeat' split
  all_goals exact ⟨rfl, rfl⟩
theorem Dk.Ok.read {d : Dk} (h : d.Ok) (i : Int) : (read d i).2.2.Ok := by
  have hb := h.begin (fits d i)
  unfold Disk.read; split
  · rename_i e; rw [e] at hb; exact hb.cut
  · rename_i e; rw [e] at hb; split <;> exact hb
theorem Dk.Ok.write {d : Dk} (h : d.Ok) (i : Int) (x : List UInt8) : (write d i x).2.Ok := by
  have hb := h.begin (fits d i && decide (x.length = 64))
  have hx : ∀ e, (Disk.begin d (fits d i && decide (x.length = 64))).2.1 = e → e = 0 → x.length = 64 := by
    intro e h1 h2
    by_cases hx : x.length = 64
    · exact hx
    · subst h2
      unfold Disk.begin at h1
      rw [decide_eq_false hx, Bool.and_false] at h1
      by_cases ho : d.off = true
      · rw [if_pos ho] at h1; cases h1
      · rw [if_neg ho] at h1; simp at h1
  have h3 : ∀ r, Disk.begin d (fits d i && decide (x.length = 64)) = (true, r) → x.length = 64 := by
    intro r h1
    by_cases hx : x.length = 64
    · exact hx
    · unfold Disk.begin at h1
      rw [decide_eq_false hx, Bool.and_false] at h1
      by_cases ho : d.off = true
      · rw [if_pos ho] at h1; cases h1
      · rw [if_neg ho] at h1; simp at h1
  unfold Disk.write; split
  · rename_i e; rw [e] at hb; exact (hb.put _ _ (h3 _ e)).cut
  · rename_i e; rw [e] at hb hx; split
    · rename_i e2; exact hb.put _ _ (hx _ rfl e2)
    · exact hb
theorem Dk.Ok.sync {d : Dk} (h : d.Ok) : (sync d).2.Ok := by
  have hb := h.begin true
  unfold Disk.sync; split
  · rename_i e; rw [e] at hb; exact hb.cut
  · rename_i e; rw [e] at hb; split
    · exact hb.flush
    · exact hb
theorem Dk.Ok.arm {d : Dk} (h : d.Ok) (fs : List (Int × Int)) : (arm d fs).2.Ok := by
  unfold Disk.arm; split
  · exact ⟨h.len, h.pos, h.max, h.st64, h.ca64⟩
  · exact h
theorem tear_ca (d : Dk) (k : Int × Int) : (tear d k).ca = d.ca ∧ (tear d k).st.length = d.st.length := by
  unfold tear; split
  · split <;> simp
  · exact ⟨rfl, rfl⟩
theorem Dk.Ok.tear {d : Dk} (h : d.Ok) (k : Int × Int) : (tear d k).Ok := by
  obtain ⟨h1, h2⟩ := tear_ca d k
  refine ⟨by rw [h1, h2]; exact h.len, by rw [h2]; exact h.pos, by rw [h2]; exact h.max, fun x hx => ?_, fun x hx => h.ca64 x (by rw [h1] at hx; exact hx)⟩
  unfold Disk.tear at hx
  split at hx
  · split at hx
    · rename_i y hy
      rcases List.mem_or_eq_of_mem_set hx with h3 | h3
      · exact h.st64 x h3
      · have hk : k.1.toNat < d.st.length := by rw [← h.len]; exact (List.getElem?_eq_some_iff.1 hy).1
        have h4 := h.ca64 y (List.mem_of_getElem? hy)
        have h5 := h.st64 _ (List.getElem_mem hk)
        rw [h3, List.getElem?_eq_getElem hk, Option.getD_some, List.length_append, List.length_take, List.length_drop]
        omega
    · exact h.st64 x hx
  · exact h.st64 x hx
theorem Dk.Ok.tears {d : Dk} (h : d.Ok) (ks : List (Int × Int)) : (ks.foldl Disk.tear d).Ok ∧ (ks.foldl Disk.tear d).ca = d.ca ∧ (ks.foldl Disk.tear d).st.length = d.st.length := by
  induction ks generalizing d with
  | nil => exact ⟨h, rfl, rfl⟩
  | cons k ks ih =>
    obtain ⟨h1, h2, h3⟩ := ih (h.tear k)
    obtain ⟨h4, h5⟩ := tear_ca d k
    exact ⟨h1, h2.trans h4, h3.trans h5⟩
theorem Dk.Ok.restart {d : Dk} (h : d.Ok) (ks : List (Int × Int)) : (restart d ks).Ok := by
  obtain ⟨h1, h2, h3⟩ := h.tears ks
  exact ⟨by simp [Disk.restart, h3, h.len], by simpa [Disk.restart, h3] using h.pos, by simpa [Disk.restart, h3] using h.max, h1.st64, fun x hx => by simp [Disk.restart] at hx⟩
theorem new_ok (n : Nat) (h1 : 1 ≤ n) (h2 : n ≤ 4096) : (new n).Ok :=
  ⟨by simp [new], by simpa [new] using h1, by simpa [new] using h2, fun x hx => by simp [new] at hx; simp [hx.2], fun x hx => by simp [new] at hx⟩
theorem load_ok (n : Nat) (l : List UInt8) (h1 : 1 ≤ n) (h2 : n ≤ 4096) (h : l.length = 64 * n) : (load n l).Ok :=
  ⟨by simp [load, chunks_length], by simpa [load, chunks_length] using h1, by simpa [load, chunks_length] using h2, chunks_mem n l h, fun x hx => by simp [load] at hx⟩
theorem new_flat (n : Nat) : (new n).st.flatten = List.replicate (64 * n) 0 := by
  induction n with
  | zero => rfl
  | succ n ih =>
    have e : (new (n + 1)).st = List.replicate 64 0 :: (new n).st := rfl
    rw [e, List.flatten_cons, ih, List.replicate_append_replicate]; congr 1; omega

end Disk
end Go.Proofs.YtabeelcidlhniaaGreat
