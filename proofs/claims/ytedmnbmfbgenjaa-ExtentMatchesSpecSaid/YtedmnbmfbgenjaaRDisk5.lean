/-
  The reference's disk: Dirty, Image, Valid, Arm.
-/
import Derived.Test.YtedmnbmfbgenjaaRDisk4
namespace Go.Proofs.Ytedmnbmfbgenjaa
open Go.RowKit

namespace Disk
def dirtyTo (d : Dk) (k : Nat) : List Int := ((List.range k).filter fun (i : Nat) => (d.ca[i]?.getD none).isSome).map fun (i : Nat) => (i : Int)
theorem dirtyTo_none (d : Dk) (k : Nat) (h : d.ca[k]?.getD none = none) : dirtyTo d (k + 1) = dirtyTo d k := by
  unfold dirtyTo; rw [List.range_succ, List.filter_append]; simp [h]
theorem dirtyTo_some (d : Dk) (k : Nat) (x : List UInt8) (h : d.ca[k]?.getD none = some x) : dirtyTo d (k + 1) = dirtyTo d k ++ [(k : Int)] := by
  unfold dirtyTo; rw [List.range_succ, List.filter_append, List.map_append]; simp [h]
theorem dirtyTo_len (d : Dk) (k : Nat) : (dirtyTo d k).length ≤ k := by
  unfold dirtyTo; rw [List.length_map]; exact Nat.le_trans (List.length_filter_le ..) (by simp)
theorem dirtyTo_all {d : Dk} (h : d.Ok) : dirtyTo d d.st.length = dirty d := by unfold dirtyTo dirty; rw [h.len]
end Disk

section
variable {F : Nat → Prop} {w w' : World} {g sb cb sc : Nat} {fa : Option Addr} {fn fc : Nat} {d d' : Disk.Dk}

set_option maxRecDepth 100000 in
set_option maxHeartbeats 2000000 in
theorem rd_dirty (h : RD F w g sb cb sc fa fn fc d) :
    Calls Try.prog 61 #[.pointer (some ⟨g, 0, none⟩)] w fun e w' => ∃ v, e = .returned v ∧ OwnI w.heap.size w' v (Disk.dirty d) ∧ Below w.heap.size w w' := by
  have hmx := h.ok.max
  obtain ⟨n, hn⟩ : ∃ n, n = d.st.length := ⟨_, rfl⟩
  rw [← hn] at hmx
  have HALL := Lib.hid (Disk.dirtyTo_all h.ok)
  have HN := Lib.hid hn
  have HCL := Lib.hid h.ok.len
  clear hn
  go_enter Try.func61, Try.ntmps61
  go_wp2
  go_loopw [3, 4] (fun v i wr => ∃ k : Nat, k ≤ n ∧ i = .int .i64 k ∧ OwnI w.heap.size wr v (Disk.dirtyTo d k) ∧ Below w.heap.size w wr) (fun _ i _ => n - (intOf i).toNat)
  case atStart => exact ⟨0, by omega, rfl, OwnI.nil _ _, Below.refl _ _⟩
  case round =>
    obtain ⟨k, hk, rfl, hO, hB⟩ := hrel
    have hP := h.ext hB
    have hS := rd_sectors hP
    rw [← HN.out] at hS
    have HS := Lib.hid hS
    clear hS
    have y1 := hP.cells.2.1
    rw [← HN.out] at y1
    by_cases hlt : k < n
    · have hkc : k < d.ca.length := by rw [HCL.out, ← HN.out]; exact hlt
      have hdk := List.getElem?_eq_getElem hkc
      obtain ⟨v1, cv, sv⟩ := hP.cac.cell hdk
      obtain ⟨x, hx⟩ : ∃ x, d.ca[k]'hkc = x := ⟨_, rfl⟩
      rw [hx] at sv hdk
      clear hx
      have i0 : (0 : Int) ≤ (k : Int) := by omega
      have i1 : (k : Int) < (n : Int) := by omega
      cases x with
      | none =>
        have sv : v1 = .slice none 0 0 := sv
        subst sv
        have HD := Lib.hid (Disk.dirtyTo_none d k (by rw [hdk]; rfl))
        clear hdk hkc
        go_wp2_with (go_at_call 77; go_must (refine HS.out.mono ?_); rintro e w1 ⟨rfl, rfl⟩)
        exact ⟨⟨k + 1, by omega, by go_num, by rw [HD.out]; exact hO, hB⟩, by simp [intOf]; omega⟩
      | some x =>
        obtain ⟨b, c, rfl, r1, l1⟩ := sv
        have HD := Lib.hid (Disk.dirtyTo_some d k x (by rw [hdk]; rfl))
        have HL := Lib.hid (Disk.dirtyTo_len d k)
        clear hdk hkc l1 r1
        have hsz := hB.size
        go_wp2_with (first
          | (go_at_call 77; go_must (refine HS.out.mono ?_); rintro e w1 ⟨rfl, rfl⟩)
          | (at_builtin; go_must (refine wpList_append_ints rfl _ _ rfl w.heap.size _ _ rfl (hO.alloc _) _ _ _ [(k : Int)] rfl (SlI.one wr k _) (by have := HL.out; omega) (by simp; omega) ?_); intro v5 w5 hO5 hg5))
        exact ⟨⟨k + 1, by omega, by go_num, by rw [HD.out]; exact hO5, (hB.alloc hsz _).grown hg5 (by simp; omega) (fun k hk => (hO.lt k hk).1)⟩, by simp [intOf]; omega⟩
    · obtain rfl : n = k := by omega
      go_wp2_with (go_at_call 77; go_must (refine HS.out.mono ?_); rintro e w1 ⟨rfl, rfl⟩)
      go_ret
      exact ⟨_, rfl, by rw [← HALL.out, ← HN.out]; exact hO, hB⟩


set_option maxRecDepth 100000 in
set_option maxHeartbeats 2000000 in
theorem rd_image (h : RD F w g sb cb sc fa fn fc d) :
    Calls Try.prog 62 #[.pointer (some ⟨g, 0, none⟩)] w fun e w' => ∃ v, e = .returned v ∧ OwnB w.heap.size w' v d.st.flatten ∧ Below w.heap.size w w' := by
  have hmx := h.ok.max
  obtain ⟨n, hn⟩ : ∃ n, n = d.st.length := ⟨_, rfl⟩
  rw [← hn] at hmx
  have HN := Lib.hid hn
  have H64 := Lib.hid h.ok.st64
  clear hn
  go_enter Try.func62, Try.ntmps62
  go_wp2
  go_loopw [3, 4] (fun v i wr => ∃ k : Nat, k ≤ n ∧ i = .int .i64 k ∧ OwnB w.heap.size wr v (d.st.take k).flatten ∧ Below w.heap.size w wr) (fun _ i _ => n - (intOf i).toNat)
  case atStart => exact ⟨0, by omega, rfl, OwnB.nil _ _, Below.refl _ _⟩
  case round =>
    obtain ⟨k, hk, rfl, hO, hB⟩ := hrel
    have hP := h.ext hB
    have hS := rd_sectors hP
    rw [← HN.out] at hS
    have HS := Lib.hid hS
    clear hS
    have y0 := hP.cells.1
    rw [← HN.out] at y0
    by_cases hlt : k < n
    · have hks : k < d.st.length := by rw [← HN.out]; exact hlt
      have hst : (d.st.map some)[k]? = some (some d.st[k]) := by simp [hks]
      obtain ⟨v1, cv, sv⟩ := hP.sto.cell hst
      obtain ⟨b, c, rfl, r1, l1⟩ := sv
      have hfl : (d.st.take (k + 1)).flatten = (d.st.take k).flatten ++ d.st[k] := by rw [List.take_succ_eq_append_getElem hks, List.flatten_append, List.flatten_cons, List.flatten_nil, List.append_nil]
      have hfn : (d.st.take k).flatten.length = 64 * (d.st.take k).length := Disk.flat_length _ (fun x hx => H64.out x (List.mem_of_mem_take hx))
      rw [List.length_take] at hfn
      obtain ⟨x, hx⟩ : ∃ x, d.st[k] = x := ⟨_, rfl⟩
      rw [hx] at l1 hfl
      have HD := Lib.hid hfl
      have HL := Lib.hid hfn
      clear hst hks hx hfl hfn
      have i0 : (0 : Int) ≤ (k : Int) := by omega
      have i1 : (k : Int) < (n : Int) := by omega
      have hsz := hB.size
      go_wp2_with (first
        | (go_at_call 77; go_must (refine HS.out.mono ?_); rintro e w1 ⟨rfl, rfl⟩)
        | (at_builtin; go_must (refine wpList_append_bytes rfl _ _ rfl w.heap.size _ _ rfl hO _ _ _ _ rfl l1 (by have := HL.out; omega) hsz ?_); intro v5 w5 hO5 hg5 _))
      exact ⟨⟨k + 1, by omega, by go_num, by rw [HD.out]; exact hO5, hB.grown hg5 hsz (fun k hk => (hO.lt k hk).1)⟩, by simp [intOf]; omega⟩
    · obtain rfl : n = k := by omega
      go_wp2_with (go_at_call 77; go_must (refine HS.out.mono ?_); rintro e w1 ⟨rfl, rfl⟩)
      go_ret
      rw [List.take_of_length_le (by rw [← HN.out]; exact Nat.le_refl _)] at hO
      exact ⟨_, rfl, hO, hB⟩

set_option maxRecDepth 100000 in
set_option maxHeartbeats 2000000 in
theorem rd_valid (a : Option Addr) (n c : Nat) (l : List (Int × Int)) (w : World) (h : SlP w a n c l) :
    Calls Try.prog 76 #[.slice a n c] w fun e w' => e = .returned (.bool (Disk.validFaults l)) ∧ w = w' := by
  have HLN := Lib.hid h.len
  have hle := h.le
  obtain ⟨r, hr⟩ : ∃ r, Disk.validFaults l = r := ⟨_, rfl⟩
  rw [hr]
  unfold Disk.validFaults at hr
  rw [HLN.out] at hr
  have HR := Lib.hid hr
  clear hr
  go_enter Try.func76, Try.ntmps76
  go_wp2
  go_loopw [3] (fun i wr => ∃ k : Nat, k ≤ n ∧ i = .int .i64 k ∧ Hid ((l.take k).any Disk.badf = false) ∧ w = wr) (fun i _ => n - (intOf i).toNat)
  case atStart => exact ⟨0, Nat.zero_le _, rfl, Lib.hid rfl, rfl⟩
  case round =>
    obtain ⟨k, hk, rfl, HA, rfl⟩ := hrel
    by_cases hlt : k < n
    · obtain ⟨b, o, rfl, hb, y1, y2⟩ := h.at hlt
      have HT := Lib.hid (any_take l k (by rw [HLN.out]; exact hlt) HA.out)
      have HH := Lib.hid (any_hit l k (by rw [HLN.out]; exact hlt))
      generalize l[k]?.getD (0, 0) = pr at *
      obtain ⟨z1, z2⟩ := pr
      simp only at y1 y2
      have hbb : Disk.badf (z1, z2) = ((z2 != 1 && z2 != 2) || decide (z1 < 0)) := rfl
      have HBB := Lib.hid hbb
      clear hbb
      have i0 : (0 : Int) ≤ (k : Int) := by omega
      have i1 : (k : Int) < (n : Int) := by omega
      by_cases hz : z1 < 0
      · have t0 : decide (z1 < 0) = true := by simpa using hz
        have hrf : r = false := by rw [← HR.out, HH.out (by rw [HBB.out, t0, Bool.or_true])]; simp
        subst hrf
        go_wp2
        go_ret
        exact ⟨rfl, rfl⟩
      have t0 : decide (z1 < 0) = false := by simpa using hz
      by_cases h1 : z2 = 1
      · subst h1
        go_wp2
        exact ⟨⟨k + 1, by omega, by go_num, Lib.hid (HT.out (by rw [HBB.out, t0]; rfl)), trivial⟩, by simp [intOf]; omega⟩
      have t1 : (z2 != 1) = true := by simpa using h1
      by_cases h2 : z2 = 2
      · subst h2
        clear h1
        go_wp2
        exact ⟨⟨k + 1, by omega, by go_num, Lib.hid (HT.out (by rw [HBB.out, t0, t1]; rfl)), trivial⟩, by simp [intOf]; omega⟩
      have t2 : (z2 != 2) = true := by simpa using h2
      have hrf : r = false := by rw [← HR.out, HH.out (by rw [HBB.out, t0, t1, t2]; rfl)]; simp
      subst hrf
      clear h1 h2
      go_wp2
      go_ret
      exact ⟨rfl, rfl⟩
    · obtain rfl : k = n := by omega
      have ha := HA.out
      rw [List.take_of_length_le (by rw [HLN.out]; exact Nat.le_refl _)] at ha
      have hrr := HR.out
      rw [ha] at hrr
      simp only [Bool.not_false, Bool.and_true] at hrr
      by_cases hk64 : k ≤ 64
      · have : r = true := by rw [← hrr]; simpa using hk64
        subst this
        clear hrr ha
        have t0 : decide ((k : Int) ≤ 64) = true := by simp; omega
        go_wp2
        go_ret
        exact ⟨rfl, rfl⟩
      · have : r = false := by rw [← hrr]; simpa using hk64
        subst this
        clear hrr ha
        have t0 : decide ((k : Int) ≤ 64) = false := by simp; omega
        go_wp2
        go_ret
        exact ⟨rfl, rfl⟩

theorem wpList_append_faultsO {w : World} {ops : Array Oper} {rest : List Oper} {o : Oper} {a : Act} {Q : Exit → Act → World → Prop} (hgd : o.guard = none) (s x : Operand)
    (ho : o.op = .call { callee := .builtin .append, args := #[s, x], argTypes := #[53, 53] })
    (base : Nat) (v : Value) (l : List (Int × Int)) (hs : a.eval s = v) (hown : OwnP base w v l) (b : Option Addr) (m c : Nat) (l2 : List (Int × Int)) (hx : a.eval x = .slice b m c) (hsl : SlP w b m c l2)
    (hlen : l.length + m ≤ 1000000000) (hbase : base ≤ w.heap.size)
    (h : ∀ v' w', OwnP base w' v' (l ++ l2) → w.grownBy w' v.ownBlock → wpList Try.prog ops Q rest (a.put o.dst v') w') : wpList Try.prog ops Q (o :: rest) a w := by
  obtain ⟨i0, hi, hz0, hz1, hz2⟩ := info_parts infoFault
  cases b with
  | none =>
    obtain ⟨rfl, rfl⟩ := hsl.2.2.2.1 rfl
    obtain rfl : m = 0 := hsl.1.symm
    refine wpList_append_own_none hgd s x 53 ho base 77 i0 2 Try.underlying53 hi v l.length _ hs hown hx ?_
    exact h v w (by simpa using hown) ⟨rfl, rfl, rfl, Nat.le_refl _, fun _ _ _ => rfl⟩
  | some ad => exact wpList_append_faults hgd s x ho base v l hs hown ad m c l2 hx hsl hlen hbase h

def RArmPost (F : Nat → Prop) (w : World) (g sb cb sc : Nat) (r : Int × Disk.Dk) (e : Ending) (w' : World) : Prop :=
  e = .returned (.int .i64 r.1) ∧ ∃ F' fa fn fc, RD F' w' g sb cb sc fa fn fc r.2 ∧ Upd F w F' w'

set_option maxRecDepth 100000 in
set_option maxHeartbeats 2000000 in
theorem rd_arm (h : RD F w g sb cb sc fa fn fc d) (a : Option Addr) (n c : Nat) (l : List (Int × Int)) (hl : SlP w a n c l) :
    Calls Try.prog 37 #[.pointer (some ⟨g, 0, none⟩), .slice a n c] w (RArmPost F w g sb cb sc (Disk.arm d l)) := by
  have HV := Lib.hid (rd_valid a n c l w hl)
  by_cases hv : Disk.validFaults l = true
  · have hr : Disk.arm d l = (0, { d with fs := l, cnt := 0 }) := by unfold Disk.arm; rw [if_pos hv]
    have hn : l.length ≤ 64 := by unfold Disk.validFaults at hv; simp at hv; exact hv.1
    rw [hr]
    rw [hv] at HV
    have hln := hl.len
    have HLN := Lib.hid (And.intro hn hln)
    clear hr hv hn hln
    go_enter Try.func37, Try.ntmps37
    have y2 := h.cells.2.2.1
    have f2 := h.free 2
    go_wp2_with (first
      | (go_at_call 76; go_must (refine HV.out.mono ?_); rintro e w1 ⟨rfl, rfl⟩)
      | (at_builtin; go_must (refine wpList_append_faultsO rfl _ _ rfl w.heap.size _ [] rfl (OwnP.empty w (Nat.le_refl _)) a n c l rfl (hl.ext ((Below.refl _ _).alloc (Nat.le_refl _) _)) (by have := HLN.out; simp; omega) (by simp) ?_); intro v2 w2 hO hg2; have hb2 := ((Below.refl _ _).alloc (Nat.le_refl _) (.cells #[] 77)).grown hg2 (by simp) (fun k hk => by cases hk; exact Nat.le_refl _); obtain ⟨a2, c2, rfl, hs2, hbl⟩ := hO.sl; have z2 := (h.ext hb2).cells.2.2.1; have z3 := (h.ext hb2).cells.2.2.2.1; have g2 := (h.ext hb2).free 2; have g3 := (h.ext hb2).free 3))
    go_ret
    rw [List.nil_append] at hs2
    have hP := (h.ext hb2).widen (F' := fun k => F k ∨ ∃ x, a2 = some x ∧ k = x.block) (fun k hk => .inl hk) (fun k hk => by
        rcases hk with hk | ⟨x, hx, rfl⟩
        · exact Nat.lt_of_lt_of_le (h.lt k hk) hb2.size
        · exact (hbl x hx).2)
    have hU : Upd F w (fun k => F k ∨ ∃ x, a2 = some x ∧ k = x.block) w2 := (Upd.of_ext hb2).grow (fun k hk => by
        rcases hk with hk | ⟨x, hx, rfl⟩
        · exact .inl hk
        · exact .inr (hbl x hx).1)
    have hP2 := (hP.setFs a2 l.length c2 l hs2 (fun y hy _ => by
        have h1 := (hbl y hy).1
        exact ⟨.inr ⟨y, hy, rfl⟩, by have := h.lt g h.Fg; omega, by have := h.lt sb h.Fs; omega, by have := h.lt cb h.Fc; omega⟩)).setCnt 0
    exact ⟨rfl, _, _, _, _, hP2, (hU.setCell (.inl h.Fg) _ _).setCell (.inl h.Fg) _ _⟩
  · have hr : Disk.arm d l = (1, d) := by unfold Disk.arm; rw [if_neg hv]
    have hv' : Disk.validFaults l = false := by simpa using hv
    rw [hr]
    rw [hv'] at HV
    clear hr hv hv'
    go_enter Try.func37, Try.ntmps37
    go_wp2_with (go_at_call 76; go_must (refine HV.out.mono ?_); rintro e w1 ⟨rfl, rfl⟩)
    go_ret
    exact ⟨rfl, F, fa, fn, fc, h, Upd.refl _ _⟩
end

end Go.Proofs.Ytedmnbmfbgenjaa
