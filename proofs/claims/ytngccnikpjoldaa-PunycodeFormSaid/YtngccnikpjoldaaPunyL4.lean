/-
  The walk of the statement PunycodeForm.
-/
import Derived.Test.YtngccnikpjoldaaPunyL1
namespace Go.Proofs.Ytngccnikpjoldaa
open Go.RowKit

theorem Puny.basics_append (l r : List Int) : Puny.basics (l ++ r) = Puny.basics l ++ Puny.basics r := by simp [Puny.basics]
/-- What the statement reads of the encoding. -/
structure FormOk (ps : List Int) (tx : List UInt8) (B N : Nat) : Prop where
  low : ∀ k (h : k < ps.length), ps[k] < 128 → ∃ h' : (Puny.basics (ps.take k)).length < tx.length, ((tx[(Puny.basics (ps.take k)).length]).toNat : Int) = ps[k]
  all : (Puny.basics ps).length = B
  hyp : 0 < B → N = B + 1 ∧ ∃ h : B < tx.length, tx[B] = 45
  none : B = 0 → N = 0
  le : N ≤ tx.length
  tail : ∀ i (h : i < tx.length), N ≤ i → (97 ≤ tx[i].toNat ∧ tx[i].toNat ≤ 122) ∨ (48 ≤ tx[i].toNat ∧ tx[i].toNat ≤ 57)
theorem formOk (ps : List Int) (hps : ∀ p ∈ ps, Puny.point p = true) (hl : ps.length ≤ 256) : FormOk ps (Puny.encode ps) (Puny.basics ps).length (Puny.front ps).length := by
  obtain ⟨t, s', e1, -, -, hd, -⟩ := Puny.encode_reads ps hps hl
  rw [e1]
  refine ⟨?_, rfl, ?_, ?_, by simp, ?_⟩
  · intro k h hp
    have hpt := (Puny.point_iff _).1 (hps _ (List.getElem_mem h))
    have h1 : Puny.basics ps = Puny.basics (ps.take k) ++ (UInt8.ofNat (ps[k]).toNat :: Puny.basics (ps.drop (k + 1))) := by
      have e0 : Puny.basics (ps[k] :: ps.drop (k + 1)) = UInt8.ofNat (ps[k]).toNat :: Puny.basics (ps.drop (k + 1)) := by
        unfold Puny.basics; rw [List.filter_cons_of_pos (by simpa using hp)]; rfl
      rw [← e0, ← Puny.basics_append, List.getElem_cons_drop, List.take_append_drop]
    have h2 : Puny.front ps ++ t = Puny.basics (ps.take k) ++ (UInt8.ofNat (ps[k]).toNat :: (Puny.basics (ps.drop (k + 1)) ++ ((if Puny.basics ps = [] then [] else [45]) ++ t))) := by
      unfold Puny.front
      generalize (if Puny.basics ps = [] then [] else [45]) = q
      rw [h1]; simp
    have hlen : (Puny.basics (ps.take k)).length < (Puny.front ps ++ t).length := by rw [h2]; simp
    refine ⟨hlen, ?_⟩
    have : (Puny.front ps ++ t)[(Puny.basics (ps.take k)).length]? = some (UInt8.ofNat (ps[k]).toNat) := by rw [h2]; simp
    rw [List.getElem?_eq_getElem hlen] at this
    rw [Option.some.inj this]
    exact byte_pt _ hpt.1 hp
  · intro hb
    have hne : Puny.basics ps ≠ [] := by intro e; rw [e] at hb; simp at hb
    have hf : Puny.front ps = Puny.basics ps ++ [45] := by unfold Puny.front; rw [if_neg hne]
    rw [hf]
    refine ⟨by simp, by simp, ?_⟩
    simp
  · intro hb
    have hne : Puny.basics ps = [] := List.eq_nil_of_length_eq_zero hb
    unfold Puny.front; rw [hne]; simp
  · intro i h hi
    rw [List.getElem_append_right hi]
    have := hd _ (List.getElem_mem (by simp at h; omega : i - (Puny.front ps).length < t.length))
    unfold Puny.dig at this
    simp at this
    exact this

set_option maxHeartbeats 4000000 in
set_option maxRecDepth 100000 in
theorem pn_form (a : Option Addr) (n c : Nat) (ps : List Int) (w : World) (h : SlI w a n c ps) (hi : ∀ p ∈ ps, -9223372036854775808 ≤ p ∧ p ≤ 9223372036854775807) :
    Calls Try.prog 6 #[.slice a n c] w fun e w' => e = .returned (.bool true) ∧ Below w.heap.size w w' := by
  have hle := h.le
  have HLN := Lib.hid h.len
  by_cases hn : 60 < n
  · have ht : (60 : Int) < (n : Int) := by omega
    clear hi
    go_enter Try.func6, Try.ntmps6
    go_wp2_with fail
    refine (pn_awake _).mono ?_; rintro e w1 ⟨rfl, hb1⟩
    go_wp2_with fail
    go_ret
    exact ⟨rfl, hb1⟩
  have ht : ¬ (60 : Int) < (n : Int) := by omega
  have henc := fun W h => pn_encode a n c ps W h hi
  clear hi
  unfold PEncPost at henc
  by_cases hall : ∀ p ∈ ps, Puny.point p = true
  · rw [Puny.enc_ok (by rw [HLN.out]; omega) hall] at henc
    have hsh := Puny.encode_short ps hall (by rw [HLN.out]; omega)
    have hF := formOk ps hall (by rw [HLN.out]; omega)
    generalize (Puny.basics ps).length = B at *
    generalize (Puny.front ps).length = N at *
    have HENC := Lib.hid henc; have HF := Lib.hid hF
    have hNl := hF.le
    clear henc hall hF
    obtain ⟨tx, htx⟩ : ∃ tx, tx = Puny.encode ps := ⟨_, rfl⟩
    rw [← htx] at HENC HF hsh hNl
    clear htx
    have hget : ∀ i (h : i < tx.length) h', (str tx)[i]'h' = tx[i] := fun i h h' => str_get _ _ _
    have hsz := str_size tx
    obtain ⟨sv, hsv⟩ : ∃ sv, sv = str tx := ⟨_, rfl⟩
    have hget2 : ∀ i (h : i < tx.length) (h' : i < sv.size), sv[i] = tx[i] := by subst hsv; exact hget
    rw [← hsv] at hsz
    replace HENC : Hid (∀ (W : World), SlI W a n c ps → Calls Try.prog 9 #[.slice a n c] W fun e w' => e = .returned (.tuple #[.string sv, .int .i64 0]) ∧ Below W.heap.size W w') := by rw [hsv]; exact HENC
    have HGET := Lib.hid hget2
    clear hget hget2 hsv
    go_enter Try.func6, Try.ntmps6
    go_wp2_with fail
    refine (HENC.out _ h).mono ?_; rintro e w1 ⟨rfl, hb1⟩
    go_wp2_with fail
    go_loopw [5, 6] (fun v i wr => ∃ k : Nat, k ≤ n ∧ i = .int .i64 k ∧ v = .int .i64 ((Puny.basics (ps.take k)).length : Nat) ∧ Below w.heap.size w wr) (fun _ i _ => n - (intOf i).toNat)
    case atStart => exact ⟨0, Nat.zero_le _, rfl, by simp [Puny.basics], hb1⟩
    case round =>
      obtain ⟨k, hk, rfl, rfl, hB⟩ := hrel
      by_cases hlt : k < n
      · obtain ⟨g, o, rfl, hg, hkl, hc1⟩ := (h.ext hB).at hlt
        rw [List.getElem?_eq_getElem hkl, Option.getD_some] at hc1
        have hlow := HF.out.low k hkl
        have hbs := Puny.basics_snoc (ps.take k) ps[k]
        rw [← List.take_succ_eq_append_getElem hkl] at hbs
        have b0 : (0 : Int) ≤ (k : Int) := by omega
        have b1 : (k : Int) < (n : Int) := by omega
        generalize ps[k] = p at *
        by_cases hp : p < 128
        · obtain ⟨h', hlow⟩ := hlow hp
          rw [if_pos hp] at hbs
          have hg2 := HGET.out _ h'
          have hbs2 : (Puny.basics (ps.take (k + 1))).length = (Puny.basics (ps.take k)).length + 1 := by rw [hbs]; simp
          generalize (Puny.basics (ps.take k)).length = C at *
          have c0 : (0 : Int) ≤ (C : Int) := by omega
          have c1 : (C : Int) < (tx.length : Int) := by omega
          have c2 : (C : Int) ≤ 1024 := by omega
          generalize tx[C] = b at *
          subst hlow
          have hwb : IntKind.i64.wrap (b.toNat : Int) = (b.toNat : Int) := by rw [IntKind.wrap_i64]; have := b.toNat_lt; omega
          have hne : (((b.toNat : Nat) : Int) != ((b.toNat : Nat) : Int)) = false := by simp
          have HBS := Lib.hid hbs2
          clear hbs hbs2
          go_wp2
          go_quiet (fail)
          go_wp2
          go_roundw
          case rel => exact ⟨k + 1, by omega, by go_num, by rw [HBS.out]; go_num, hB.trans (below_drewN' _ _ _)⟩
          case measure => simp [intOf]; omega
        · rw [if_neg hp] at hbs
          have HBS := Lib.hid hbs
          clear hbs hlow
          go_wp2
          go_roundw
          case rel => exact ⟨k + 1, by omega, by go_num, by rw [HBS.out], hB⟩
          case measure => simp [intOf]; omega
      · obtain rfl : k = n := by omega
        rw [List.take_of_length_le (by rw [HLN.out]; omega), HF.out.all]
        have hsz1 := hB.size
        by_cases hB0 : B = 0
        · have hN := HF.out.none hB0
          have ht0 : ¬ (0 : Int) < (B : Int) := by omega
          have HN := Lib.hid (And.intro hN hB0)
          have hBN : B = N := by omega
          clear hN hB0
          go_wp2
          go_loopw [7] (fun i w2 => ∃ k : Nat, k ≤ tx.length ∧ N ≤ k ∧ i = .int .i64 k ∧ Below w.heap.size w w2) (fun i _ => tx.length - (intOf i).toNat)
          case atStart => exact ⟨N, hNl, Nat.le_refl _, by rw [← hBN] <;> go_num, hB⟩
          case round =>
            obtain ⟨k, hk2, hNk, rfl, hB2⟩ := hrel
            by_cases hlt3 : k < tx.length
            · have hb := HF.out.tail k hlt3 hNk
              have hg3 := HGET.out k hlt3
              have d0 : (0 : Int) ≤ (k : Int) := by omega
              have d1 : (k : Int) < (tx.length : Int) := by omega
              have d2 : (k : Int) ≤ 1024 := by omega
              generalize tx[k] = b at *
              rcases hb with ⟨e1, e2⟩ | ⟨e1, e2⟩
              · have e3 : (97 : Int) ≤ (b.toNat : Int) := by omega
                have e4 : (b.toNat : Int) ≤ 122 := by omega
                go_wp2
                go_roundw
                case rel => exact ⟨k + 1, by omega, by omega, by go_num, hB2⟩
                case measure => simp [intOf]; omega
              · have e3 : (48 : Int) ≤ (b.toNat : Int) := by omega
                have e4 : (b.toNat : Int) ≤ 57 := by omega
                have e5 : ¬ (97 : Int) ≤ (b.toNat : Int) := by omega
                go_wp2
                go_roundw
                case rel => exact ⟨k + 1, by omega, by omega, by go_num, hB2⟩
                case measure => simp [intOf]; omega
            · obtain rfl : k = tx.length := by omega
              have hsz2 := hB2.size
              go_wp2_with fail
              refine (pn_awake _).mono ?_; rintro e w4 ⟨rfl, hb4⟩
              have hB4 := hB2.trans (hb4.mono hsz2)
              go_wp2_with fail
              go_ret
              exact ⟨rfl, hB4⟩
        · obtain ⟨hN, hlt2, h45⟩ := HF.out.hyp (by omega)
          have b0 : (0 : Int) < (B : Int) := by omega
          have b1 : (B : Int) < (tx.length : Int) := by omega
          have b2 : (0 : Int) ≤ (B : Int) := by omega
          have hg2 := HGET.out _ hlt2
          rw [h45] at hg2
          have hBN : B + 1 = N := by omega
          clear h45 hN
          go_wp2
          clear hg2
          go_loopw [7] (fun i w2 => ∃ k : Nat, k ≤ tx.length ∧ N ≤ k ∧ i = .int .i64 k ∧ Below w.heap.size w w2) (fun i _ => tx.length - (intOf i).toNat)
          case atStart => exact ⟨N, hNl, Nat.le_refl _, by rw [← hBN] <;> go_num, hB⟩
          case round =>
            obtain ⟨k, hk2, hNk, rfl, hB2⟩ := hrel
            by_cases hlt3 : k < tx.length
            · have hb := HF.out.tail k hlt3 hNk
              have hg3 := HGET.out k hlt3
              have d0 : (0 : Int) ≤ (k : Int) := by omega
              have d1 : (k : Int) < (tx.length : Int) := by omega
              have d2 : (k : Int) ≤ 1024 := by omega
              generalize tx[k] = b at *
              rcases hb with ⟨e1, e2⟩ | ⟨e1, e2⟩
              · have e3 : (97 : Int) ≤ (b.toNat : Int) := by omega
                have e4 : (b.toNat : Int) ≤ 122 := by omega
                go_wp2
                go_roundw
                case rel => exact ⟨k + 1, by omega, by omega, by go_num, hB2⟩
                case measure => simp [intOf]; omega
              · have e3 : (48 : Int) ≤ (b.toNat : Int) := by omega
                have e4 : (b.toNat : Int) ≤ 57 := by omega
                have e5 : ¬ (97 : Int) ≤ (b.toNat : Int) := by omega
                go_wp2
                go_roundw
                case rel => exact ⟨k + 1, by omega, by omega, by go_num, hB2⟩
                case measure => simp [intOf]; omega
            · obtain rfl : k = tx.length := by omega
              have hsz2 := hB2.size
              go_wp2_with fail
              refine (pn_awake _).mono ?_; rintro e w4 ⟨rfl, hb4⟩
              have hB4 := hB2.trans (hb4.mono hsz2)
              go_wp2_with fail
              go_ret
              exact ⟨rfl, hB4⟩
  · rw [Puny.enc_bad (by rw [HLN.out]; omega) hall] at henc
    have HENC := Lib.hid henc
    clear henc hall
    go_enter Try.func6, Try.ntmps6
    go_wp2_with fail
    refine (HENC.out _ h).mono ?_; rintro e w1 ⟨rfl, hb1⟩
    have hsz := hb1.size
    simp only
    generalize str [] = sv at *
    go_wp2_with fail
    refine (pn_awake _).mono ?_; rintro e w4 ⟨rfl, hb4⟩
    have hB4 := hb1.trans (hb4.mono hsz)
    go_wp2_with fail
    go_ret
    exact ⟨rfl, hB4⟩

end Go.Proofs.Ytngccnikpjoldaa
