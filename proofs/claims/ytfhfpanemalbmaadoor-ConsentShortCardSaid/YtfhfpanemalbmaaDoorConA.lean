/- Bits and sixty over named trees: the reference's bitList, bitNumber, bitBytes, textBits, SixtyOf, UnsixtyOf; sixty's Write and Read. -/
import Derived.Test.YtfhfpanemalbmaaDoorAbsV
import Derived.Test.YtfhfpanemalbmaaDoorTb
import Derived.Test.YtfhfpanemalbmaaDoorConC
import Derived.Test.YtfhfpanemalbmaaDoorSixtyX
import Derived.Test.YtfhfpanemalbmaaDoorBitsM
namespace Go.Proofs.YtfhfpanemalbmaaDoor.ConA
open Go.RowKit Mem Abs BitsP BitsS BitsT SixtyP SixtyW SixtyQ SixtyR SixtyL OneB BitsN SixtyV SixtyX BitsM ConC

theorem fz_gives {N : Nat → Prop} {w' : World} {l : List Nat} {base n t : Nat} {v : Value} (hN : ∀ b, N b → b < base) (h : w'.ownsRow base t 1 v n (ints l)) (hl : l.length ≤ LIM) (hr : ∀ x ∈ l, x < 9223372036854775808) : Fz N w' (natsV l) v := by
  have h0 := h
  obtain ⟨h1, ⟨rfl, rfl⟩ | ⟨g, cap, cur, rfl, h2, h3, h4, h5, h6, h7⟩⟩ := h
  · have : l = [] := by simpa [ints] using h1
    subst this
    exact .fro0 (fun _ => rfl)
  · have hn : n = l.length := by simpa [ints] using h1.symm
    subst hn
    have k := Fz.fro (X := N) (w := w') (xs := l.map natV) (b := g) (o := 0) (sz := 1) (cap := cap) (fun i _ => .int .i64 ((l.getD i 0 : Nat) : Int)) (fun hx => by have := hN g hx; omega) (block_lt h3) (by decide)
      (by simpa using h4) (by simpa using hl)
      (fun x hx => by obtain ⟨y, _, rfl⟩ := List.mem_map.1 hx; exact ⟨rfl, fun u hu => by cases hu with | head => rfl | tail _ hu => cases hu⟩)
      (fun i j x u hx hu => by
        have hi : i < l.length := by simpa using (List.getElem?_eq_some_iff.1 hx).1
        obtain rfl : x = natV l[i] := by simpa [hi] using hx.symm
        cases j with
        | succ j => cases hu
        | zero =>
          rw [show 0 + i * 1 + 0 = i from by omega, h0.cellAt i (by omega)]
          simp [ints, hi])
      (fun i j x u hx hu => by
        have hi : i < l.length := by simpa using (List.getElem?_eq_some_iff.1 hx).1
        obtain rfl : x = natV l[i] := by simpa [hi] using hx.symm
        cases j with
        | succ j => cases hu
        | zero =>
          cases hu
          have e : l.getD i 0 = l[i] := by simp [hi]
          have := hr l[i] (List.getElem_mem hi)
          show Fz N w' (.int .i64 _) (.int .i64 _)
          rw [e]
          exact .int ⟨by show (-9223372036854775808 : Int) ≤ _; omega, by show _ ≤ (9223372036854775807 : Int); omega⟩)
    rw [List.length_map] at k
    exact k
theorem fz_nats {N : Nat → Prop} {w : World} {l : List Nat} {x : Value} (h : Fz N w (natsV l) x) : ∃ A c, x = .slice A l.length c ∧ IRow w w.heap.size A l ∧ l.length ≤ LIM := by
  obtain ⟨A, c, h1, _, _, h4, h5⟩ := fz_row (g := fun n : Nat => Value.int .i64 (n : Int)) (fun _ => rfl) (fun y c hc => (fz_int hc).1) h
  exact ⟨A, c, h1, h4, h5⟩
theorem bin_small {l : List Nat} (h : Bin l) : ∀ x ∈ l, x < 9223372036854775808 := fun x hx => by have := h x hx; omega
theorem fz_two {N : Nat → Prop} {w : World} {a b : V} {x y : Value} (ha : Fz N w a x) (hb : Fz N w b y) : Fz N w (.tup [a, b]) (.tuple #[x, y]) := .tup rfl fun i x c hx hc => by
  have hi : i < 2 := (List.getElem?_eq_some_iff.1 hx).1
  have : i = 0 ∨ i = 1 := by omega
  rcases this with rfl | rfl <;> (cases hx; cases hc)
  · exact ha
  · exact hb
theorem bitList_v {n W : Nat} (hn : n < 18446744073709551616) (hW : W ≤ 64) : ACalls Tryd.prog 21 [.int .u64 n, .int .i64 W] (natsV (bitsOf n W)) := fun g N w vs hG hN hlen hv => by
  obtain ⟨vs⟩ := vs
  match vs, hlen with
  | [x0, x1], _ =>
    obtain ⟨rfl, _⟩ := fz_int (hv 0 _ x0 rfl rfl)
    obtain ⟨rfl, _⟩ := fz_int (hv 1 _ x1 rfl rfl)
    refine (bitList_any n W w hn hW).mono fun e w' ⟨v, h1, h2, h3⟩ => ⟨v, h1, h3, fz_gives hN h2 (by rw [bitsOf_len]; unfold LIM; omega) (bin_small (bitsOf_bin _ _))⟩
theorem bitNumber_v {l : List Nat} (hl : Bin l) (hn : l.length ≤ 64) : ACalls Tryd.prog 60 [natsV l] (.int .u64 (num l)) := fun g N w vs hG hN hlen hv => by
  obtain ⟨vs⟩ := vs
  match vs, hlen with
  | [x0], _ =>
    obtain ⟨A, c, rfl, h2, _⟩ := fz_nats (hv 0 _ x0 rfl rfl)
    refine (bitNumber_any A c l w h2 hl hn).mono fun e w' ⟨h3, h4⟩ => ⟨_, h3, h4 ▸ Below.refl _ _, .int ?_⟩
    have := num_lt hl
    have h5 : 2 ^ l.length ≤ 2 ^ 64 := Nat.pow_le_pow_right (by decide) hn
    exact ⟨by show (0 : Int) ≤ _; omega, by show _ ≤ (18446744073709551615 : Int); omega⟩
theorem bitBytes_v {l : List Nat} (hl : Bin l) : ACalls Tryd.prog 26 [natsV l] (.str (btx l)) := fun g N w vs hG hN hlen hv => by
  obtain ⟨vs⟩ := vs
  match vs, hlen with
  | [x0], _ =>
    obtain ⟨A, c, rfl, h2, h5⟩ := fz_nats (hv 0 _ x0 rfl rfl)
    have h6 : l.length ≤ 140737488355328 := h5
    refine (bitBytes_any A c l w h2 hl h6).mono fun e w' ⟨h3, h4⟩ => ⟨_, h3, h4, .str ?_⟩
    show (btx l).size ≤ SLIM
    simp only [btx, ByteArray.size, List.size_toArray, List.length_map, packB_len, SLIM]
    omega
theorem textBits_v {l : List UInt8} (hl : l.length ≤ 1048576) : ACalls Tryd.prog 32 [strT l] (natsV (tbits l)) := fun g N w vs hG hN hlen hv => by
  obtain ⟨vs⟩ := vs
  match vs, hlen with
  | [x0], _ =>
    obtain ⟨rfl, _⟩ := fz_str (hv 0 _ x0 rfl rfl)
    have sz : (str l).size ≤ 2199023255552 := by rw [str_size]; omega
    refine (textBits_any (str l) w sz).mono fun e w' ⟨v, h1, h2, h3⟩ => ⟨v, h1, h3, ?_⟩
    rw [str_toList] at h2
    exact fz_gives hN h2 (by rw [tbits_len]; unfold LIM; omega) (bin_small (tbits_bin _))
theorem enc_small {l : List UInt8} : (str (writeF l).1).size ≤ SLIM := by
  rw [str_size]
  unfold writeF
  split
  · exact Nat.zero_le _
  · rw [enc6_len _ _ (Nat.le_refl _), tbits_len]
    unfold SLIM; omega
theorem dec_small {l : List UInt8} : (str (readF l).1).size ≤ SLIM := by
  rw [str_size]
  by_cases h : (readF l).2 = 0
  · have := (write_read l h).1
    unfold SLIM; omega
  · rw [read_none l h]; exact Nat.zero_le _
theorem code_in {n : Nat} (h : n ≤ 2) : InR .i64 (n : Int) := ⟨by show (-9223372036854775808 : Int) ≤ _; omega, by show _ ≤ (9223372036854775807 : Int); omega⟩
theorem wcode {l : List UInt8} : (writeF l).2 ≤ 2 := by unfold writeF; split <;> simp
theorem rcode {l : List UInt8} : (readF l).2 ≤ 2 := by
  rcases read_code l with ⟨a, h⟩ | h | h <;> rw [h] <;> simp
abbrev sixT (r : List UInt8 × Nat) : V := .tup [strT r.1, .int .i64 (r.2 : Int)]
theorem sixW_v {l : List UInt8} (hl : l.length ≤ 281474976710656) : ACalls Tryd.prog 48 [strT l] (sixT (writeF l)) := fun g N w vs hG hN hlen hv => by
  obtain ⟨vs⟩ := vs
  match vs, hlen with
  | [x0], _ =>
    obtain ⟨rfl, _⟩ := fz_str (hv 0 _ x0 rfl rfl)
    refine (swrite_any (str l) w (by rw [str_size]; exact hl)).mono fun e w' ⟨h1, h2⟩ => ⟨_, h1, h2, ?_⟩
    rw [str_toList]
    exact fz_two (.str enc_small) (.int (code_in wcode))
theorem sixOf_v {l : List UInt8} (hl : l.length ≤ 281474976710656) : ACalls Tryd.prog 25 [strT l] (sixT (writeF l)) := fun g N w vs hG hN hlen hv => by
  obtain ⟨vs⟩ := vs
  match vs, hlen with
  | [x0], _ =>
    obtain ⟨rfl, _⟩ := fz_str (hv 0 _ x0 rfl rfl)
    refine (sixtyOf_any (str l) w (by rw [str_size]; exact hl)).mono fun e w' ⟨h1, h2⟩ => ⟨_, h1, h2, ?_⟩
    rw [str_toList]
    exact fz_two (.str enc_small) (.int (code_in wcode))
theorem sixR_v {l : List UInt8} (hl : l.length ≤ 140737488355328) : ACalls Tryd.prog 28 [strT l] (sixT (readF l)) := fun g N w vs hG hN hlen hv => by
  obtain ⟨vs⟩ := vs
  match vs, hlen with
  | [x0], _ =>
    obtain ⟨rfl, _⟩ := fz_str (hv 0 _ x0 rfl rfl)
    refine (sread_any (str l) w (by rw [str_size]; exact hl)).mono fun e w' ⟨h1, h2⟩ => ⟨_, h1, h2, ?_⟩
    rw [str_toList]
    exact fz_two (.str dec_small) (.int (code_in rcode))
theorem sixUn_v {l : List UInt8} (hl : l.length ≤ 1048576) : ACalls Tryd.prog 31 [strT l] (sixT (readF l)) := fun g N w vs hG hN hlen hv => by
  obtain ⟨vs⟩ := vs
  match vs, hlen with
  | [x0], _ =>
    obtain ⟨rfl, _⟩ := fz_str (hv 0 _ x0 rfl rfl)
    refine (unsixtyOf_any (str l) w (by rw [str_size]; exact hl)).mono fun e w' ⟨h1, h2⟩ => ⟨_, h1, h2, ?_⟩
    rw [str_toList]
    exact fz_two (.str dec_small) (.int (code_in rcode))
end Go.Proofs.YtfhfpanemalbmaaDoor.ConA
