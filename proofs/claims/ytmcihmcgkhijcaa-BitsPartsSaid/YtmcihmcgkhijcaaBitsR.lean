/- The walk of bits.Read. -/
import Derived.Test.YtmcihmcgkhijcaaBitsW
namespace Go.Proofs.Ytmcihmcgkhijcaa.BitsR
open Go.RowKit Mem BitsP BitsS BitsT BitsW

def rchk : List Nat → List Int → Nat
  | _, [] => 0
  | l, w :: ws => if wOk w = false then 3 else if l.length < w.toNat then 5 else rchk (l.drop w.toNat) ws
def rnums : List Nat → List Int → List Nat
  | _, [] => []
  | l, w :: ws => num (l.take w.toNat) :: rnums (l.drop w.toNat) ws
def rlen : List Int → Nat
  | [] => 0
  | w :: ws => w.toNat + rlen ws
theorem rlen_app (a b : List Int) : rlen (a ++ b) = rlen a + rlen b := by
  induction a with
  | nil => simp [rlen]
  | cons w a ih => simp only [List.cons_append, rlen, ih]; omega
theorem rchk_app (l : List Nat) (a b : List Int) (h : rchk l a = 0) : rchk l (a ++ b) = rchk (l.drop (rlen a)) b := by
  induction a generalizing l with
  | nil => rfl
  | cons w a ih =>
    simp only [rchk, List.cons_append] at h ⊢
    split at h
    · cases h
    · split at h
      · cases h
      · rename_i h1 h2; rw [if_neg h1, if_neg h2, ih _ h, List.drop_drop]; rfl
theorem rnums_app (l : List Nat) (a b : List Int) : rnums l (a ++ b) = rnums l a ++ rnums (l.drop (rlen a)) b := by
  induction a generalizing l with
  | nil => rfl
  | cons w a ih => simp only [rnums, List.cons_append, ih, List.drop_drop]; rfl
theorem rnums_len (l : List Nat) (a : List Int) : (rnums l a).length = a.length := by
  induction a generalizing l with
  | nil => rfl
  | cons w a ih => simp [rnums, ih]
theorem rchk_le (l : List Nat) (a : List Int) (h : rchk l a = 0) : rlen a ≤ l.length := by
  induction a generalizing l with
  | nil => simp [rlen]
  | cons w a ih =>
    simp only [rchk] at h
    split at h
    · cases h
    · split at h
      · cases h
      · have := ih _ h
        rw [List.length_drop] at this
        simp only [rlen]; omega
/-- Numbers, what is left, the error. -/
def readF (s : ByteArray) (ws : List Int) : List Nat × Nat × Nat :=
  if 400 < ws.length then ([], 0, 2) else if rchk (tbits s.data.toList) ws = 0 then (rnums (tbits s.data.toList) ws, 8 * s.size - rlen ws, 0) else ([], 0, rchk (tbits s.data.toList) ws)
def u64s (l : List Nat) : List Value := l.map fun n : Nat => Value.int .u64 (n : Int)
def RPost (r : List Nat × Nat × Nat) (w : World) (e : Ending) (w' : World) : Prop :=
  ∃ A c, e = .returned (.tuple #[.slice A r.1.length c, .int .i64 (r.2.1 : Int), .int .i64 (r.2.2 : Int)]) ∧ (A = none → c = 0 ∧ r.1.length = 0) ∧ Row w' w'.heap.size A (u64s r.1) ∧ Below w.heap.size w w'
theorem rpost_bad {s : ByteArray} {ws : List Int} {w w' : World} (hl : ¬ 400 < ws.length) {c : Nat} (hc : rchk (tbits s.data.toList) ws = c) (h0 : c ≠ 0) (hb : Below w.heap.size w w') : RPost (readF s ws) w (.returned (.tuple #[.slice none 0 0, .int .i64 0, .int .i64 (c : Int)])) w' := by
  unfold readF; rw [if_neg hl, hc, if_neg h0]; exact ⟨none, 0, rfl, fun _ => ⟨rfl, rfl⟩, Row.nil _ _ _, hb⟩
theorem rpost_ok {s : ByteArray} {ws : List Int} {w w' : World} (hl : ¬ 400 < ws.length) (hc : rchk (tbits s.data.toList) ws = 0) (hb : Below w.heap.size w w') {base : Nat} {v : Value} {n : Nat} {xs : List Value} (ho : w'.ownsRow base 26 1 v n xs) (hx : xs = u64s (rnums (tbits s.data.toList) ws)) :
    RPost (readF s ws) w (.returned (.tuple #[v, .int .i64 ((8 * s.size - rlen ws : Nat) : Int), .int .i64 0])) w' := by
  obtain ⟨A, c, rfl, h1, h2, h3⟩ := own_row ho
  have e : n = (rnums (tbits s.data.toList) ws).length := by rw [hx] at h2; simp [u64s] at h2; omega
  subst hx e
  unfold readF; rw [if_neg hl, if_pos hc]; exact ⟨A, c, rfl, h1, h3, hb⟩
theorem own_kept {w w' : World} {g base : Nat} {e : TypeId} {size n : Nat} {v : Value} {xs : List Value} (h : w.ownsRow base e size v n xs) (hk : Kept (· ≠ g) w w') (hg : g < base) : w'.ownsRow base e size v n xs :=
  h.kept (row := some g) ⟨hk.os, hk.tape, hk.output, hk.size, fun k hk' hne => hk.block k hk' (fun e => hne (by rw [e]))⟩ (by
    rcases hv : v.ownBlock with _ | k
    · exact .inl rfl
    · have := (h.lt k hv).1
      exact .inr (by simp; omega))
theorem elemU64 : Elem Try.prog 44 26 1 8 := Elem.mk Try.underlying44 (by kernel_rfl : (Try.prog.info? 26).map (fun i => (i.zero, i.size, i.bytes)) = some (some (.int .u64 0), 1, 8)) rfl (by decide)

set_option maxHeartbeats 4000000 in
theorem read_any (s : ByteArray) (A : Option Addr) (c : Nat) (ws : List Int) (w : World) (hs : s.size ≤ 140737488355328) (hr : Row w w.heap.size A (ws.map fun x => Value.int .i64 x)) (hn : ws.length ≤ 140737488355328) :
    Calls Try.prog 35 #[.string s, .slice A ws.length c] w (RPost (readF s ws) w) := by
  by_cases hlen : 400 < ws.length
  · have hpost : RPost (readF s ws) w (.returned (.tuple #[.slice none 0 0, .int .i64 0, .int .i64 2])) w := by
      unfold readF; rw [if_pos hlen]; exact ⟨none, 0, rfl, fun _ => ⟨rfl, rfl⟩, Row.nil _ _ _, Below.refl _ _⟩
    have HP := Lib.hid hpost
    clear hpost
    go_enter Try.func35, Try.ntmps35
    go_wp2_with fail
    go_ret3
    exact HP.out
  · have hlen' : decide (400 < ws.length) = false := by simpa using hlen
    have HLEN := Lib.hid hlen
    have htl := tbits_len s.data.toList
    have hsl : s.data.toList.length = s.size := by simp
    rw [hsl] at htl
    have HTL := Lib.hid htl
    clear htl hsl
    go_enter Try.func35, Try.ntmps35
    go_wp2_with fail
    clear hlen
    go_loopw [4, 18] (fun v i wr => ∃ k : Nat, k ≤ ws.length ∧ i = .int .i64 k ∧ rchk (tbits s.data.toList) (ws.take k) = 0 ∧ SrcAt wr w.heap.size s (rlen (ws.take k)) ∧ wr.ownsRow (w.heap.size + 1) 26 1 v k (u64s (rnums (tbits s.data.toList) (ws.take k))) ∧ Below w.heap.size w wr) (fun _ i _ => ws.length - (intOf i).toNat)
    case atStart => exact ⟨0, Nat.zero_le _, rfl, rfl, heap_alloc_new w _, World.ownsRow_nil _ _ _ _, (Below.refl _ _).alloc (Nat.le_refl _) _⟩
    case round =>
      obtain ⟨k, hk, rfl, hck, hsrc, hown, hb⟩ := hrel
      have hle := rchk_le _ _ hck
      rw [HTL.out] at hle
      by_cases hlt : k < ws.length
      · obtain ⟨b, o, rfl, hbB, hcs⟩ := (hr.below hb).open' (by simp; omega)
        have hc0 := hcs k (.int .i64 ws[k]) (by simp [hlt])
        have htk : ws.take (k + 1) = ws.take k ++ [ws[k]] := List.take_succ_eq_append_getElem hlt
        have hall := rchk_app _ (ws.take k) (ws.drop k) hck
        rw [List.take_append_drop, List.drop_eq_getElem_cons hlt] at hall
        have hck1 := rchk_app _ (ws.take k) [ws[k]] hck
        have hnum := rnums_app (tbits s.data.toList) (ws.take k) [ws[k]]
        have hrl := rlen_app (ws.take k) [ws[k]]
        rw [← htk] at hck1 hnum hrl
        have htd : ((tbits s.data.toList).drop (rlen (ws.take k))).length = 8 * s.size - rlen (ws.take k) := by rw [List.length_drop, HTL.out]
        have HALL := Lib.hid hall; have HCK1 := Lib.hid hck1; have HNUM := Lib.hid hnum; have HRL := Lib.hid hrl; have HTD := Lib.hid htd
        have HCK := Lib.hid hck; have HS := Lib.hid hsrc
        clear hall hck1 hnum hrl htd hck hsrc hcs htk
        generalize ws[k] = wd at hc0 HALL HCK1 HNUM HRL
        have hbs := hb.size
        by_cases hok : wOk wd = true
        · obtain ⟨h1, h2⟩ := (wOk_iff wd).1 hok
          obtain ⟨W, rfl⟩ := Int.eq_ofNat_of_zero_le (show 0 ≤ wd by omega)
          by_cases hbig : 8 * s.size - rlen (ws.take k) < W
          · have hck3 : rchk (tbits s.data.toList) ws = 5 := by rw [HALL.out]; simp [rchk, hok, HTD.out]; omega
            have HC := Lib.hid hck3
            clear hck3
            go_wp2_with fail
            refine (width_any _ _).mono ?_
            rintro e w1 ⟨rfl, rfl⟩
            go_wp2_with fail
            refine (left_any w.heap.size s (rlen (ws.take k)) _ (by omega) hle HS.out).mono ?_
            rintro e w1 ⟨rfl, hb1⟩
            go_wp2_with fail
            go_ret3
            exact rpost_bad HLEN.out HC.out (by decide) (below_cat hb hb1)
          · have hck4 : rchk (tbits s.data.toList) (ws.take (k + 1)) = 0 := by rw [HCK1.out]; simp [rchk, hok, HTD.out]; omega
            have HC := Lib.hid hck4
            clear hck4 HCK1
            go_wp2_with fail
            refine (width_any _ _).mono ?_
            rintro e w1 ⟨rfl, rfl⟩
            go_wp2_with fail
            refine (left_any w.heap.size s (rlen (ws.take k)) _ (by omega) hle HS.out).mono ?_
            rintro e w1 ⟨rfl, hb1⟩
            go_wp2_with fail
            refine (get_any w.heap.size s (rlen (ws.take k)) W w1 (by omega) (by omega) (by omega) (HS.out.below hb1)).mono ?_
            rintro e w2 ⟨rfl, hs2, hk2⟩
            have hb2 : Below w.heap.size w w2 := (below_cat hb hb1).trans (hk2.below (by have := hb1.size; omega) (fun j hj => by omega))
            have ho2 := own_kept (own_below hown hb1) hk2 (by omega)
            have HS2 := Lib.hid hs2
            have hz2 : w.heap.size + 1 ≤ w2.heap.size := by have := block_lt hs2; omega
            have HK2 := Lib.hid hk2
            clear hs2 hk2
            have hnum2 := HNUM.out
            simp only [rnums, Int.toNat_natCast] at hnum2
            have HNUM2 := Lib.hid hnum2
            clear hnum2
            generalize num (((tbits s.data.toList).drop (rlen (ws.take k))).take W) = x at HNUM2
            go_wp2_with (first
              | (at_builtin
                 refine app elemU64 rfl (.tmp 31) (.tmp 35) rfl (w.heap.size + 1) _ k _ rfl (ho2.alloc _) (some ⟨w2.heap.size, 0, none⟩) 1 1 [.int .u64 x] (w2.heap.size + 1) rfl rfl (Row.lit w2 _ [.int .u64 x] _ (by omega)) (by simp [Value.oneCell']) (fun e => by cases e) (by omega) (by omega) (by simp; omega) ?_
                 intro v' w3 o3 g3))
            go_roundw
            case rel =>
              have hrow := fun j e => (ho2.lt j e).1
              refine ⟨k + 1, by omega, by go_num, HC.out, ?_, ?_, (hb2.alloc hb2.size _).grown g3 (below_new hb2 _).size (fun j e => by have := hrow j e; omega)⟩
              · have h1 := HS2.out
                unfold SrcAt at h1 ⊢
                rw [HRL.out, g3.block w.heap.size (by simp; omega) (fun e => by have := hrow _ e.symm; omega), Below.heap_alloc _ _ _ (by omega), h1]
                simp [rlen]
              · rw [HNUM2.out]
                simpa [u64s] using o3
            case measure => simp [intOf]; omega
        · have hok2 : wOk wd = false := by simpa using hok
          have hck3 : rchk (tbits s.data.toList) ws = 3 := by rw [HALL.out]; simp [rchk, hok2]
          have HC := Lib.hid hck3
          clear hck3
          go_wp2_with fail
          refine (width_any _ _).mono ?_
          rintro e w1 ⟨rfl, rfl⟩
          go_wp2_with fail
          go_ret3
          exact rpost_bad HLEN.out HC.out (by decide) hb
      · obtain rfl : k = ws.length := by omega
        rw [List.take_length] at hck hsrc hown hle
        have HC := Lib.hid hck; have HS := Lib.hid hsrc
        clear hck hsrc
        go_wp2_with fail
        refine (left_any w.heap.size s (rlen ws) _ (by omega) hle HS.out).mono ?_
        rintro e w1 ⟨rfl, hb1⟩
        go_wp2_with fail
        go_ret3
        exact rpost_ok HLEN.out HC.out (below_cat hb hb1) (own_below hown hb1) rfl
end Go.Proofs.Ytmcihmcgkhijcaa.BitsR
