/- The laws of rows that are set at a place, of rows that are made, of bytes and runes that are read as a text, over named trees. Over any program. -/
import Derived.Test.YtfhfpanemalbmaaDoorAbsU
import Derived.Laws.Cover4
import Derived.Laws.BytesArg
import Derived.ChangeKeysEq
namespace Go.Proofs.YtfhfpanemalbmaaDoor.Abs
open Go.RowKit Mem Facts

theorem encode_low {n : Nat} (h : n < 128) : Utf8.encode (n : Int) = ⟨#[UInt8.ofNat n]⟩ := by
  have hv : Utf8.valid (n : Int) = true := by
    simp only [Utf8.valid, Bool.or_eq_true, Bool.and_eq_true, decide_eq_true_eq]
    first | omega | (left; omega) | (left; constructor <;> omega)
  unfold Utf8.encode
  simp only [hv, if_true, Int.toNat_natCast]
  rw [if_pos h]
theorem runes_low : ∀ (l : List UInt8) (s : ByteArray), (∀ b ∈ l, b.toNat < 128) → (l.map fun b => (b.toNat : Int)).foldl (fun r n => r ++ Utf8.encode n) s = s ++ str l
  | [], s, _ => by show s = s ++ str []; apply ByteArray.ext; simp [str, ByteArray.data_append]
  | b :: l, s, h => by
    have hb := h b (by simp)
    rw [List.map_cons, List.foldl_cons, runes_low l _ fun c hc => h c (by simp [hc]), encode_low hb]
    apply ByteArray.ext
    simp [str, ByteArray.data_append]
theorem runesBytes_low {l : List UInt8} (h : ∀ b ∈ l, b.toNat < 128) : runesBytes (l.map fun b => (b.toNat : Int)) = str l := by
  unfold runesBytes
  rw [runes_low l _ h]
  apply ByteArray.ext
  simp [str]
/-- A byte as a rune. -/
abbrev runeT (c : UInt8) : V := .int .i32 (c.toNat : Int)
section
variable {X A A' : Nat → Prop} {φ φ' : Nat → Pl} {w w' : World} {P : Program} {tb : List Ty} {T : Nat} {e ee e' : Ty} {N : Env} {M : Nat → Prop} {o : Oper} {s : S} {a : Act} {x y : Operand} {el : Nat} {L : List UInt8}
theorem flat_one1 {α : Type} {f : α → V} (hf : ∀ a, (f a).cells = [f a]) : ∀ L : List α, flat (L.map f) = L.map f
  | [] => rfl
  | a :: L => by show (f a).cells ++ flat (L.map f) = _; rw [hf, flat_one1 hf L]; rfl
theorem kd_int {ti : TypeInfo} {d : TypeDesc} {k : IntKind} (ht : TyIs P T e ti d) (hk : Nat.beq e.knd (kcode k) = true) : P.underlying T = some (.int k) := by
  have : d = .int k := kind_int ((Nat.eq_of_beq_eq_true hk).symm.trans ht.knd)
  rw [ht.und, this]
theorem law_runesStr {src dst n : Nat} (htb : TbOk P tb) (ho : o.op = .convert src dst x) (hS : nth tb src = some e) (hs : e.sl = some el) (hE : nth tb el = some ee) (hk : Nat.beq ee.knd (kcode .i32) = true) (hD : nth tb dst = some e') (hd2 : Nat.beq e'.knd 2 = true) (hlow : ∀ b ∈ L, b.toNat < 128) (hl : L.length ≤ SLIM) :
    OpLaw P N o ⟨[(x, .own n 0 L.length)], [(n, .els el 1 (L.map runeT))]⟩ (strT L) [] [] := law_pure fun s M A φ a w hh hr => by
  obtain ⟨ti, d, ht⟩ := ty_at htb hS
  obtain ⟨tj, dj, hj⟩ := ty_at htb hE
  obtain ⟨tk, dk, hkk⟩ := ty_at htb hD
  obtain ⟨vals, h1, h2, h3⟩ := own_src hr hh.n (hr.ev hh.a) (by simp)
  refine ⟨.string (str L), ?_, .fz (.str (by rw [str_size]; exact hl))⟩
  have hv : ∀ (j : Nat) c, L[j]? = some c → vals[j]? = some (.int .i32 c.toNat) := fun j c hj => by
    have hf := flat_one1 (f := runeT) (fun _ => rfl) L
    have hlv : vals.length = L.length := by have := h1.1; simpa using this
    have hjl : j < vals.length := by rw [hlv]; exact (List.getElem?_eq_some_iff.1 hj).1
    have hr2 := h2.at (j := j) (u := runeT c) (c := vals[j]) (by rw [hf]; simp [hj]) (by simp [hjl])
    rw [List.getElem?_eq_getElem hjl, rep_int hr2]
  have hrun : (convert src dst (a.eval x)).run P w = .ok (.string (str L)) w := by
    rcases h1.2 with ⟨e1, e2⟩ | ⟨g, cap, cur, e1, _, hg, hnc, hcm, hcs, htake⟩
    · rw [e1, run_convert_runes_nil w src dst el 0 0 (slOf_und ht hs) (kd_int hj hk) (und_str hkk hd2)]
      have : L = [] := List.eq_nil_of_length_eq_zero e2
      subst this; rfl
    · rw [e1, run_convert_runes w src dst el ⟨g, 0, none⟩ L.length cap (L.map fun b => (b.toNat : Int)) (by simp) (slOf_und ht hs) (kd_int hj hk) (und_str hkk hd2) (fun j hjl => ?_)]
      · rw [List.take_of_length_le (by simp), runesBytes_low hlow]
      · have hj2 : j < L.length := by simpa using hjl
        have hc := h1.cells (g := g) (by rw [e1]; rfl) j (.int .i32 (L[j]).toNat) (hv j L[j] (by simp [hj2]))
        rw [hc, List.getD_eq_getElem?_getD, List.getElem?_map, List.getElem?_eq_getElem hj2]
        rfl
  unfold execOp
  simp only [ho, Sem.run_bind, hrun, Result.andThen_ok, Sem.run_pure]
theorem not_bits {n : Int} (h1 : -9223372036854775808 ≤ n) (h2 : n ≤ 9223372036854775807) : IntKind.i64.wrap (((BitVec.ofInt 64 (-1) ^^^ BitVec.ofInt 64 n).toNat : Nat) : Int) = -1 - n := by
  have e : (BitVec.ofInt 64 (-1) : BitVec 64) = BitVec.allOnes 64 := by decide
  have e2 : ((2 ^ 64 : Nat) : Int) = 18446744073709551616 := by decide
  have e3 : (2 ^ 64 : Nat) = 18446744073709551616 := by decide
  rw [e, BitVec.allOnes_xor, BitVec.toNat_not, BitVec.toNat_ofInt, e2, e3]
  by_cases h : 0 ≤ n
  · have e4 : (n % 18446744073709551616).toNat = n.toNat := by omega
    rw [e4]
    have e5 : ((18446744073709551616 - 1 - n.toNat : Nat) : Int) = 18446744073709551615 - n := by omega
    rw [e5]
    simp [IntKind.wrap, IntKind.bits, IntKind.signed]
    omega
  · have e4 : (n % 18446744073709551616).toNat = (n + 18446744073709551616).toNat := by omega
    rw [e4]
    have e5 : ((18446744073709551616 - 1 - (n + 18446744073709551616).toNat : Nat) : Int) = -1 - n := by omega
    rw [e5]
    exact wrap64 (by omega) (by omega)
theorem law_xor {t : TypeId} {n : Int} (ho : o.op = .unOp .xor t x) (h : -9223372036854775808 ≤ n ∧ n ≤ 9223372036854775807) : OpLaw P N o ⟨[(x, .int .i64 n)], []⟩ (.int .i64 (-1 - n)) [] [] := law_pure fun s M A φ a w hh hr =>
  ⟨.int .i64 (-1 - n), by
    unfold execOp
    simp only [ho, hr.int hh.a, Op.unary, Op.intBits, Sem.run_bind, Sem.run_pure, Result.andThen_ok]
    exact congrArg (fun z => Result.ok (Next.value (Value.int .i64 z)) w) (not_bits h.1 h.2), .fz (.int ⟨by simp only [rng]; omega, by simp only [rng]; omega⟩)⟩
/-! ### Arrays of plain values that are compared -/
def eqI (us vs : List V) : List Nat → Bool
  | [] => true
  | i :: r => (match nth us i, nth vs i with
    | some u, some v => eqS u v
    | _, _ => false) && eqI us vs r
def okI (k : Nat) (us vs : List V) : List Nat → Bool
  | [] => true
  | i :: r => (match nth us i, nth vs i with
    | some u, some v => okS k u v
    | _, _ => false) && okI k us vs r
theorem run_eqI {us vs : List V} {xs ys : Array Value} (htb : TbOk P tb) (hE : nth tb el = some ee) (hx : Reps X A φ w us xs.toList) (hy : Reps X A φ w vs ys.toList) (d : Nat) : ∀ (is : List Nat), okI ee.knd us vs is = true → ∀ w1, (Op.eqItems (d + 1) el 1 xs ys is).run P w1 = .ok (eqI us vs is) w1
  | [], _, w1 => by simp [Op.eqItems, eqI]
  | i :: is, hok, w1 => by
    simp only [okI, Bool.and_eq_true] at hok
    obtain ⟨h1, h2⟩ := hok
    have ih := run_eqI htb hE hx hy d is h2
    cases hu : nth us i with
    | none => rw [hu] at h1; cases h1
    | some u =>
      cases hv : nth vs i with
      | none => rw [hu, hv] at h1; cases h1
      | some v =>
        rw [hu, hv] at h1
        simp only at h1
        have hu' := hu
        have hv' := hv
        rw [nth_eq] at hu hv
        obtain ⟨cx, k1, k2⟩ := hx.2 _ _ hu
        obtain ⟨cy, k3, k4⟩ := hy.2 _ _ hv
        rw [Array.getElem?_toList] at k1 k3
        obtain ⟨g1, g2⟩ := run_eqS (P := P) htb hE h1 k2 k4 d
        simp only [Op.eqItems, Nat.mul_one, Sem.run_bind, run_part_plain w1 g1 k1, run_part_plain w1 g1 k3, Result.andThen_ok, g2 w1, eqI, hu', hv']
        cases eqS u v
        · simp
        · simp [ih w1]
theorem law_neq_arr {y : Operand} {T' : TypeId} {us vs : List V} {r : Bool} {len : Nat} (htb : TbOk P tb) (ho : o.op = .binOp .neq T x y T') (hT : nth tb T = some e) (ha : e.arr = some (len, el)) (hE : nth tb el = some ee) (hc : P.cellsOf el = 1) (hq : P.eqGuardType P.depth T = false) (hok : okI ee.knd us vs (List.range len) = true) (h : (!eqI us vs (List.range len)) = r) :
    OpLaw P N o ⟨[(x, .agg us), (y, .agg vs)], []⟩ (.bool r) [] [] := law_pure fun s M A φ ac w hh hr => by
  obtain ⟨cx, e1, h1, h2, h3⟩ := rep_agg (hr.ev hh.a)
  obtain ⟨cy, e2, g1, g2, g3⟩ := rep_agg (hr.ev hh.b)
  obtain ⟨ti, d, ht⟩ := ty_at htb hT
  obtain ⟨tj, dj, hj⟩ := ty_at htb hE
  have hd : d = .array len el := by
    have := ht.arr
    rw [ha] at this
    cases d <;> simp [arrOf] at this
    rw [this.1, this.2]
  have hu : P.underlying T = some (.array len el) := by rw [ht.und, hd]
  have hrun : (Op.equalIn 10000 T (.agg cx) (.agg cy)).run P w = .ok (eqI us vs (List.range len)) w := by
    rw [run_equalIn_array (P := P) w 9999 cx cy hu hj.info, hc]
    exact run_eqI (w := w) htb hE (Reps.mk' (by simpa using h1) fun j u c hu hc => h3 j u c hu (by simpa using hc)) (Reps.mk' (by simpa using g1) fun j u c hu hc => g3 j u c hu (by simpa using hc)) 9998 _ hok w
  refine ⟨.bool r, ?_, .fz .bool⟩
  unfold execOp
  simp only [ho, e1, e2, Sem.run_bind, run_eqGuard_agg w .neq T x y cx cy hq, Result.andThen_ok, run_neq_struct, hrun, Sem.run_pure, h]
theorem strOf_bytes (l : List UInt8) : strOfNums (l.map fun b => (b.toNat : Int)) = str l := by
  unfold strOfNums
  apply ByteArray.ext
  simp [str, Function.comp_def]
theorem law_bytesStr {src dst n : Nat} (htb : TbOk P tb) (ho : o.op = .convert src dst x) (hS : nth tb src = some e) (hs : e.sl = some el) (hE : nth tb el = some ee) (hk : Nat.beq ee.knd (kcode .u8) = true) (hD : nth tb dst = some e') (hd2 : Nat.beq e'.knd 2 = true) (hl : L.length ≤ SLIM) :
    OpLaw P N o ⟨[(x, .own n 0 L.length)], [(n, .els el 1 (L.map byteT))]⟩ (strT L) [] [] := law_pure fun s M A φ a w hh hr => by
  obtain ⟨ti, d, ht⟩ := ty_at htb hS
  obtain ⟨tj, dj, hj⟩ := ty_at htb hE
  obtain ⟨tk, dk, hkk⟩ := ty_at htb hD
  obtain ⟨vals, h1, h2, h3⟩ := own_src hr hh.n (hr.ev hh.a) (by simp)
  refine ⟨.string (str L), ?_, .fz (.str (by rw [str_size]; exact hl))⟩
  have hv : ∀ (j : Nat) c, L[j]? = some c → vals[j]? = some (.int .u8 c.toNat) := fun j c hj => by
    have hf := flat_one1 (f := byteT) (fun _ => rfl) L
    have hlv : vals.length = L.length := by have := h1.1; simpa using this
    have hjl : j < vals.length := by rw [hlv]; exact (List.getElem?_eq_some_iff.1 hj).1
    have hr2 := h2.at (j := j) (u := byteT c) (c := vals[j]) (by rw [hf]; simp [hj]) (by simp [hjl])
    rw [List.getElem?_eq_getElem hjl, rep_int hr2]
  have hrun : (convert src dst (a.eval x)).run P w = .ok (.string (str L)) w := by
    rcases h1.2 with ⟨e1, e2⟩ | ⟨g, cap, cur, e1, _, hg, hnc, hcm, hcs, htake⟩
    · rw [e1, run_convert_bytes_nil w src el (slOf_und ht hs) (kd_int hj hk) 0 0 dst (und_str hkk hd2)]
      have : L = [] := List.eq_nil_of_length_eq_zero e2
      subst this; rfl
    · rw [e1, run_convert_bytes_arg w src el (slOf_und ht hs) (kd_int hj hk) g 0 L.length cap (L.map fun b => (b.toNat : Int)) (by simp) (fun j hjl => ?_) dst (und_str hkk hd2), strOf_bytes]
      have hc := h1.cells (g := g) (by rw [e1]; rfl) j (.int .u8 (L[j]).toNat) (hv j L[j] (by simp [hjl]))
      have hplain : (⟨g, 0, none⟩ : Addr).add j = ⟨g, 0 + j, none⟩ := by
        unfold Addr.add
        split
        · subst_vars; rfl
        · simp
      rw [hplain] at hc
      rw [hc, List.getD_eq_getElem?_getD, List.getElem?_map, List.getElem?_eq_getElem hjl]
      rfl
  unfold execOp
  simp only [ho, Sem.run_bind, hrun, Result.andThen_ok, Sem.run_pure]
end

section
variable {P : Program} {N : Env} {l r : List Oper} {o : Oper} {tm : List (Nat × V)} {st : List (Nat × Option Blk)} {nx nt : Nat} {tr : List Tr} {K : S → List Tr → Prop} {tb : List Ty} {d T : Nat} {t t' : TypeId} {x y z : Operand} {a b n : Int} {p q : List UInt8} {u v : Bool} {e ee : Ty} {kd : IntKind}
theorem x_stI {α : Type} (f : α → V) {L : List α} {a1 a0 : α} {m i0 el sz : Nat} (j : Nat) (htb : TbOk P tb) (k : ARun P N l K r ⟨tm, (m, some (.els el sz ((L.set j a1).map f))) :: st, nx, nt⟩ (tr ++ [trOf l o ⟨[(x, .loc m i0 0), (y, f a1)], [(m, .els el sz (L.map f))]⟩ [(m, some (.els el sz ((L.set j a1).map f)))]])) (ho : o.op = .store t x y := by rfl) (hx : S.ev ⟨tm, st, nx, nt⟩ x = some (.loc m i0 0) := by rfl) (hy : S.ev ⟨tm, st, nx, nt⟩ y = some (f a1) := by rfl) (hg : guardV l o ⟨tm, st, nx, nt⟩ = some true := by rfl) (hd : o.dst = none := by rfl) (hB : S.blk ⟨tm, st, nx, nt⟩ m = some (.els el sz (L.map f)) := by rfl) (hT' : nth tb t = some e := by rfl) (hi : i0 = j := by omega) (hL : L[j]? = some a0 := by assumption) (h1 : (f a1).cells.all V.one = true := by rfl) (h2 : (f a1).cells.length = e.size := by rfl) (hp : putV (f a0) 0 (f a1) = some (f a1) := by rfl) (hel : (!(f a0).one || Nat.beq (f a1).cells.length 1) = true := by rfl) : ARun P N l K (o :: r) ⟨tm, st, nx, nt⟩ tr := r_set hg hd (law_store htb ho hT' (i := i0) (el := f a0) (by subst hi; rw [List.getElem?_map, hL]; rfl) h1 h2 hp hel (by subst hi; rw [List.map_set])) (hT hx (hT hy (hN hB h0))) k
theorem x_ldI {α : Type} (f : α → V) {L : List α} {a0 : α} {m i0 el sz : Nat} (j : Nat) (htb : TbOk P tb) (k : ARun P N l K r ⟨(d, f a0) :: tm, st, nx, nt⟩ (tr ++ [trOf l o ⟨[(x, .loc m i0 0)], [(m, .els el sz (L.map f))]⟩ []])) (ho : o.op = .load t x := by rfl) (hx : S.ev ⟨tm, st, nx, nt⟩ x = some (.loc m i0 0) := by rfl) (hg : guardV l o ⟨tm, st, nx, nt⟩ = some true := by rfl) (hd : o.dst = some d := by rfl) (hlt : Nat.blt d nt = true := by rfl) (hB : S.blk ⟨tm, st, nx, nt⟩ m = some (.els el sz (L.map f)) := by rfl) (hT' : nth tb t = some e := by rfl) (hi : i0 = j := by omega) (hL : L[j]? = some a0 := by assumption) (hv : subV (f a0).cells 0 e.agg e.size = some (f a0) := by rfl) : ARun P N l K (o :: r) ⟨tm, st, nx, nt⟩ tr := r_val hg hd hlt (law_load htb ho hT' (i := i0) (el := f a0) (by subst hi; rw [List.getElem?_map, hL]; rfl) hv) (hT hx (hN hB h0)) k
theorem x_mkN {α : Type} (f : α → V) (a0 : α) (n : Nat) {c : Int} {el sz : Nat} {z0 : V} {kc : IntKind} (htb : TbOk P tb) (k : ARun P N l K r ⟨(d, .own nx 0 n) :: tm, (nx, some (.els el sz ((List.replicate n a0).map f))) :: st, nx + 1, nt⟩ (tr ++ [trOf l o ⟨[(x, .int kd c), (y, .int kc c)], []⟩ [(nx, some (.els el sz ((List.replicate n a0).map f)))]])) (ho : o.op = .makeSlice T x y := by rfl) (hx : S.ev ⟨tm, st, nx, nt⟩ x = some (.int kd c) := by rfl) (hy : S.ev ⟨tm, st, nx, nt⟩ y = some (.int kc c) := by rfl) (hg : guardV l o ⟨tm, st, nx, nt⟩ = some true := by rfl) (hd : o.dst = some d := by rfl) (hlt : Nat.blt d nt = true := by rfl) (hT' : nth tb T = some e := by rfl) (hs : e.sl = some el := by rfl) (hE : nth tb el = some ee := by rfl) (hz : ee.zeroV = some z0 := by rfl) (hsz : ee.size = sz := by rfl) (hzl : z0.cells.length = sz := by rfl) (h0' : Nat.ble 1 sz = true := by rfl) (hf : f a0 = z0 := by rfl) (hn : c = (n : Int) := by first | rfl | omega) (hlim : n ≤ LIM := by first | omega | (simp only [LIM] at *; omega)) (hby : ee.bytes * n ≤ 281474976710656 := by show (_ : Nat) * _ ≤ _; first | (simp; done) | (simp; omega) | omega) : ARun P N l K (o :: r) ⟨tm, st, nx, nt⟩ tr := r_new rfl hg hd hlt (by have := law_makeSlice (P := P) (N := N) (ν := nx) htb ho hT' hs hE hz hsz hzl h0' hn hlim hby (kl := kd) (kc := kc); rw [List.map_replicate, hf]; exact this) (hT hx (hT hy h0)) k
theorem x_mk0 {α : Type} (f : α → V) (n : Nat) {c : Int} {el sz : Nat} {z0 : V} {kc : IntKind} (htb : TbOk P tb) (k : ARun P N l K r ⟨(d, .own nx 0 ([] : List α).length) :: tm, (nx, some (.els el sz (([] : List α).map f))) :: st, nx + 1, nt⟩ (tr ++ [trOf l o ⟨[(x, .int kd 0), (y, .int kc c)], []⟩ [(nx, some (.els el sz (([] : List α).map f)))]])) (ho : o.op = .makeSlice T x y := by rfl) (hx : S.ev ⟨tm, st, nx, nt⟩ x = some (.int kd 0) := by rfl) (hy : S.ev ⟨tm, st, nx, nt⟩ y = some (.int kc c) := by rfl) (hg : guardV l o ⟨tm, st, nx, nt⟩ = some true := by rfl) (hd : o.dst = some d := by rfl) (hlt : Nat.blt d nt = true := by rfl) (hT' : nth tb T = some e := by rfl) (hs : e.sl = some el := by rfl) (hE : nth tb el = some ee := by rfl) (hz : ee.zeroV = some z0 := by rfl) (hsz : ee.size = sz := by rfl) (hzl : z0.cells.length = sz := by rfl) (h0' : Nat.ble 1 sz = true := by rfl) (hn : c = (n : Int) := by first | rfl | omega) (hlim : n ≤ LIM := by first | omega | (simp only [LIM] at *; omega)) (hby : ee.bytes * n ≤ 281474976710656 := by show (_ : Nat) * _ ≤ _; first | (simp; done) | (simp; omega) | omega) : ARun P N l K (o :: r) ⟨tm, st, nx, nt⟩ tr := r_new rfl hg hd hlt (law_makeSlice0 htb ho hT' hs hE hz hsz hzl h0' hn hlim hby) (hT hx (hT hy h0)) k
theorem x_runes {m el : Nat} {e' : Ty} (htb : TbOk P tb) (k : ARun P N l K r ⟨(d, strT p) :: tm, st, nx, nt⟩ (tr ++ [trOf l o ⟨[(x, .own m 0 p.length)], [(m, .els el 1 (p.map runeT))]⟩ []])) (ho : o.op = .convert t t' x := by rfl) (hx : S.ev ⟨tm, st, nx, nt⟩ x = some (.own m 0 p.length) := by rfl) (hg : guardV l o ⟨tm, st, nx, nt⟩ = some true := by rfl) (hd : o.dst = some d := by rfl) (hlt : Nat.blt d nt = true := by rfl) (hB : S.blk ⟨tm, st, nx, nt⟩ m = some (.els el 1 (p.map runeT)) := by rfl) (hS : nth tb t = some e := by rfl) (hs : e.sl = some el := by rfl) (hE : nth tb el = some ee := by rfl) (hk : Nat.beq ee.knd (kcode .i32) = true := by rfl) (hD : nth tb t' = some e' := by rfl) (hd2 : Nat.beq e'.knd 2 = true := by rfl) (hlow : ∀ b ∈ p, b.toNat < 128 := by assumption) (hl : p.length ≤ SLIM := by simp only [SLIM]; omega) : ARun P N l K (o :: r) ⟨tm, st, nx, nt⟩ tr := r_val hg hd hlt (law_runesStr htb ho hS hs hE hk hD hd2 hlow hl) (hT hx (hN hB h0)) k
theorem x_bstr {m el : Nat} {e' : Ty} (htb : TbOk P tb) (k : ARun P N l K r ⟨(d, strT p) :: tm, st, nx, nt⟩ (tr ++ [trOf l o ⟨[(x, .own m 0 p.length)], [(m, .els el 1 (p.map byteT))]⟩ []])) (ho : o.op = .convert t t' x := by rfl) (hx : S.ev ⟨tm, st, nx, nt⟩ x = some (.own m 0 p.length) := by rfl) (hg : guardV l o ⟨tm, st, nx, nt⟩ = some true := by rfl) (hd : o.dst = some d := by rfl) (hlt : Nat.blt d nt = true := by rfl) (hB : S.blk ⟨tm, st, nx, nt⟩ m = some (.els el 1 (p.map byteT)) := by rfl) (hS : nth tb t = some e := by rfl) (hs : e.sl = some el := by rfl) (hE : nth tb el = some ee := by rfl) (hk : Nat.beq ee.knd (kcode .u8) = true := by rfl) (hD : nth tb t' = some e' := by rfl) (hd2 : Nat.beq e'.knd 2 = true := by rfl) (hl : p.length ≤ SLIM := by simp only [SLIM]; omega) : ARun P N l K (o :: r) ⟨tm, st, nx, nt⟩ tr := r_val hg hd hlt (law_bytesStr htb ho hS hs hE hk hD hd2 hl) (hT hx (hN hB h0)) k
theorem x_xor (k : ARun P N l K r ⟨(d, .int .i64 (-1 - a)) :: tm, st, nx, nt⟩ (tr ++ [trOf l o ⟨[(x, .int .i64 a)], []⟩ []])) (ho : o.op = .unOp .xor t x := by rfl) (hx : S.ev ⟨tm, st, nx, nt⟩ x = some (.int .i64 a) := by rfl) (hg : guardV l o ⟨tm, st, nx, nt⟩ = some true := by rfl) (hd : o.dst = some d := by rfl) (hlt : Nat.blt d nt = true := by rfl) (h : -9223372036854775808 ≤ a ∧ a ≤ 9223372036854775807 := by omega) : ARun P N l K (o :: r) ⟨tm, st, nx, nt⟩ tr := r_val hg hd hlt (law_xor ho h) (hT hx h0) k
theorem x_quo (k : ARun P N l K r ⟨(d, .int kd n) :: tm, st, nx, nt⟩ (tr ++ [trOf l o ⟨[(x, .int kd a), (y, .int kd b)], []⟩ []])) (ho : o.op = .binOp .quo t x y t' := by rfl) (hx : S.ev ⟨tm, st, nx, nt⟩ x = some (.int kd a) := by rfl) (hy : S.ev ⟨tm, st, nx, nt⟩ y = some (.int kd b) := by rfl) (hg : guardV l o ⟨tm, st, nx, nt⟩ = some true := by rfl) (hd : o.dst = some d := by rfl) (hlt : Nat.blt d nt = true := by rfl) (hb : ¬ b = 0 := by decide) (h : kd.wrap (a.tdiv b) = n := by assumption) : ARun P N l K (o :: r) ⟨tm, st, nx, nt⟩ tr := r_val hg hd hlt (law_quo ho hb h) (hT hx (hT hy h0)) k
theorem x_rem (k : ARun P N l K r ⟨(d, .int kd n) :: tm, st, nx, nt⟩ (tr ++ [trOf l o ⟨[(x, .int kd a), (y, .int kd b)], []⟩ []])) (ho : o.op = .binOp .rem t x y t' := by rfl) (hx : S.ev ⟨tm, st, nx, nt⟩ x = some (.int kd a) := by rfl) (hy : S.ev ⟨tm, st, nx, nt⟩ y = some (.int kd b) := by rfl) (hg : guardV l o ⟨tm, st, nx, nt⟩ = some true := by rfl) (hd : o.dst = some d := by rfl) (hlt : Nat.blt d nt = true := by rfl) (hb : ¬ b = 0 := by decide) (h : a.tmod b = n := by assumption) (hn : InR kd n := by assumption) : ARun P N l K (o :: r) ⟨tm, st, nx, nt⟩ tr := r_val hg hd hlt (law_rem ho hb h hn) (hT hx (hT hy h0)) k
theorem x_neqR {us vs : List V} {w : Bool} {len el : Nat} (htb : TbOk P tb) (k : ARun P N l K r ⟨(d, .bool w) :: tm, st, nx, nt⟩ (tr ++ [trOf l o ⟨[(x, .agg us), (y, .agg vs)], []⟩ []])) (ho : o.op = .binOp .neq t x y t' := by rfl) (hx : S.ev ⟨tm, st, nx, nt⟩ x = some (.agg us) := by rfl) (hy : S.ev ⟨tm, st, nx, nt⟩ y = some (.agg vs) := by rfl) (hg : guardV l o ⟨tm, st, nx, nt⟩ = some true := by rfl) (hd : o.dst = some d := by rfl) (hlt : Nat.blt d nt = true := by rfl) (hT' : nth tb t = some e := by rfl) (ha : e.arr = some (len, el) := by rfl) (hE : nth tb el = some ee := by rfl) (hc : P.cellsOf el = 1 := by kernel_rfl) (hq : P.eqGuardType P.depth t = false := by kernel_rfl) (hok : okI ee.knd us vs (List.range len) = true := by rfl) (h : (!eqI us vs (List.range len)) = w := by first | assumption | rfl) : ARun P N l K (o :: r) ⟨tm, st, nx, nt⟩ tr := r_val hg hd hlt (law_neq_arr htb ho hT' ha hE hc hq hok h) (hT hx (hT hy h0)) k
theorem x_subK (k : ARun P N l K r ⟨(d, .int kd n) :: tm, st, nx, nt⟩ (tr ++ [trOf l o ⟨[(x, .int kd a), (y, .int kd b)], []⟩ []])) (ho : o.op = .binOp .sub t x y t' := by rfl) (hx : S.ev ⟨tm, st, nx, nt⟩ x = some (.int kd a) := by rfl) (hy : S.ev ⟨tm, st, nx, nt⟩ y = some (.int kd b) := by rfl) (hg : guardV l o ⟨tm, st, nx, nt⟩ = some true := by rfl) (hd : o.dst = some d := by rfl) (hlt : Nat.blt d nt = true := by rfl) (he : kd.wrap (a - b) = n := by assumption) : ARun P N l K (o :: r) ⟨tm, st, nx, nt⟩ tr := r_val hg hd hlt (law_sub' ho he) (hT hx (hT hy h0)) k
theorem x_addK (k : ARun P N l K r ⟨(d, .int kd n) :: tm, st, nx, nt⟩ (tr ++ [trOf l o ⟨[(x, .int kd a), (y, .int kd b)], []⟩ []])) (ho : o.op = .binOp .add t x y t' := by rfl) (hx : S.ev ⟨tm, st, nx, nt⟩ x = some (.int kd a) := by rfl) (hy : S.ev ⟨tm, st, nx, nt⟩ y = some (.int kd b) := by rfl) (hg : guardV l o ⟨tm, st, nx, nt⟩ = some true := by rfl) (hd : o.dst = some d := by rfl) (hlt : Nat.blt d nt = true := by rfl) (he : kd.wrap (a + b) = n := by assumption) : ARun P N l K (o :: r) ⟨tm, st, nx, nt⟩ tr := r_val hg hd hlt (law_add' ho he) (hT hx (hT hy h0)) k
theorem x_mulK (k : ARun P N l K r ⟨(d, .int kd n) :: tm, st, nx, nt⟩ (tr ++ [trOf l o ⟨[(x, .int kd a), (y, .int kd b)], []⟩ []])) (ho : o.op = .binOp .mul t x y t' := by rfl) (hx : S.ev ⟨tm, st, nx, nt⟩ x = some (.int kd a) := by rfl) (hy : S.ev ⟨tm, st, nx, nt⟩ y = some (.int kd b) := by rfl) (hg : guardV l o ⟨tm, st, nx, nt⟩ = some true := by rfl) (hd : o.dst = some d := by rfl) (hlt : Nat.blt d nt = true := by rfl) (he : kd.wrap (a * b) = n := by assumption) : ARun P N l K (o :: r) ⟨tm, st, nx, nt⟩ tr := r_val hg hd hlt (law_mul' ho he) (hT hx (hT hy h0)) k
end
end Go.Proofs.YtfhfpanemalbmaaDoor.Abs
