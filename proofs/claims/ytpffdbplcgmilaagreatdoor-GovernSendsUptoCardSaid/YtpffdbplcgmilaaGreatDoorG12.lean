/- Texts of the proof, joined: AbsU, Rune, Scan, JarP, JarQ, AbsZ, JarA. -/
import Derived.Test.YtpffdbplcgmilaaGreatDoorG9
import Derived.Lib.Builder
import Derived.Lib.AppendStr
import Derived.Lib.UnsafeStr
import Derived.Lib.TrimU
import Derived.Laws.Externs
import Derived.Laws.Pointers
import Derived.LaidEqlPtr
import Derived.Lib.SpaceUEq
import Derived.Lib.MapLaws
import Derived.WalkKit
import Derived.Test.YtpffdbplcgmilaaGreatDoorG7
import Derived.Laws.Cover4
import Derived.Laws.BytesArg
import Derived.ChangeKeysEq
section
namespace Go.Proofs.YtpffdbplcgmilaaGreatDoor.Abs
open Go.RowKit Mem Facts

section
variable {X A A' : Nat → Prop} {φ φ' : Nat → Pl} {w w' : World} {P : Program} {tb : List Ty} {T : Nat} {e ee : Ty} {N : Env} {M : Nat → Prop} {o : Oper} {s : S} {a : Act}

/-! ### Ranging over a text -/
theorem und_str {ti : TypeInfo} {d : TypeDesc} (ht : TyIs P T e ti d) (hk : Nat.beq e.knd 2 = true) : P.underlying T = some .string := by
  have : d = .string := kind_str ((Nat.eq_of_beq_eq_true hk).symm.trans ht.knd)
  rw [ht.und, this]
theorem law_range_str {x : Operand} {b : ByteArray} {ν : Nat} (htb : TbOk P tb) (ho : o.op = .range T x) (hT : nth tb T = some e) (hk : Nat.beq e.knd 2 = true) : OpLaw P N o ⟨[(x, .str b)], []⟩ (.loc ν 0 0) [(ν, some (.sit b 0))] [ν] := fun s M A φ a w hh hr hν hd => by
  obtain ⟨ti, d, ht⟩ := ty_at htb hT
  obtain ⟨h1, h2⟩ := hr.str hh.a
  have hrun : (execOp a.eval o).run P w = .ok (.value (.pointer (some ⟨w.heap.size, 0, none⟩))) (w.alloc (.stringIter b 0)) := by
    unfold execOp; simp only [ho, h1]
    have h : (Instr.range T (.string b)).run P w = .ok (.pointer (some ⟨w.heap.size, 0, none⟩)) (w.alloc (.stringIter b 0)) := by
      unfold Instr.range
      simp [run_underlying (und_str ht hk), Result.andThen]
    simp [h, Result.andThen]
  unfold Oper.wp
  rw [hrun]
  refine rel_new (pl := ⟨some w.heap.size, 0, 0⟩) hr (hν ν (by simp)) rfl (fun φ' hφ => ?_) (fun φ' hφ => ?_) hd
  · exact ⟨h2, _, rfl, .inr rfl, heap_alloc_new w _⟩
  · have := Rep.loc (X := fun b => (M b ∨ b = w.heap.size) ∨ N b) (A := fun n => A n ∨ n = ν) (φ := φ') (w := w.alloc (.stringIter b 0)) (n := ν) (i := 0) (off := 0) (b := w.heap.size) (.inr rfl) (by rw [hφ])
    simpa using this
theorem sit_row {n pos : Nat} {b : ByteArray} (hr : Rel N M A φ s a w) (hk : s.blk n = some (.sit b pos)) {x : Operand} (hx : s.ev x = some (.loc n 0 0)) : ∃ q, a.eval x = .pointer (some ⟨q, 0, none⟩) ∧ (φ n).blk = some q ∧ w.heap[q]? = some (.stringIter b pos) ∧ b.size ≤ SLIM := by
  obtain ⟨q, h1, h2⟩ := rep_loc (hr.ev hx)
  obtain ⟨_, h3, q', g1, g2, g3⟩ := hr.st n _ hk
  rw [h1] at g1; cases g1
  exact ⟨q, by simpa using h2, h1, g3, h3⟩
theorem run_getObj_at {r pos : Nat} {b : ByteArray} (hb : w.heap[r]? = some (.stringIter b pos)) : (getObj r).run P w = .ok (.stringIter b pos) w := by simp [getObj, Sem.run, hb]
theorem run_setObj_at {r pos : Nat} {b : ByteArray} (o' : Obj) (hb : w.heap[r]? = some (.stringIter b pos)) : (setObj r o').run P w = .ok () { w with heap := w.heap.setIfInBounds r o' } := by simp [setObj, Sem.run, hb]
theorem rep_tup3 {u v t : V} {x y z : Value} (h1 : Rep X A φ w u x) (h2 : Rep X A φ w v y) (h3 : Rep X A φ w t z) : Rep X A φ w (.tup [u, v, t]) (.tuple #[x, y, z]) := by
  refine .tup rfl fun i p c hp hc => ?_
  rcases i with _ | _ | _ | i
  · simp at hp hc; subst hp hc; exact h1
  · simp at hp hc; subst hp hc; exact h2
  · simp at hp hc; subst hp hc; exact h3
  · simp at hp
theorem law_next_str {x : Operand} {n pos c wd : Nat} {b : ByteArray} (ho : o.op = .next x true) (hp : pos < b.size) (hc : Utf8.decode b pos = (c, wd)) (_hw : pos + wd ≤ SLIM) : OpLaw P N o ⟨[(x, .loc n 0 0)], [(n, .sit b pos)]⟩ (.tup [.bool true, .int .i64 (pos : Int), .int .i32 (c : Int)]) [(n, some (.sit b (pos + wd)))] [] := fun s M A φ a w hh hr _ hd => by
  obtain ⟨q, h1, h2, h3, h4⟩ := sit_row hr hh.n hh.a
  have hrun : (execOp a.eval o).run P w = .ok (.value (.tuple #[.bool true, goInt pos, .int .i32 c])) { w with heap := w.heap.setIfInBounds q (.stringIter b (pos + wd)) } := by
    unfold execOp; simp only [ho, h1]
    simp [Instr.next, run_getObj_at h3, run_setObj_at _ h3, Result.andThen, hp, hc]
  unfold Oper.wp
  rw [hrun]
  have hle := Lib.rune_le b pos
  rw [hc] at hle
  simp only at hle
  simp only [SLIM] at h4
  refine rel_obj hr hh.n h2 (fun w' hs hb => ⟨by simp only [SLIM]; exact h4, q, h2, hr.lt_blk hh.n h2, hb⟩) (rep_tup3 (.fz .bool) (.fz (.int ⟨by simp only [rng]; omega, by simp only [rng]; omega⟩)) (.fz (.int ⟨by simp only [rng]; omega, by simp only [rng]; omega⟩))) hd
theorem rep_tup1 {u : V} {x : Value} (h1 : Rep X A φ w u x) : Rep X A φ w (.tup [u]) (.tuple #[x]) := by
  refine .tup rfl fun i p c hp hc => ?_
  rcases i with _ | i
  · simp at hp hc; subst hp hc; exact h1
  · simp at hp
theorem law_next_over {x : Operand} {n pos : Nat} {b : ByteArray} (ho : o.op = .next x true) (hp : ¬ pos < b.size) : OpLaw P N o ⟨[(x, .loc n 0 0)], [(n, .sit b pos)]⟩ (.tup [.bool false]) [] [] := law_pure fun s M A φ a w hh hr => by
  obtain ⟨q, h1, h2, h3, h4⟩ := sit_row hr hh.n hh.a
  refine ⟨.tuple #[.bool false], ?_, rep_tup1 (.fz .bool)⟩
  unfold execOp; simp only [ho, h1]
  simp [Instr.next, run_getObj_at h3, Result.andThen, hp]
/-! ### Pointers -/
theorem rep_nilp {x : Value} (h : Rep X A φ w .nilp x) : x = .pointer none := by
  cases h with
  | fz h => cases h; rfl
theorem run_same_ptr {tp te : TypeId} {j : TypeInfo} (q : Addr) (hp : P.underlying tp = some (.pointer te)) (hte : P.info? te = some j) : (Op.equal tp (.pointer (some q)) (.pointer (some q))).run P w = .ok true w := by
  have h : ∀ d : Nat, (Op.equalIn (d + 1) tp (.pointer (some q)) (.pointer (some q))).run P w = .ok true w := fun d => by
    simp [Op.equalIn, run_underlying hp, sizeOf, typeInfo, hte, run_sameAddr_same]
  exact h 9999
theorem run_eqGuardP {t' : TypeId} {op : BinOp} {x y : Operand} {p q : Option Addr} (_hT : P.underlying T = some (.pointer t')) : (eqGuard op T x y (.pointer p) (.pointer q)).run P w = .ok () w := by
  unfold eqGuard
  cases op <;> simp
variable {t' : TypeId} {x y : Operand}
theorem law_eql_ptrN {p : V} {r : Bool} {T' : TypeId} (ho : o.op = .binOp .eql T x y T') (hT : P.underlying T = some (.pointer (P.pointee T))) (hp : p = .nilp ∧ r = true ∨ (∃ n i off, p = .loc n i off) ∧ r = false) : OpLaw P N o ⟨[(x, p), (y, .nilp)], []⟩ (.bool r) [] [] := law_pure fun s M A φ ac w hh hr => by
  refine ⟨.bool r, ?_, .fz .bool⟩
  have hy := rep_nilp (hr.ev hh.b)
  unfold execOp
  rcases hp with ⟨rfl, rfl⟩ | ⟨⟨n, i, off, rfl⟩, rfl⟩
  · have hx := rep_nilp (hr.ev hh.a)
    simp only [ho, hx, hy, Sem.run_bind, run_eqGuardP hT, Result.andThen_ok, run_eql_pointer_nil w T none hT, Sem.run_pure]
    rfl
  · obtain ⟨b, _, hx⟩ := rep_loc (hr.ev hh.a)
    simp only [ho, hx, hy, Sem.run_bind, run_eqGuardP hT, Result.andThen_ok, run_eql_pointer_nil w T _ hT, Sem.run_pure]
    rfl
theorem law_neq_ptrS {n i off : Nat} {j : TypeInfo} {T' : TypeId} (ho : o.op = .binOp .neq T x y T') (hT : P.underlying T = some (.pointer (P.pointee T))) (hj : P.info? (P.pointee T) = some j) : OpLaw P N o ⟨[(x, .loc n i off), (y, .loc n i off)], []⟩ (.bool false) [] [] := law_pure fun s M A φ ac w hh hr => by
  refine ⟨.bool false, ?_, .fz .bool⟩
  obtain ⟨b, h1, hx⟩ := rep_loc (hr.ev hh.a)
  obtain ⟨b', h2, hy⟩ := rep_loc (hr.ev hh.b)
  rw [h1] at h2; cases h2
  unfold execOp
  simp only [ho, hx, hy, Sem.run_bind, run_eqGuardP hT, Result.andThen_ok, binOp, run_same_ptr _ hT hj, Sem.run_pure, Bool.not_true]
/-! ### A pointer as a raw one, and back -/
theorem rowAt_more {fits : TypeId → Bool} {d e count n : Nat} (h : rowAt P fits d e 1 0 n = true) (hc : 1 ≤ count) : rowAt P fits d e count 0 n = true := by
  cases d with
  | zero => simp [rowAt] at h
  | succ d =>
    simp only [rowAt] at h ⊢
    split at h
    · cases h
    rename_i hs
    rw [if_neg hs]
    simp only [Nat.zero_div, Nat.zero_mod, Nat.zero_add, Bool.or_eq_true, Bool.and_eq_true, decide_eq_true_eq] at h ⊢
    rcases h with ⟨⟨h1, h2⟩, h3⟩ | ⟨h1, h2⟩
    · exact .inl ⟨⟨h1, Nat.le_trans h2 hc⟩, h3⟩
    · exact .inr ⟨hc, h2⟩
theorem liesAt_more : ∀ {d e count u n : Nat}, liesAt P d e 1 0 u n = true → 1 ≤ count → liesAt P d e count 0 u n = true
  | 0, _, _, _, _, h, _ => by simp [liesAt] at h
  | d + 1, e, count, u, n, h, hc => by
    simp only [liesAt, Bool.or_eq_true] at h ⊢
    rcases h with h | h
    · exact .inl (rowAt_more h hc)
    · refine .inr ?_
      split at h
      · rename_i m u' hu
        exact liesAt_more h hc
      · cases h
theorem row_shape {n sz i off : Nat} {xs : List V} {T1 : TypeId} {x : Value} (hr : Rel N M A φ s a w) (hk : s.blk n = some (.els T1 sz xs)) (hx : Rep X A φ w (.loc n i off) x) (hi : i < xs.length) (ho : off < sz) :
    ∃ b k, x = .pointer (some ⟨b, i * sz + off, none⟩) ∧ w.shape? b = some (T1, k * sz) ∧ i < k ∧ 0 < sz := by
  obtain ⟨b, h1, h2⟩ := rep_loc hx
  obtain ⟨_, g1, g2, g3, g4, g5⟩ := hr.st n _ hk
  rcases g5 with ⟨k1, _⟩ | ⟨b', cur, k1, k2, k3, k4, k5, _⟩
  · rw [h1] at k1; cases k1
  · rw [h1] at k1; cases k1
    subst g1
    refine ⟨b, (φ n).cap, h2, ?_, by omega, g2⟩
    simp [World.shape?, k3, k4]
theorem law_toU {x : Operand} {n sz off src dst : Nat} {xs : List V} {T1 t : TypeId} {j : TypeInfo} (ho : o.op = .convert src dst x) (hs : P.underlying src = some (.pointer t)) (hd' : P.underlying dst = some .unsafePointer) (hj : P.info? t = some j) (hj0 : Nat.beq j.size 0 = false) (hl : xs ≠ []) (hoff : off < sz) :
    OpLaw P N o ⟨[(x, .loc n 0 off)], [(n, .els T1 sz xs)]⟩ (.loc n 0 off) [] [] := law_pure fun s M A φ a w hh hr => by
  have hx := hr.ev hh.a
  obtain ⟨b, k, h1, h2, h3, h4⟩ := row_shape hr hh.n hx (List.length_pos_iff.2 hl) hoff
  refine ⟨_, ?_, hx⟩
  unfold execOp
  have hsz : j.size ≠ 0 := fun e => by rw [e] at hj0; cases hj0
  have hlt : 0 * sz + off < k * sz := by
    have : 1 * sz ≤ k * sz := Nat.mul_le_mul_right _ h3
    omega
  rw [h1]
  simp only [ho, h1, Lib.run_to_unsafe (P := P) w ⟨b, 0 * sz + off, none⟩ hs hd' hj hsz h2 hlt, Sem.run_bind, Sem.run_pure, Result.andThen_ok]
theorem law_fromU {x : Operand} {n sz src dst : Nat} {xs : List V} {T1 t : TypeId} {j : TypeInfo} (ho : o.op = .convert src dst x) (hs : P.underlying src = some .unsafePointer) (hd' : P.underlying dst = some (.pointer t)) (hj : P.info? t = some j) (hc : P.cellsOf T1 = sz) (hlies : liesAt P P.depth T1 1 0 t 1 = true) (hl : xs ≠ []) :
    OpLaw P N o ⟨[(x, .loc n 0 0)], [(n, .els T1 sz xs)]⟩ (.loc n 0 0) [] [] := law_pure fun s M A φ a w hh hr => by
  have hx := hr.ev hh.a
  have h0 : 0 < sz := (hr.st n _ hh.n).2.2.1
  obtain ⟨b, k, h1, h2, h3, h4⟩ := row_shape hr hh.n hx (List.length_pos_iff.2 hl) h0
  refine ⟨_, ?_, hx⟩
  unfold execOp
  have hlies' : liesAt P P.depth T1 (k * sz / P.cellsOf T1) (0 * sz + 0) t 1 = true := by
    rw [hc, Nat.mul_div_cancel _ h4, Nat.zero_mul]
    exact liesAt_more hlies h3
  rw [h1]
  simp only [ho, h1, Lib.run_from_unsafe (P := P) w ⟨b, 0 * sz + 0, none⟩ hs hd' hj h2 hlies', Sem.run_bind, Sem.run_pure, Result.andThen_ok]
/-! ### A text's bytes onto bytes -/
theorem bytes_reps (l : List UInt8) : Reps X A φ w (flat (l.map byteT)) (Lib.strCells (str l)) := by
  have e : flat (l.map byteT) = l.map byteT := by
    induction l with
    | nil => rfl
    | cons c l ih => show byteT c :: flat (l.map byteT) = _; rw [ih]; rfl
  rw [e]
  refine .mk' (by simp [Lib.strCells, str]) fun j u c hu hc => ?_
  simp only [Lib.strCells, str, List.getElem?_map, Option.map_eq_some_iff] at hu hc
  obtain ⟨q, h1, rfl⟩ := hu
  obtain ⟨q', h2, rfl⟩ := hc
  try simp only [List.toList_toArray] at h2
  rw [h1] at h2; cases h2
  have := q.toNat_lt
  exact .fz (.int ⟨by simp only [rng]; omega, by simp only [rng]; omega⟩)
theorem run_appS {el n : Nat} {v : Value} {vals : List Value} {q : ByteArray} {ty Tu : TypeId} {i : TypeInfo} (ht : P.underlying T = some (.slice el)) (hu : P.underlying Tu = some .string) (hi : P.info? el = some i) (hz : i.zero = some (.int .u8 0)) (hs : i.size = 1) (hb : i.bytes = 1) (how : w.ownsRow 0 el 1 v n vals) (hm : n + q.size ≤ maxLen) (hl : n + q.size ≤ 140737488355328) :
    ∃ v' w', (Builtin.append_ #[T, Tu] ty #[v, .string q]).run P w = .ok v' w' ∧ w'.ownsRow 0 el 1 v' (n + q.size) (vals ++ Lib.strCells q) ∧ w.grownBy w' v.ownBlock ∧ (v'.ownBlock = v.ownBlock ∨ v'.ownBlock = some w.heap.size) := by
  obtain ⟨v', w', h1, h2, h3, h4⟩ := Lib.run_append_own_string (P := P) w 0 T Tu ty el i ht hu hi hz hs hb v n vals how q hm hl (Nat.zero_le _)
  refine ⟨v', w', h1, h2, h3, ?_⟩
  simp only [maxLen] at hm
  rcases how.2 with ⟨rfl, rfl⟩ | ⟨g, cap, cur, rfl, hbg, hg, hnc, hcm, hcs, htake⟩
  · by_cases h0 : q.size = 0
    · rw [h4.2 ⟨rfl, h0⟩]; exact .inl rfl
    · have hr := run_append_nil_string (P := P) w T Tu ty el i (.int .u8 0) ht hu hi hz q (by omega) (by omega) (by rw [hb]; omega)
      rw [h1] at hr
      injection hr with e1 e2
      rw [e1]; exact .inr rfl
  · by_cases hroom : n + q.size ≤ cap
    · have hr := Lib.run_append_room_string (P := P) w T Tu ty el i ht hu hi hs g n cap cur hg q hroom (by omega)
      rw [h1] at hr
      injection hr with e1 e2
      rw [e1]; exact .inl rfl
    · have holds : ∀ j u, vals[j]? = some u → w.cell? ((⟨g, 0, none⟩ : Addr).add j) = some u := how.cells (g := g) rfl
      have hxl : vals.length = n * 1 := how.1
      have hr := Lib.run_append_grow_string (P := P) w T Tu ty el i (.int .u8 0) ht hu hi hz ⟨g, 0, none⟩ n cap vals (by rw [hs]; omega) holds q (by omega) (by omega) (by rw [hb]; exact growslice_fits (by omega) (by omega))
      rw [h1] at hr
      injection hr with e1 e2
      rw [e1]; exact .inr rfl
variable {Tu el : Nat} {es : Ty} {l : List UInt8}
theorem byte_parts (htb : TbOk P tb) (hE : nth tb el = some ee) (hz : ee.zeroV = some (.int .u8 0)) (hsz : Nat.beq ee.size 1 = true) (hby : Nat.beq ee.bytes 1 = true) : ∃ i, P.info? el = some i ∧ i.zero = some (.int .u8 0) ∧ i.size = 1 ∧ i.bytes = 1 := by
  obtain ⟨i, zv, e1, e2, e3, e4, e5, e6, _⟩ := elem_parts (default : World) htb hE hz (Nat.eq_of_beq_eq_true hsz) rfl
  have : zv = .int .u8 0 := rep_int (e6 (fun _ => False) (fun _ => False) (fun _ => ⟨none, 0, 0⟩) default)
  subst this
  exact ⟨i, e1, e2, e3, by rw [e4]; exact Nat.eq_of_beq_eq_true hby⟩
theorem law_appS {x y : Operand} {n ν : Nat} {m : List UInt8} (htb : TbOk P tb) (ho : o.op = .call { callee := .builtin .append, args := #[x, y], argTypes := #[T, Tu] }) (hT : nth tb T = some e) (hs : e.sl = some el) (hE : nth tb el = some ee) (hz : ee.zeroV = some (.int .u8 0)) (hsz : Nat.beq ee.size 1 = true) (hby : Nat.beq ee.bytes 1 = true) (hU : nth tb Tu = some es) (hku : Nat.beq es.knd 2 = true)
    (hlim : m.length + l.length ≤ LIM) : OpLaw P N o ⟨[(x, .own n 0 m.length), (y, strT l)], [(n, .els el 1 (m.map byteT))]⟩ (.own ν 0 (m ++ l).length) [(n, none), (ν, some (.els el 1 ((m ++ l).map byteT)))] [ν] := fun s M A φ a w hh hr hν hd => by
  obtain ⟨ti, d, ht⟩ := ty_at htb hT
  obtain ⟨tu, du, hu⟩ := ty_at htb hU
  obtain ⟨i, e1, e2, e3, e4⟩ := byte_parts htb hE hz hsz hby
  obtain ⟨g0, g1, g2, g3, g4, g5⟩ := hr.st n _ hh.n
  obtain ⟨vals, h1, h2, h3⟩ := own_src hr hh.n (hr.ev hh.a) (by simp)
  have hy := (rep_str (hr.ev hh.b)).1
  have hq : (str l).size = l.length := str_size l
  obtain ⟨v', w', h4, h5, h7, h8⟩ := run_appS (P := P) (ty := o.type) (q := str l) (slOf_und ht hs) (und_str hu hku) e1 e2 e3 e4 h1 (by rw [hq]; exact maxLen_ge hlim) (by rw [hq]; exact hlim)
  unfold Oper.wp
  have hex : (execOp a.eval o).run P w = .ok (.value v') w' := by
    unfold execOp
    simp only [ho, resolve, invoke, builtin, Sem.run_bind, Sem.run_pure, Result.andThen_ok, List.map_toArray, List.map_cons, List.map_nil, hy, h4]
  rw [hex]
  rw [hq, show m.length + l.length = (m ++ l).length by simp] at h5
  refine rel_append (kill := some n) hr (hν ν (by simp)) (fun n' hn => by cases hn; exact ⟨_, hh.n⟩) (fun b hb => ⟨n, rfl, h3 b hb⟩) h5 h7 h8 g2 (by simp) (by simpa using hlim) (fun q hq => ?_) (by rw [List.map_append, flat_app]; exact h2.append (bytes_reps l)) hd
  obtain ⟨c, _, rfl⟩ := List.mem_map.1 hq
  exact ⟨rfl, fun u hu => by simp [byteT, V.cells] at hu; subst hu; rfl⟩
theorem law_appS_nil {x y : Operand} {ν : Nat} (htb : TbOk P tb) (ho : o.op = .call { callee := .builtin .append, args := #[x, y], argTypes := #[T, Tu] }) (hT : nth tb T = some e) (hs : e.sl = some el) (hE : nth tb el = some ee) (hz : ee.zeroV = some (.int .u8 0)) (hsz : Nat.beq ee.size 1 = true) (hby : Nat.beq ee.bytes 1 = true) (hU : nth tb Tu = some es) (hku : Nat.beq es.knd 2 = true)
    (hlim : l.length ≤ LIM) : OpLaw P N o ⟨[(x, .nils), (y, strT l)], []⟩ (.own ν 0 l.length) [(ν, some (.els el 1 (l.map byteT)))] [ν] := fun s M A φ a w hh hr hν hd => by
  obtain ⟨ti, d, ht⟩ := ty_at htb hT
  obtain ⟨tu, du, hu⟩ := ty_at htb hU
  obtain ⟨i, e1, e2, e3, e4⟩ := byte_parts htb hE hz hsz hby
  have hx : a.eval x = .slice none 0 0 := by
    have h : ∀ q, Rep (fun b => M b ∨ N b) A φ w .nils q → q = .slice none 0 0 := fun q h => by
      cases h with
      | fz h => cases h; rfl
    exact h _ (hr.ev hh.a)
  have hy := (rep_str (hr.ev hh.b)).1
  have hq : (str l).size = l.length := str_size l
  obtain ⟨v', w', h4, h5, h7, h8⟩ := run_appS (P := P) (w := w) (ty := o.type) (q := str l) (slOf_und ht hs) (und_str hu hku) e1 e2 e3 e4 (World.ownsRow_nil w 0 el 1) (by rw [hq, Nat.zero_add]; exact maxLen_ge hlim) (by rw [hq, Nat.zero_add]; exact hlim)
  unfold Oper.wp
  have hex : (execOp a.eval o).run P w = .ok (.value v') w' := by
    unfold execOp
    simp only [ho, resolve, invoke, builtin, Sem.run_bind, Sem.run_pure, Result.andThen_ok, List.map_toArray, List.map_cons, List.map_nil, hx, hy, h4]
  rw [hex]
  rw [hq, Nat.zero_add, List.nil_append] at h5
  refine rel_append (kill := none) (vx := .slice none 0 0) hr (hν ν (by simp)) (fun n' hn => by cases hn) (fun b hb => by simp [Value.ownBlock] at hb) h5 h7 h8 (by omega) (by simp) hlim (fun q hq => ?_) (bytes_reps l) hd
  obtain ⟨c, _, rfl⟩ := List.mem_map.1 hq
  exact ⟨rfl, fun u hu => by simp [byteT, V.cells] at hu; subst hu; rfl⟩
/-! ### A text out of bytes that nobody writes any more -/
theorem rel_gone {n b nx : Nat} {k : Blk} {dst : Option Nat} {v : V} {x : Value} (hr : Rel N M A φ s a w) (hk : s.blk n = some k) (hb : (φ n).blk = some b) (hst : Stays (fun q => q = b) w w') (hsz : w'.heap.size = w.heap.size) (hv : ∀ X A φ, Rep X A φ w' v x) (hd : ∀ d, dst = some d → d < s.nt) :
    ∃ M' φ', Stays M w w' ∧ (∀ b, b < w.heap.size → M' b → M b) ∧ Rel N M' (fun n => A n ∨ n ∈ ([] : List Nat)) φ' (s.eff dst v [(n, none)] nx) (a.put dst x) w' := by
  have hM : M b := hr.lt_blk hk hb
  have hs : Stays (fun b => M b ∨ N b) w w' := ⟨hst.os, hst.tape, hst.output, hst.size, fun q hq hm => hst.block q hq fun e => hm (.inl (e ▸ hM))⟩
  refine ⟨M, φ, ⟨hst.os, hst.tape, hst.output, hst.size, fun q hq hm => hst.block q hq fun e => hm (e ▸ hM)⟩, fun _ _ h => h, ?_⟩
  have eb : ∀ m, (s.eff none .und [(n, none)] nx).blk m = if n = m then none else s.blk m := fun m => by
    unfold S.blk S.eff
    simp only [List.cons_append, List.nil_append, lk_put]
    by_cases e : n = m <;> simp [e]
  have hgrow : Rel N M A φ (s.eff none .und [(n, none)] nx) a w' := by
    refine ⟨fun t u ht => ?_, hr.nt, fun m k' hk' => ?_, fun m m' q q' b' e1 e2 e3 e4 => ?_, fun b' hb' => ?_, hr.dis, hr.df, hr.pin, hr.gl.stays hs fun _ _ h => h⟩
    · obtain ⟨g1, g2⟩ := hr.tm t u ht
      exact ⟨g1, g2.mono (fun _ _ h => h) hs (fun _ h => h) fun _ _ => rfl⟩
    · rw [eb] at hk'
      split at hk'
      · cases hk'
      rename_i hne
      obtain ⟨g1, g2⟩ := hr.st m k' hk'
      refine ⟨g1, g2.mono (fun _ _ h => h) hs (fun _ h => h) (fun _ _ => rfl) (fun _ h => h) fun b' hb' => ?_⟩
      refine hst.block b' (hr.lim b' (.inl (hr.lt_blk hk' hb'))) fun e => hne ?_
      subst e
      exact hr.inj n m k k' b' hk hk' hb hb'
    · rw [eb] at e1 e2
      split at e1
      · cases e1
      split at e2
      · cases e2
      exact hr.inj m m' q q' b' e1 e2 e3 e4
    · rw [hsz]; exact hr.lim b' hb'
  have h9 := rel_dst (nx := nx) hgrow (hv _ _ _) hd
  refine (h9.wider fun n h => .inl h).as (fun t => ?_) (fun n => rfl) rfl
  cases dst <;> rfl
theorem law_sdata {x : Operand} {n sz k el : Nat} {xs : List V} {ts : Array TypeId} (ho : o.op = .call { callee := .builtin .unsafeSliceData, args := #[x], argTypes := ts }) (hk : xs.length = k) (h0 : xs ≠ []) :
    OpLaw P N o ⟨[(x, .own n 0 k)], [(n, .els el sz xs)]⟩ (.loc n 0 0) [] [] := law_pure fun s M A φ a w hh hr => by
  obtain ⟨g0, g1, g2, g3, g4, g5⟩ := hr.st n _ hh.n
  have hpos := List.length_pos_iff.2 h0
  have hx := hr.ev hh.a
  rcases g5 with ⟨_, h, _⟩ | ⟨b, cur, k1, k2, k3, k4, k5, k6, k7⟩
  · exact absurd h h0
  have e : ∀ q, Rep (fun b => M b ∨ N b) A φ w (.own n 0 k) q → q = .slice (some ⟨b, 0, none⟩) k (φ n).cap := fun q hx => by
    cases hx with
    | fz h => cases h
    | own0 h1 h2 => rw [k1] at h2; cases h2
    | own h1 h2 h3 h4 => rw [k1] at h2; cases h2; simp
  have e := e _ hx
  refine ⟨.pointer (some ⟨b, 0, none⟩), ?_, ?_⟩
  · unfold execOp
    simp only [ho, resolve, invoke, builtin, Sem.run_bind, Sem.run_pure, Result.andThen_ok, List.map_toArray, List.map_cons, List.map_nil, e, Lib.run_unsafeSliceData_row (P := P) w ts o.type ⟨b, 0, none⟩ k (φ n).cap (by omega)]
  · have := Rep.loc (X := fun b => M b ∨ N b) (A := A) (φ := φ) (w := w) (n := n) (i := 0) (off := 0) (b := b) g0 k1
    simpa using this
theorem law_sdata_nils {x : Operand} {ts : Array TypeId} (ho : o.op = .call { callee := .builtin .unsafeSliceData, args := #[x], argTypes := ts }) :
    OpLaw P N o ⟨[(x, .nils)], []⟩ .nilp [] [] := law_pure fun s M A φ a w hh hr => by
  have e : a.eval x = .slice none 0 0 := by
    have h : ∀ q, Rep (fun b => M b ∨ N b) A φ w .nils q → q = .slice none 0 0 := fun q h => by
      cases h with
      | fz h => cases h; rfl
    exact h _ (hr.ev hh.a)
  refine ⟨.pointer none, ?_, .fz .nilp⟩
  unfold execOp
  simp only [ho, resolve, invoke, builtin, Sem.run_bind, Sem.run_pure, Result.andThen_ok, List.map_toArray, List.map_cons, List.map_nil, e, Lib.run_unsafeSliceData_nil (P := P) w ts o.type 0 0]
theorem law_ustr {x y : Operand} {n pt it : Nat} (ho : o.op = .call { callee := .builtin .unsafeString, args := #[x, y], argTypes := #[pt, it] }) (hp : P.underlying pt = some (.pointer el)) (hc : P.cellsOf el = 1) (h0 : l ≠ []) :
    OpLaw P N o ⟨[(x, .loc n 0 0), (y, .int .i64 l.length)], [(n, .els el 1 (l.map byteT))]⟩ (strT l) [(n, none)] [] := fun s M A φ a w hh hr _ hd => by
  obtain ⟨g0, g1, g2, g3, g4, g5⟩ := hr.st n _ hh.n
  rcases g5 with ⟨_, h, _⟩ | ⟨b, cur, k1, k2, k3, k4, k5, k6, k7⟩
  · exact absurd (List.map_eq_nil_iff.1 h) h0
  have e1 : a.eval x = .pointer (some ⟨b, 0, none⟩) := by
    obtain ⟨b', h1, h2⟩ := rep_loc (hr.ev hh.a)
    rw [k1] at h1; cases h1
    rw [h2]; simp
  have e2 := rep_int (hr.ev hh.b)
  rw [List.length_map] at g3 k5
  have hsh : w.shape? b = some (el, (φ n).cap) := by simp [World.shape?, k3, k4]
  have hcell : ∀ j x, l[j]? = some x → w.cell? ((⟨b, 0, none⟩ : Addr).add j) = some (.int .u8 x.toNat) := fun j c hj => by
    obtain ⟨q, h1, h2⟩ := k7 j 0 (byteT c) (byteT c) (by simp [hj]) rfl
    have h3 := rep_int h2
    subst h3
    have e : (⟨b, 0, none⟩ : Addr).add j = ⟨b, j, none⟩ := by
      unfold Addr.add
      split
      · subst_vars; rfl
      · simp
    rw [e]
    simp only [Nat.mul_one, Nat.add_zero] at h1
    simp [World.cell?, k3, h1]
  have hl : l.length ≤ LIM := g3
  have hrun := Lib.run_unsafeString_row (P := P) w pt it o.type el hp hc b (φ n).cap hsh l h0 k5 (by simp only [LIM] at hl; omega) hcell
  have hex : (execOp a.eval o).run P w = .ok (.value (.string ⟨l.toArray⟩)) (w.freeze ⟨b, 0, none⟩ l.length) := by
    unfold execOp
    simp only [ho, resolve, invoke, builtin, Sem.run_bind, Sem.run_pure, Result.andThen_ok, List.map_toArray, List.map_cons, List.map_nil, e1, e2, hrun]
  unfold Oper.wp
  rw [hex]
  have hs : Stays (fun q => q = b) w (w.freeze ⟨b, 0, none⟩ l.length) ∧ (w.freeze ⟨b, 0, none⟩ l.length).heap.size = w.heap.size := by
    unfold World.freeze
    split
    · exact ⟨.refl _ w, rfl⟩
    · refine ⟨⟨rfl, rfl, rfl, by simp, fun k hk hm => ?_⟩, by simp⟩
      simp only [Array.getElem?_modify]
      rw [if_neg (fun e => hm e.symm)]
  refine rel_gone hr hh.n k1 hs.1 hs.2 (fun X A φ => .fz (.str ?_)) hd
  show (str l).size ≤ SLIM
  rw [str_size]
  simp only [LIM] at hl
  simp only [SLIM]; omega
theorem law_ustr_nil {x y : Operand} {pt it : Nat} (ho : o.op = .call { callee := .builtin .unsafeString, args := #[x, y], argTypes := #[pt, it] }) :
    OpLaw P N o ⟨[(x, .nilp), (y, .int .i64 0)], []⟩ (strT []) [] [] := law_pure fun s M A φ a w hh hr => by
  have e1 := rep_nilp (hr.ev hh.a)
  have e2 := rep_int (hr.ev hh.b)
  refine ⟨.string .empty, ?_, .fz (.str (by show (str []).size ≤ SLIM; rw [str_size]; decide))⟩
  unfold execOp
  simp only [ho, resolve, invoke, builtin, Sem.run_bind, Sem.run_pure, Result.andThen_ok, List.map_toArray, List.map_cons, List.map_nil, e1, e2, Lib.run_unsafeString_none (P := P) w pt it o.type none]
/-! ### A call without a body that gives its argument -/
theorem law_same {f : Nat} {v : V} {ts : Array TypeId} (ho : o.op = .call { callee := .value (.func f), args := #[x], argTypes := ts }) (h : ∀ (y : Value) (w : World), (callFunc f #[y]).run P w = .ok (.value y) w) : OpLaw P N o ⟨[(x, v)], []⟩ v [] [] := law_pure fun s M A φ a w hh hr => by
  refine ⟨a.eval x, ?_, hr.ev hh.a⟩
  unfold execOp
  simp only [ho, resolve, Act.eval, Deferred.ofValue, Sem.run_bind, Sem.run_pure, Result.andThen_ok, invoke, Array.append_empty, Array.empty_append, List.map_toArray, List.map_cons, List.map_nil]
  exact h _ _
end
section
variable {P : Program} {N : Env} {l r : List Oper} {o : Oper} {tm : List (Nat × V)} {st : List (Nat × Option Blk)} {nx nt : Nat} {tr : List Tr} {K : S → List Tr → Prop} {fp : Fp} {v : V}
theorem r_kill {d n : Nat} (hg : guardV l o ⟨tm, st, nx, nt⟩ = some true) (hd : o.dst = some d) (hlt : Nat.blt d nt = true) (law : OpLaw P N o fp v [(n, none)] []) (hh : Holds fp ⟨tm, st, nx, nt⟩) (k : ARun P N l K r ⟨(d, v) :: tm, (n, none) :: st, nx, nt⟩ (tr ++ [trOf l o fp [(n, none)]])) : ARun P N l K (o :: r) ⟨tm, st, nx, nt⟩ tr :=
  .on fp v [(n, none)] [] nx hg law hh ⟨Nat.le_refl _, fun n h => by simp at h⟩ (fun d' h => by rw [hd] at h; cases h; exact blt_lt hlt) (by
    have e : S.eff ⟨tm, st, nx, nt⟩ o.dst v [(n, none)] nx = ⟨(d, v) :: tm, (n, none) :: st, nx, nt⟩ := by rw [hd]; rfl
    rw [e]; exact k)
theorem r_put {d n : Nat} {b : Blk} (hg : guardV l o ⟨tm, st, nx, nt⟩ = some true) (hd : o.dst = some d) (hlt : Nat.blt d nt = true) (law : OpLaw P N o fp v [(n, some b)] []) (hh : Holds fp ⟨tm, st, nx, nt⟩) (k : ARun P N l K r ⟨(d, v) :: tm, (n, some b) :: st, nx, nt⟩ (tr ++ [trOf l o fp [(n, some b)]])) : ARun P N l K (o :: r) ⟨tm, st, nx, nt⟩ tr :=
  .on fp v [(n, some b)] [] nx hg law hh ⟨Nat.le_refl _, fun n h => by simp at h⟩ (fun d' h => by rw [hd] at h; cases h; exact blt_lt hlt) (by
    have e : S.eff ⟨tm, st, nx, nt⟩ o.dst v [(n, some b)] nx = ⟨(d, v) :: tm, (n, some b) :: st, nx, nt⟩ := by rw [hd]; rfl
    rw [e]; exact k)
end
/-! ### A nil slice within a row may be named -/
def nameAt (ν : Nat) : Nat → List V → Option (List V)
  | 0, .nils :: r => some (.own ν 0 0 :: r)
  | i + 1, v :: r => match nameAt ν i r with
    | some q => some (v :: q)
    | none => none
  | _, _ => none
theorem nameAt_spec {ν : Nat} : ∀ {i : Nat} {cs cs' : List V}, nameAt ν i cs = some cs' → cs'.length = cs.length ∧ ∀ (j : Nat) u', cs'[j]? = some u' → cs[j]? = some u' ∨ (cs[j]? = some .nils ∧ u' = .own ν 0 0)
  | 0, cs, cs', h => by
    cases cs with
    | nil => simp [nameAt] at h
    | cons v r =>
      cases v <;> simp only [nameAt] at h <;> cases h
      refine ⟨rfl, fun j u' hu => ?_⟩
      rcases j with _ | j
      · simp at hu; subst hu; exact .inr ⟨rfl, rfl⟩
      · exact .inl (by simpa using hu)
  | i + 1, [], cs', h => by simp [nameAt] at h
  | i + 1, v :: r, cs', h => by
    rw [nameAt] at h
    split at h <;> cases h
    rename_i q hq
    obtain ⟨h1, h2⟩ := nameAt_spec hq
    refine ⟨by simp [h1], fun j u' hu => ?_⟩
    rcases j with _ | j
    · exact .inl (by simpa using hu)
    · simpa using h2 j u' (by simpa using hu)
section
variable {P : Program} {N : Env} {c : Code} {Q : Exit → S → Prop}
theorem awp_nameR {tm : List (Nat × V)} {st : List (Nat × Option Blk)} {nx nt T1 sz1 : Nat} {cs cs' : List V} (n i T sz : Nat) (hB : S.blk ⟨tm, st, nx, nt⟩ n = some (.els T1 sz1 [.agg cs])) (hi : nameAt nx i cs = some cs') (h0 : 0 < sz) (hK : Nat.ble N.K nx = true) (k : AWp P N c Q ⟨tm, (n, some (.els T1 sz1 [.agg cs'])) :: (nx, some (.els T sz [])) :: st, nx + 1, nt⟩) : AWp P N c Q ⟨tm, st, nx, nt⟩ := fun M φ a w hr => by
  obtain ⟨hl, hs⟩ := nameAt_spec hi
  let φ' : Nat → Pl := fun n => if n = nx then ⟨none, sz, 0⟩ else φ n
  have hφ : ∀ n, n < nx → φ' n = φ n := fun n hn => if_neg (by omega)
  have hφν : φ' nx = ⟨none, sz, 0⟩ := if_pos rfl
  have hA : ∀ n, n < nx → n < nx + 1 := fun n h => by omega
  have hnlt : n < nx := (hr.st n _ hB).1
  have eb : ∀ m, S.blk ⟨tm, (n, some (.els T1 sz1 [.agg cs'])) :: (nx, some (.els T sz [])) :: st, nx + 1, nt⟩ m = if n = m then some (.els T1 sz1 [.agg cs']) else if nx = m then some (.els T sz []) else S.blk ⟨tm, st, nx, nt⟩ m := fun m => by
    unfold S.blk
    simp only [lk_put]
    by_cases e : n = m
    · simp [e]
    · by_cases e2 : nx = m <;> simp [e, e2]
  have nilx : ∀ x, Rep (fun b => M b ∨ N b) (· < nx) φ w .nils x → x = .slice none 0 0 := fun x h => by
    cases h with
    | fz h => cases h; rfl
  have name : ∀ m b, S.blk ⟨tm, (n, some (.els T1 sz1 [.agg cs'])) :: (nx, some (.els T sz [])) :: st, nx + 1, nt⟩ m = some b → m = nx ∨ ∃ b', S.blk ⟨tm, st, nx, nt⟩ m = some b' := fun m b h => by
    rw [eb] at h
    split at h
    · rename_i e; subst e; exact .inr ⟨_, hB⟩
    · split at h
      · rename_i e; exact .inl e.symm
      · exact .inr ⟨_, h⟩
  refine k M φ' a w ⟨fun q v hq => ?_, hr.nt, fun m b hb => ?_, fun m m' b b' x e1 e2 e3 e4 => ?_, hr.lim, hr.dis, hr.df, fun m hm => ?_, hr.gl⟩
  · obtain ⟨g1, g2⟩ := hr.tm q v hq
    exact ⟨g1, g2.mono (fun _ _ h => h) (.refl _ w) hA hφ⟩
  · rw [eb] at hb
    split at hb
    · rename_i e
      subst e; cases hb
      refine ⟨hA _ hnlt, ?_⟩
      obtain ⟨_, g1, g2, g3, g4, g5⟩ := hr.st _ _ hB
      rw [hφ _ hnlt]
      have hcs := g4 (.agg cs) (by simp)
      refine ⟨g1, g2, g3, fun x hx => ?_, g5.imp (fun h => absurd h.2.1 (by simp)) ?_⟩
      · rw [List.mem_singleton] at hx; subst hx
        refine ⟨by show cs'.length = sz1; rw [hl]; exact hcs.1, fun u hu => ?_⟩
        obtain ⟨j, hj⟩ := List.mem_iff_getElem?.1 (show u ∈ cs' from hu)
        rcases hs j u hj with h | ⟨_, h⟩
        · exact hcs.2 u (List.mem_of_getElem? (show (V.agg cs).cells[j]? = some u from h))
        · subst h; rfl
      · rintro ⟨b, cur, k1, k2, k3, k4, k5, k6, k7⟩
        refine ⟨b, cur, k1, k2, k3, k4, k5, k6, fun i' j x u hx hu => ?_⟩
        rcases i' with _ | i'
        · simp at hx; subst hx
          rcases hs j u hu with h | ⟨h, rfl⟩
          · obtain ⟨q, f1, f2⟩ := k7 0 j (.agg cs) u rfl h
            exact ⟨q, f1, f2.mono (fun _ _ h => h) (.refl _ w) hA hφ⟩
          · obtain ⟨q, f1, f2⟩ := k7 0 j (.agg cs) .nils rfl h
            have := nilx _ f2
            subst this
            exact ⟨_, f1, .own0 (Nat.lt_succ_self nx) (by rw [hφν])⟩
        · simp at hx
    · split at hb
      · rename_i e
        subst e; cases hb
        refine ⟨Nat.lt_succ_self nx, by rw [hφν], h0, by simp [LIM], (by intro x hx; simp at hx), .inl ⟨by rw [hφν], rfl, by rw [hφν]⟩⟩
      · obtain ⟨g1, g2⟩ := hr.st m b hb
        have g1 : m < nx := g1
        refine ⟨hA m g1, ?_⟩
        rw [hφ m g1]
        exact g2.mono (fun _ _ h => h) (.refl _ w) hA hφ (fun _ h => h) fun _ _ => rfl
  · rcases name m b e1 with rfl | ⟨c1, f1⟩
    · rw [hφν] at e3; cases e3
    · rcases name m' b' e2 with rfl | ⟨c2, f2⟩
      · rw [hφν] at e4; cases e4
      · have g1 : m < nx := (hr.st m _ f1).1
        have g2 : m' < nx := (hr.st m' _ f2).1
        rw [hφ m g1] at e3
        rw [hφ m' g2] at e4
        exact hr.inj m m' _ _ x f1 f2 e3 e4
  · obtain ⟨g1, g2⟩ := hr.pin m hm
    exact ⟨hA m g1, (hφ m g1).trans g2⟩
end
/-! ### Nil slices as slices of nothing, wherever they stand -/
mutual
def V.nfd : V → V
  | .nils => .fro []
  | .agg vs => .agg (nfdL vs)
  | .tup vs => .tup (nfdL vs)
  | v => v
def V.nfdL : List V → List V
  | [] => []
  | v :: r => v.nfd :: nfdL r
end
theorem nfdL_map : ∀ l : List V, V.nfdL l = l.map V.nfd
  | [] => rfl
  | v :: r => by rw [V.nfdL, nfdL_map r]; rfl
theorem nfd_one (v : V) (h : v.one = true) : v.nfd.one = true := by
  cases v <;> first | rfl | (simp [V.one] at h)
theorem Fz.nfd {X : Nat → Prop} {w : World} {v : V} {x : Value} (h : Fz X w v x) : Fz X w v.nfd x := by
  induction h with
  | nils => rw [V.nfd]; exact .fro0 (fun _ => rfl)
  | agg h1 h2 h3 ih =>
    rw [V.nfd, nfdL_map]
    refine .agg (by simpa using h1) (fun v hv => ?_) fun i x c hx hc => ?_
    · obtain ⟨u, hu, rfl⟩ := List.mem_map.1 hv
      exact nfd_one u (h2 u hu)
    · rw [List.getElem?_map, Option.map_eq_some_iff] at hx
      obtain ⟨u, hu, rfl⟩ := hx
      exact ih i u c hu hc
  | tup h1 h3 ih =>
    rw [V.nfd, nfdL_map]
    refine .tup (by simpa using h1) fun i x c hx hc => ?_
    rw [List.getElem?_map, Option.map_eq_some_iff] at hx
    obtain ⟨u, hu, rfl⟩ := hx
    exact ih i u c hu hc
  | int h => exact .int h
  | bool => exact .bool
  | str h => exact .str h
  | fro0 h => exact .fro0 h
  | fro c h1 h2 h3 h4 h5 h6 h7 h8 => exact .fro c h1 h2 h3 h4 h5 h6 h7 h8
  | fp c h1 h2 h3 h4 h5 => exact .fp c h1 h2 h3 h4 h5
  | nilp => exact .nilp
  | fn h1 h2 h3 h4 => exact .fn h1 h2 h3 h4
  | nilf => exact .nilf
  | ifc h => exact .ifc h
  | nili => exact .nili
  | nilm => exact .nilm
  | und => exact .und
theorem ACallsG.nfd {P : Program} {g : Glob} {f : FuncId} {args : List V} {r r' : V} (h : ACallsG P g f args r) (e : r.nfd = r') : ACallsG P g f args r' := fun N w vs hG hN hl hv => (h N w vs hG hN hl hv).mono fun _ _w' ⟨x, h1, h2, h3⟩ => ⟨x, h1, h2, e ▸ h3.nfd⟩
theorem ACalls.nfd {P : Program} {f : FuncId} {args : List V} {r r' : V} (h : ACalls P f args r) (e : r.nfd = r') : ACalls P f args r' := fun g => (h g).nfd e
section
variable {P : Program} {N : Env} {l r : List Oper} {o : Oper} {tm : List (Nat × V)} {st : List (Nat × Option Blk)} {nx nt : Nat} {tr : List Tr} {K : S → List Tr → Prop} {tb : List Ty} {d T : Nat} {t t' : TypeId} {x y z : Operand} {a b n : Int} {p q : List UInt8} {u v : Bool} {e ee : Ty}
theorem x_same {f : Nat} {w : V} {ts : Array TypeId} (h : ∀ (y : Value) (w : World), (callFunc f #[y]).run P w = .ok (.value y) w) (k : ARun P N l K r ⟨(d, w) :: tm, st, nx, nt⟩ (tr ++ [trOf l o ⟨[(x, w)], []⟩ []])) (ho : o.op = .call { callee := .value (.func f), args := #[x], argTypes := ts } := by rfl) (hx : S.ev ⟨tm, st, nx, nt⟩ x = some (w) := by rfl) (hg : guardV l o ⟨tm, st, nx, nt⟩ = some true := by rfl) (hd : o.dst = some d := by rfl) (hlt : Nat.blt d nt = true := by rfl) : ARun P N l K (o :: r) ⟨tm, st, nx, nt⟩ tr := r_val hg hd hlt (law_same ho h) (hT hx h0) k
theorem x_toU {m sz off el1 : Nat} {xs : List V} (_htb : TbOk P tb) (k : ARun P N l K r ⟨(d, .loc m 0 off) :: tm, st, nx, nt⟩ (tr ++ [trOf l o ⟨[(x, .loc m 0 off)], [(m, .els el1 sz xs)]⟩ []])) (ho : o.op = .convert t t' x := by rfl) (_hk5 : (nth tb t).map Ty.knd = some 5 := by rfl) (hx : S.ev ⟨tm, st, nx, nt⟩ x = some (.loc m 0 off) := by rfl) (hg : guardV l o ⟨tm, st, nx, nt⟩ = some true := by rfl) (hd : o.dst = some d := by rfl) (hlt : Nat.blt d nt = true := by rfl) (hB : S.blk ⟨tm, st, nx, nt⟩ m = some (.els el1 sz xs) := by rfl) (hs : P.underlying t = some (.pointer (P.pointee t)) := by kernel_rfl) (hd' : P.underlying t' = some .unsafePointer := by kernel_rfl) (hj : ((P.info? (P.pointee t)).map fun j => Nat.beq j.size 0) = some false := by kernel_rfl) (hl : xs ≠ [] := by simp) (hoff : off < sz := by decide) : ARun P N l K (o :: r) ⟨tm, st, nx, nt⟩ tr := by
  cases h : P.info? (P.pointee t) with
  | none => rw [h] at hj; cases hj
  | some j =>
    rw [h] at hj
    exact r_val hg hd hlt (law_toU ho hs hd' h (Option.some.inj hj) hl hoff) (hT hx (hN hB h0)) k
theorem x_fromU {m sz el1 : Nat} {xs : List V} (_htb : TbOk P tb) (k : ARun P N l K r ⟨(d, .loc m 0 0) :: tm, st, nx, nt⟩ (tr ++ [trOf l o ⟨[(x, .loc m 0 0)], [(m, .els el1 sz xs)]⟩ []])) (ho : o.op = .convert t t' x := by rfl) (_hk5 : (nth tb t').map Ty.knd = some 5 := by rfl) (hx : S.ev ⟨tm, st, nx, nt⟩ x = some (.loc m 0 0) := by rfl) (hg : guardV l o ⟨tm, st, nx, nt⟩ = some true := by rfl) (hd : o.dst = some d := by rfl) (hlt : Nat.blt d nt = true := by rfl) (hB : S.blk ⟨tm, st, nx, nt⟩ m = some (.els el1 sz xs) := by rfl) (hs : P.underlying t = some .unsafePointer := by kernel_rfl) (hd' : P.underlying t' = some (.pointer (P.pointee t')) := by kernel_rfl) (hj : (P.info? (P.pointee t')).isSome = true := by kernel_rfl) (hc : P.cellsOf el1 = sz := by kernel_rfl) (hlies : liesAt P P.depth el1 1 0 (P.pointee t') 1 = true := by kernel_rfl) (hl : xs ≠ [] := by simp) : ARun P N l K (o :: r) ⟨tm, st, nx, nt⟩ tr := by
  obtain ⟨j, hj⟩ := Option.isSome_iff_exists.1 hj
  exact r_val hg hd hlt (law_fromU ho hs hd' hj hc hlies hl) (hT hx (hN hB h0)) k
theorem x_eqlPN (k : ARun P N l K r ⟨(d, .bool true) :: tm, st, nx, nt⟩ (tr ++ [trOf l o ⟨[(x, .nilp), (y, .nilp)], []⟩ []])) (ho : o.op = .binOp .eql t x y t' := by rfl) (hx : S.ev ⟨tm, st, nx, nt⟩ x = some (.nilp) := by rfl) (hy : S.ev ⟨tm, st, nx, nt⟩ y = some (.nilp) := by rfl) (hg : guardV l o ⟨tm, st, nx, nt⟩ = some true := by rfl) (hd : o.dst = some d := by rfl) (hlt : Nat.blt d nt = true := by rfl) (ht : P.underlying t = some (.pointer (P.pointee t)) := by kernel_rfl) : ARun P N l K (o :: r) ⟨tm, st, nx, nt⟩ tr := r_val hg hd hlt (law_eql_ptrN ho ht (.inl ⟨rfl, rfl⟩)) (hT hx (hT hy h0)) k
theorem x_eqlPL {m i0 off : Nat} (k : ARun P N l K r ⟨(d, .bool false) :: tm, st, nx, nt⟩ (tr ++ [trOf l o ⟨[(x, .loc m i0 off), (y, .nilp)], []⟩ []])) (ho : o.op = .binOp .eql t x y t' := by rfl) (hx : S.ev ⟨tm, st, nx, nt⟩ x = some (.loc m i0 off) := by rfl) (hy : S.ev ⟨tm, st, nx, nt⟩ y = some (.nilp) := by rfl) (hg : guardV l o ⟨tm, st, nx, nt⟩ = some true := by rfl) (hd : o.dst = some d := by rfl) (hlt : Nat.blt d nt = true := by rfl) (ht : P.underlying t = some (.pointer (P.pointee t)) := by kernel_rfl) : ARun P N l K (o :: r) ⟨tm, st, nx, nt⟩ tr := r_val hg hd hlt (law_eql_ptrN ho ht (.inr ⟨⟨_, _, _, rfl⟩, rfl⟩)) (hT hx (hT hy h0)) k
theorem x_neqPS {m i0 off : Nat} (k : ARun P N l K r ⟨(d, .bool false) :: tm, st, nx, nt⟩ (tr ++ [trOf l o ⟨[(x, .loc m i0 off), (y, .loc m i0 off)], []⟩ []])) (ho : o.op = .binOp .neq t x y t' := by rfl) (hx : S.ev ⟨tm, st, nx, nt⟩ x = some (.loc m i0 off) := by rfl) (hy : S.ev ⟨tm, st, nx, nt⟩ y = some (.loc m i0 off) := by rfl) (hg : guardV l o ⟨tm, st, nx, nt⟩ = some true := by rfl) (hd : o.dst = some d := by rfl) (hlt : Nat.blt d nt = true := by rfl) (ht : P.underlying t = some (.pointer (P.pointee t)) := by kernel_rfl) (hj : (P.info? (P.pointee t)).isSome = true := by kernel_rfl) : ARun P N l K (o :: r) ⟨tm, st, nx, nt⟩ tr := by
  obtain ⟨j, hj⟩ := Option.isSome_iff_exists.1 hj
  exact r_val hg hd hlt (law_neq_ptrS ho ht hj) (hT hx (hT hy h0)) k
theorem x_appS {m el : Nat} {es : Ty} (htb : TbOk P tb) (k : ARun P N l K r ⟨(d, .own nx 0 (p ++ q).length) :: tm, (m, none) :: (nx, some (.els el 1 ((p ++ q).map byteT))) :: st, nx + 1, nt⟩ (tr ++ [trOf l o ⟨[(x, .own m 0 p.length), (y, strT q)], [(m, .els el 1 (p.map byteT))]⟩ [(m, none), (nx, some (.els el 1 ((p ++ q).map byteT)))]])) (ho : o.op = .call { callee := .builtin .append, args := #[x, y], argTypes := #[t, t'] } := by rfl) (hx : S.ev ⟨tm, st, nx, nt⟩ x = some (.own m 0 p.length) := by rfl) (hy : S.ev ⟨tm, st, nx, nt⟩ y = some (strT q) := by rfl) (hg : guardV l o ⟨tm, st, nx, nt⟩ = some true := by rfl) (hd : o.dst = some d := by rfl) (hlt : Nat.blt d nt = true := by rfl) (hB : S.blk ⟨tm, st, nx, nt⟩ m = some (.els el 1 (p.map byteT)) := by rfl) (hT' : nth tb t = some e := by rfl) (hs : e.sl = some el := by rfl) (hE : nth tb el = some ee := by rfl) (hz : ee.zeroV = some (.int .u8 0) := by rfl) (hsz : Nat.beq ee.size 1 = true := by rfl) (hby : Nat.beq ee.bytes 1 = true := by rfl) (hU : nth tb t' = some es := by rfl) (hku : Nat.beq es.knd 2 = true := by rfl) (hlim : p.length + q.length ≤ LIM := by first | omega | (simp only [LIM] at *; omega)) : ARun P N l K (o :: r) ⟨tm, st, nx, nt⟩ tr := r_turn rfl hg hd hlt (law_appS htb ho hT' hs hE hz hsz hby hU hku hlim) (hT hx (hT hy (hN hB h0))) k
theorem x_appS0 {el : Nat} {es : Ty} (htb : TbOk P tb) (k : ARun P N l K r ⟨(d, .own nx 0 q.length) :: tm, (nx, some (.els el 1 (q.map byteT))) :: st, nx + 1, nt⟩ (tr ++ [trOf l o ⟨[(x, .nils), (y, strT q)], []⟩ [(nx, some (.els el 1 (q.map byteT)))]])) (ho : o.op = .call { callee := .builtin .append, args := #[x, y], argTypes := #[t, t'] } := by rfl) (hx : S.ev ⟨tm, st, nx, nt⟩ x = some (.nils) := by rfl) (hy : S.ev ⟨tm, st, nx, nt⟩ y = some (strT q) := by rfl) (hg : guardV l o ⟨tm, st, nx, nt⟩ = some true := by rfl) (hd : o.dst = some d := by rfl) (hlt : Nat.blt d nt = true := by rfl) (hT' : nth tb t = some e := by rfl) (hs : e.sl = some el := by rfl) (hE : nth tb el = some ee := by rfl) (hz : ee.zeroV = some (.int .u8 0) := by rfl) (hsz : Nat.beq ee.size 1 = true := by rfl) (hby : Nat.beq ee.bytes 1 = true := by rfl) (hU : nth tb t' = some es := by rfl) (hku : Nat.beq es.knd 2 = true := by rfl) (hlim : q.length ≤ LIM := by first | omega | (simp only [LIM] at *; omega)) : ARun P N l K (o :: r) ⟨tm, st, nx, nt⟩ tr := r_new rfl hg hd hlt (law_appS_nil htb ho hT' hs hE hz hsz hby hU hku hlim) (hT hx (hT hy h0)) k
theorem x_sdata {m el sz m1 : Nat} {xs : List V} {ts : Array TypeId} (k : ARun P N l K r ⟨(d, .loc m 0 0) :: tm, st, nx, nt⟩ (tr ++ [trOf l o ⟨[(x, .own m 0 m1)], [(m, .els el sz xs)]⟩ []])) (ho : o.op = .call { callee := .builtin .unsafeSliceData, args := #[x], argTypes := ts } := by rfl) (hx : S.ev ⟨tm, st, nx, nt⟩ x = some (.own m 0 m1) := by rfl) (hg : guardV l o ⟨tm, st, nx, nt⟩ = some true := by rfl) (hd : o.dst = some d := by rfl) (hlt : Nat.blt d nt = true := by rfl) (hB : S.blk ⟨tm, st, nx, nt⟩ m = some (.els el sz xs) := by rfl) (hk : xs.length = m1 := by simp) (hl : xs ≠ [] := by first | assumption | simp [*]) : ARun P N l K (o :: r) ⟨tm, st, nx, nt⟩ tr := r_val hg hd hlt (law_sdata ho hk hl) (hT hx (hN hB h0)) k
theorem x_sdata0 {ts : Array TypeId} (k : ARun P N l K r ⟨(d, .nilp) :: tm, st, nx, nt⟩ (tr ++ [trOf l o ⟨[(x, .nils)], []⟩ []])) (ho : o.op = .call { callee := .builtin .unsafeSliceData, args := #[x], argTypes := ts } := by rfl) (hx : S.ev ⟨tm, st, nx, nt⟩ x = some (.nils) := by rfl) (hg : guardV l o ⟨tm, st, nx, nt⟩ = some true := by rfl) (hd : o.dst = some d := by rfl) (hlt : Nat.blt d nt = true := by rfl) : ARun P N l K (o :: r) ⟨tm, st, nx, nt⟩ tr := r_val hg hd hlt (law_sdata_nils ho) (hT hx h0) k
theorem x_ustr {m el : Nat} (k : ARun P N l K r ⟨(d, strT p) :: tm, (m, none) :: st, nx, nt⟩ (tr ++ [trOf l o ⟨[(x, .loc m 0 0), (y, .int .i64 p.length)], [(m, .els el 1 (p.map byteT))]⟩ [(m, none)]])) (ho : o.op = .call { callee := .builtin .unsafeString, args := #[x, y], argTypes := #[t, t'] } := by rfl) (hx : S.ev ⟨tm, st, nx, nt⟩ x = some (.loc m 0 0) := by rfl) (hy : S.ev ⟨tm, st, nx, nt⟩ y = some (.int .i64 p.length) := by rfl) (hg : guardV l o ⟨tm, st, nx, nt⟩ = some true := by rfl) (hd : o.dst = some d := by rfl) (hlt : Nat.blt d nt = true := by rfl) (hB : S.blk ⟨tm, st, nx, nt⟩ m = some (.els el 1 (p.map byteT)) := by rfl) (hp : P.underlying t = some (.pointer el) := by kernel_rfl) (hc : P.cellsOf el = 1 := by kernel_rfl) (hl : p ≠ [] := by first | assumption | simp [*]) : ARun P N l K (o :: r) ⟨tm, st, nx, nt⟩ tr := r_kill hg hd hlt (law_ustr ho hp hc hl) (hT hx (hT hy (hN hB h0))) k
theorem x_ustr0 (k : ARun P N l K r ⟨(d, strT []) :: tm, st, nx, nt⟩ (tr ++ [trOf l o ⟨[(x, .nilp), (y, .int .i64 0)], []⟩ []])) (ho : o.op = .call { callee := .builtin .unsafeString, args := #[x, y], argTypes := #[t, t'] } := by rfl) (hx : S.ev ⟨tm, st, nx, nt⟩ x = some (.nilp) := by rfl) (hy : S.ev ⟨tm, st, nx, nt⟩ y = some (.int .i64 0) := by rfl) (hg : guardV l o ⟨tm, st, nx, nt⟩ = some true := by rfl) (hd : o.dst = some d := by rfl) (hlt : Nat.blt d nt = true := by rfl) : ARun P N l K (o :: r) ⟨tm, st, nx, nt⟩ tr := r_val hg hd hlt (law_ustr_nil ho) (hT hx (hT hy h0)) k
theorem x_range {w : ByteArray} (htb : TbOk P tb) (k : ARun P N l K r ⟨(d, .loc nx 0 0) :: tm, (nx, some (.sit w 0)) :: st, nx + 1, nt⟩ (tr ++ [trOf l o ⟨[(x, .str w)], []⟩ [(nx, some (.sit w 0))]])) (ho : o.op = .range T x := by rfl) (hx : S.ev ⟨tm, st, nx, nt⟩ x = some (.str w) := by rfl) (hg : guardV l o ⟨tm, st, nx, nt⟩ = some true := by rfl) (hd : o.dst = some d := by rfl) (hlt : Nat.blt d nt = true := by rfl) (hT' : nth tb T = some e := by rfl) (hk : Nat.beq e.knd 2 = true := by rfl) : ARun P N l K (o :: r) ⟨tm, st, nx, nt⟩ tr := r_new rfl hg hd hlt (law_range_str htb ho hT' hk) (hT hx h0) k
theorem x_next {m pos : Nat} {w : ByteArray} (c wd : Nat) (k : ARun P N l K r ⟨(d, .tup [.bool true, .int .i64 (pos : Int), .int .i32 (c : Int)]) :: tm, (m, some (.sit w (pos + wd))) :: st, nx, nt⟩ (tr ++ [trOf l o ⟨[(x, .loc m 0 0)], [(m, .sit w pos)]⟩ [(m, some (.sit w (pos + wd)))]])) (ho : o.op = .next x true := by rfl) (hx : S.ev ⟨tm, st, nx, nt⟩ x = some (.loc m 0 0) := by rfl) (hg : guardV l o ⟨tm, st, nx, nt⟩ = some true := by rfl) (hd : o.dst = some d := by rfl) (hlt : Nat.blt d nt = true := by rfl) (hB : S.blk ⟨tm, st, nx, nt⟩ m = some (.sit w pos) := by rfl) (hp : pos < w.size := by assumption) (hc : Utf8.decode w pos = (c, wd) := by assumption) (hw : pos + wd ≤ SLIM := by assumption) : ARun P N l K (o :: r) ⟨tm, st, nx, nt⟩ tr := r_put hg hd hlt (law_next_str ho hp hc hw) (hT hx (hN hB h0)) k
theorem x_nextE {m pos : Nat} {w : ByteArray} (k : ARun P N l K r ⟨(d, .tup [.bool false]) :: tm, st, nx, nt⟩ (tr ++ [trOf l o ⟨[(x, .loc m 0 0)], [(m, .sit w pos)]⟩ []])) (ho : o.op = .next x true := by rfl) (hx : S.ev ⟨tm, st, nx, nt⟩ x = some (.loc m 0 0) := by rfl) (hg : guardV l o ⟨tm, st, nx, nt⟩ = some true := by rfl) (hd : o.dst = some d := by rfl) (hlt : Nat.blt d nt = true := by rfl) (hB : S.blk ⟨tm, st, nx, nt⟩ m = some (.sit w pos) := by rfl) (hp : ¬ pos < w.size := by assumption) : ARun P N l K (o :: r) ⟨tm, st, nx, nt⟩ tr := r_val hg hd hlt (law_next_over ho hp) (hT hx (hN hB h0)) k
theorem x_mv {f nx' : Nat} {g : Operand} {fs bs' ws : List V} {xs : Array Operand} {ts : Array TypeId} {args vs : List V} {sts bs : List Blk} {rv r2 : V} {sts' us : List (Option Blk)} {up st2 : List (Nat × Option Blk)} (ns news : List Nat) (h : MCallsG P N.g f args sts rv sts') (k : ARun P N l K r ⟨(d, r2) :: tm, st2, nx', nt⟩ (tr ++ [trOf l o ⟨(g, .fn (.func f) fs bs') :: tsOf xs.toList vs, zipB ns bs⟩ up])) (ho : o.op = .call { callee := .value g, args := xs, argTypes := ts } := by rfl) (hf : S.ev ⟨tm, st, nx, nt⟩ g = some (.fn (.func f) fs bs') := by rfl) (he : evL ⟨tm, st, nx, nt⟩ xs.toList = some vs := by rfl) (hargs : renOL ns args = some ws := by rfl) (hws : ws = fs ++ vs ++ bs' := by rfl) (hg : guardV l o ⟨tm, st, nx, nt⟩ = some true := by rfl) (hd : o.dst = some d := by rfl) (hlt : Nat.blt d nt = true := by rfl) (hb : hasBody P f = true := by kernel_rfl) (_hnx : nx + news.length = nx' := by rfl) (hbs : rowsL ⟨tm, st, nx, nt⟩ ns = some bs := by rfl) (hst : RenBs ns sts bs := by repeat' first | exact RenBs.nil | apply RenBs.cons | exact RenB.same (nl_map fun _ => rfl) | exact RenB.ren rfl | exact RenB.sit | exact RenB.map (map_nl fun _ => rfl) | exact RenB.map (by assumption)) (hlen : Nat.beq ns.length sts.length = true := by rfl) (hdis : distinctB (ns ++ news) = true := by rfl) (hlen' : Nat.beq (ns ++ news).length sts'.length = true := by rfl) (hr2 : renO (ns ++ news) rv = some r2 := by rfl) (hus : RenOs (ns ++ news) sts' us := by repeat' first | exact RenOs.nil | apply RenOs.no | apply RenOs.on | exact RenB.same (nl_map fun _ => rfl) | exact RenB.ren rfl | exact RenB.sit | exact RenB.map (map_nl fun _ => rfl) | exact RenB.map (by assumption)) (hup : zipO (ns ++ news) us = some up := by rfl) (hst2 : appO up st = some st2 := by rfl) (hnw : newsOk nx nx' news = true := by rfl) : ARun P N l K (o :: r) ⟨tm, st, nx, nt⟩ tr := r_m (law_mcallv ns news ho (enters hb) h hargs hws (ev_len he) hst hlen hdis hlen' hr2 hus hup) nx' hnw hg hd hlt (hT hf (ts_of he (rowsL_at hbs))) hst2 k
theorem x_m0v {f nx' : Nat} {g : Operand} {fs bs' ws : List V} {xs : Array Operand} {ts : Array TypeId} {args vs : List V} {sts bs : List Blk} {rv r2 : V} {sts' us : List (Option Blk)} {up st2 : List (Nat × Option Blk)} (ns news : List Nat) (h : MCallsG P N.g f args sts rv sts') (k : ARun P N l K r ⟨tm, st2, nx', nt⟩ (tr ++ [trOf l o ⟨(g, .fn (.func f) fs bs') :: tsOf xs.toList vs, zipB ns bs⟩ up])) (ho : o.op = .call { callee := .value g, args := xs, argTypes := ts } := by rfl) (hf : S.ev ⟨tm, st, nx, nt⟩ g = some (.fn (.func f) fs bs') := by rfl) (he : evL ⟨tm, st, nx, nt⟩ xs.toList = some vs := by rfl) (hargs : renOL ns args = some ws := by rfl) (hws : ws = fs ++ vs ++ bs' := by rfl) (hg : guardV l o ⟨tm, st, nx, nt⟩ = some true := by rfl) (hd : o.dst = none := by rfl) (hb : hasBody P f = true := by kernel_rfl) (_hnx : nx + news.length = nx' := by rfl) (hbs : rowsL ⟨tm, st, nx, nt⟩ ns = some bs := by rfl) (hst : RenBs ns sts bs := by repeat' first | exact RenBs.nil | apply RenBs.cons | exact RenB.same (nl_map fun _ => rfl) | exact RenB.ren rfl | exact RenB.sit | exact RenB.map (map_nl fun _ => rfl) | exact RenB.map (by assumption)) (hlen : Nat.beq ns.length sts.length = true := by rfl) (hdis : distinctB (ns ++ news) = true := by rfl) (hlen' : Nat.beq (ns ++ news).length sts'.length = true := by rfl) (hr2 : renO (ns ++ news) rv = some r2 := by rfl) (hus : RenOs (ns ++ news) sts' us := by repeat' first | exact RenOs.nil | apply RenOs.no | apply RenOs.on | exact RenB.same (nl_map fun _ => rfl) | exact RenB.ren rfl | exact RenB.sit | exact RenB.map (map_nl fun _ => rfl) | exact RenB.map (by assumption)) (hup : zipO (ns ++ news) us = some up := by rfl) (hst2 : appO up st = some st2 := by rfl) (hnw : newsOk nx nx' news = true := by rfl) : ARun P N l K (o :: r) ⟨tm, st, nx, nt⟩ tr := r_m0 (law_mcallv ns news ho (enters hb) h hargs hws (ev_len he) hst hlen hdis hlen' hr2 hus hup) nx' hnw hg hd (hT hf (ts_of he (rowsL_at hbs))) hst2 k
theorem x_appK {α : Type} (f : α → V) {L K' : List α} {m el sz : Nat} {z0 : V} (htb : TbOk P tb) (k : ARun P N l K r ⟨(d, .own nx 0 (L ++ K').length) :: tm, (m, none) :: (nx, some (.els el sz ((L ++ K').map f))) :: st, nx + 1, nt⟩ (tr ++ [trOf l o ⟨[(x, .own m 0 L.length), (y, .fro (K'.map f))], [(m, .els el sz (L.map f))]⟩ [(m, none), (nx, some (.els el sz ((L ++ K').map f)))]])) (ho : o.op = .call { callee := .builtin .append, args := #[x, y], argTypes := #[T, T] } := by rfl) (hx : S.ev ⟨tm, st, nx, nt⟩ x = some (.own m 0 L.length) := by rfl) (hy : S.ev ⟨tm, st, nx, nt⟩ y = some (.fro (K'.map f)) := by rfl) (hg : guardV l o ⟨tm, st, nx, nt⟩ = some true := by rfl) (hd : o.dst = some d := by rfl) (hlt : Nat.blt d nt = true := by rfl) (hB : S.blk ⟨tm, st, nx, nt⟩ m = some (.els el sz (L.map f)) := by rfl) (hT' : nth tb T = some e := by rfl) (hs : e.sl = some el := by rfl) (hE : nth tb el = some ee := by rfl) (hz : ee.zeroV = some z0 := by rfl) (hsz : ee.size = sz := by rfl) (hzl : z0.cells.length = sz := by rfl) (hf : ∀ a, (f a).cells.length = sz ∧ ((f a).cells.all V.one) = true := by exact fun _ => ⟨rfl, rfl⟩) (hlim : (L ++ K').length ≤ LIM := by simp only [LIM, List.length_append, List.length_nil]; omega) (hby : (L ++ K').length * ee.bytes ≤ 140737488355328 := by show _ * (_ : Nat) ≤ _; simp; omega) : ARun P N l K (o :: r) ⟨tm, st, nx, nt⟩ tr := r_turn rfl hg hd hlt (law_append htb ho hT' hs hE hz hsz hzl (fun q hq => by obtain ⟨a, _, rfl⟩ := List.mem_map.1 hq; exact ⟨(hf a).1, List.all_eq_true.1 (hf a).2⟩) (by simp) (by simp) (by simp) hlim hby) (hT hx (hT hy (hN hB h0))) k
end
end Go.Proofs.YtpffdbplcgmilaaGreatDoor.Abs
end

section
namespace Go.Proofs.YtpffdbplcgmilaaGreatDoor.Rune
open Abs
theorem get_str (l : List UInt8) (i : Nat) : (str l).get! i = l.getD i 0 := by
  show l.toArray[i]! = _
  rw [List.getElem!_toArray, List.getD_eq_getElem?_getD, List.getElem!_eq_getElem?_getD]
  rfl
theorem getD_some {l : List UInt8} {i : Nat} (h : i < l.length) : l[i]? = some (l.getD i 0) := by
  rw [List.getD_eq_getElem?_getD, List.getElem?_eq_getElem h]; rfl
theorem rune_at (l : List UInt8) (pos : Nat) (h : pos < l.length) : ∃ c wd, Utf8.decode (str l) pos = (c, wd) ∧ 1 ≤ wd ∧ pos + wd ≤ l.length ∧ c ≤ 1114111 ∧
    ((∃ b, l[pos]? = some b ∧ b.toNat < 128 ∧ c = b.toNat ∧ wd = 1) ∨ (128 ≤ c ∧ ∀ j, pos ≤ j → j < pos + wd → ∃ b, l[j]? = some b ∧ 128 ≤ b.toNat)) := by
  have hr := Lib.rune_le (str l) pos
  have hd := Lib.decode_at (str l) pos
  rw [get_str, get_str, get_str, get_str, str_size] at hd
  have h0 := getD_some h
  have hb := (l.getD pos 0).toNat_lt
  have hs := Lib.decodeN_shape (l.length - pos) (l.getD pos 0).toNat (l.getD (pos + 1) 0).toNat (l.getD (pos + 2) 0).toNat (l.getD (pos + 3) 0).toNat
  rcases hs with ⟨g1, g2⟩ | ⟨g1, g2, g3, g4, g5⟩ | ⟨g1, g2, g3, g4, g5, g6, g7⟩ | ⟨g1, g2, g3, g4, g5, g6, g7, g8⟩ | g1
  · rw [g2] at hd
    exact ⟨_, _, hd, by omega, by omega, by omega, .inl ⟨_, h0, g1, rfl, rfl⟩⟩
  · rw [g5] at hd
    refine ⟨_, _, hd, by omega, by omega, by rw [hd] at hr; exact hr, .inr ⟨g4, fun j h1 h2 => ?_⟩⟩
    refine ⟨_, getD_some (by omega), ?_⟩
    rcases (show j = pos ∨ j = pos + 1 by omega) with rfl | rfl <;> omega
  · rw [g7] at hd
    refine ⟨_, _, hd, by omega, by omega, by rw [hd] at hr; exact hr, .inr ⟨by omega, fun j h1 h2 => ?_⟩⟩
    refine ⟨_, getD_some (by omega), ?_⟩
    rcases (show j = pos ∨ j = pos + 1 ∨ j = pos + 2 by omega) with rfl | rfl | rfl <;> omega
  · rw [g8] at hd
    refine ⟨_, _, hd, by omega, by omega, by rw [hd] at hr; exact hr, .inr ⟨by omega, fun j h1 h2 => ?_⟩⟩
    refine ⟨_, getD_some (by omega), ?_⟩
    rcases (show j = pos ∨ j = pos + 1 ∨ j = pos + 2 ∨ j = pos + 3 by omega) with rfl | rfl | rfl | rfl <;> omega
  · rw [g1] at hd
    by_cases h1 : (l.getD pos 0).toNat < 128
    · exfalso
      have : Lib.decodeN (l.length - pos) (l.getD pos 0).toNat (l.getD (pos + 1) 0).toNat (l.getD (pos + 2) 0).toNat (l.getD (pos + 3) 0).toNat = ((l.getD pos 0).toNat, 1) := by unfold Lib.decodeN; rw [if_pos h1]
      rw [g1] at this
      have := congrArg Prod.fst this
      dsimp only at this; omega
    · refine ⟨_, _, hd, by omega, by omega, by omega, .inr ⟨by omega, fun j h2 h3 => ?_⟩⟩
      obtain rfl : j = pos := by omega
      exact ⟨_, h0, by omega⟩
end Go.Proofs.YtpffdbplcgmilaaGreatDoor.Rune
end

section
namespace Go.Proofs.YtpffdbplcgmilaaGreatDoor.Scan
/-- The first number that is not nought among f 0, .. f (n-1); else nought. -/
def scan (f : Nat → Nat) : Nat → Nat
  | 0 => 0
  | n + 1 => if scan f n = 0 then f n else scan f n
theorem scan_next {f : Nat → Nat} {k : Nat} (h : scan f k = 0) (hk : f k = 0) : scan f (k + 1) = 0 := by
  simp [scan, h, hk]
theorem scan_at {f : Nat → Nat} {k : Nat} (h : scan f k = 0) : scan f (k + 1) = f k := by
  simp [scan, h]
theorem scan_keep {f : Nat → Nat} {k : Nat} (h : scan f k ≠ 0) : ∀ n, k ≤ n → scan f n = scan f k := by
  intro n hn
  induction n with
  | zero => have : k = 0 := by omega
            subst this; rfl
  | succ n ih =>
    by_cases e : k = n + 1
    · subst e; rfl
    · have := ih (by omega)
      simp only [scan]
      rw [this, if_neg h]
theorem scan_stop {f : Nat → Nat} {k n : Nat} (h : scan f k = 0) (hk : f k ≠ 0) (hn : k < n) : scan f n = f k := by
  have e := scan_at h
  rw [scan_keep (by rw [e]; exact hk) n hn, e]
theorem scan_zero {f : Nat → Nat} {n : Nat} : scan f n = 0 ↔ ∀ i, i < n → f i = 0 := by
  induction n with
  | zero => simp [scan]
  | succ n ih =>
    constructor
    · intro h
      have h0 : scan f n = 0 := by
        rcases Nat.eq_zero_or_pos (scan f n) with h0 | h0
        · exact h0
        · simp only [scan] at h; rw [if_neg (by omega)] at h; omega
      intro i hi
      by_cases e : i = n
      · subst e; rw [scan_at h0] at h; exact h
      · exact ih.1 h0 i (by omega)
    · intro h
      exact scan_next (ih.2 fun i hi => h i (by omega)) (h n (by omega))
end Go.Proofs.YtpffdbplcgmilaaGreatDoor.Scan
end

section
namespace Go.Proofs.YtpffdbplcgmilaaGreatDoor.JarP
open Abs Scan

/-- A moment? -/
def isJ (n : Int) : Bool := decide (-11644473600 ≤ n) && decide (n ≤ 253402300799)
/-- The same cookie? -/
def sameK (a b : Cookie) : Bool := decide (a.name = b.name) && (decide (a.domain = b.domain) && decide (a.path = b.path))
def badM (c : Cookie) : Bool := !(isJ c.created && isJ c.used)
/-- The fault of the cookie at i. -/
def codeJ (L : List Cookie) (nx : Int) (i : Nat) : Nat := match L[i]? with
  | none => 0
  | some c => if badM c = true then 3 else if c.no < 0 ∨ nx ≤ c.no then 4
    else if (L.take i).any (fun d => sameK d c || decide (d.no = c.no)) = true then 6
    else if (L.take i).countP (fun d => decide (d.domain = c.domain)) = 4 then 2 else 0
def checkJ (L : List Cookie) (nx : Int) : Nat := if 12 < L.length then 2 else if scan (codeJ L nx) L.length ≠ 0 then scan (codeJ L nx) L.length else if nx < 0 ∨ 1099511627776 < nx then 3 else 0
theorem few {L : List Cookie} {nx : Int} : ∀ {k : Nat}, k ≤ L.length → scan (codeJ L nx) k = 0 → ∀ d : List UInt8, (L.take k).countP (fun c => decide (c.domain = d)) ≤ 4
  | 0, _, _, d => by simp
  | k + 1, hk, h, d => by
    have hz := scan_zero.1 h
    have ih := few (L := L) (nx := nx) (k := k) (by omega) (scan_zero.2 fun i hi => hz i (by omega)) d
    have hc : L[k]? = some L[k] := by simp
    have h2 := hz k (by omega)
    rw [List.take_add_one, hc, List.countP_append]
    generalize L[k] = c at *
    by_cases hd : c.domain = d
    · subst hd
      have h4 : (L.take k).countP (fun x => decide (x.domain = c.domain)) ≠ 4 := fun h4 => by
        unfold codeJ at h2
        rw [hc] at h2
        dsimp only at h2
        rw [if_pos h4] at h2
        split at h2
        · cases h2
        · split at h2
          · cases h2
          · split at h2 <;> cases h2
      simp
      omega
    · simp [hd]
      exact ih
def liveF (now : Int) (L : List Cookie) : List Cookie := L.filter fun c => decide (now < c.expiry)
/-- A cookie laid into a jar; the next number. -/
def layF (L : List Cookie) (nx : Int) (c : Cookie) : List Cookie × Int := match L.findIdx? (fun x => sameK x c) with
  | some i => (L.set i { c with created := (L.getD i c).created, no := (L.getD i c).no }, nx)
  | none => (L ++ [{ c with no := nx }], nx + 1)
/-- Used less. -/
def lessU (a b : Cookie) : Bool := decide (a.used < b.used) || (decide (a.used = b.used) && decide (a.no < b.no))
/-- The place of the least used among those of the first k that p lets. -/
def minAt (p : Cookie → Bool) (L : List Cookie) : Nat → Option Nat
  | 0 => none
  | k + 1 => match L[k]? with
    | none => minAt p L k
    | some c => if p c = true then (match minAt p L k with
      | none => some k
      | some a => if lessU c (L.getD a c) = true then some k else some a) else minAt p L k
/-- While more than so many are let: the least used goes. -/
def evF (most : Nat) (p : Cookie → Bool) : Nat → List Cookie → List Cookie
  | 0, L => L
  | n + 1, L => if L.countP p ≤ most then L else match minAt p L L.length with
    | none => L
    | some i => evF most p n (L.eraseIdx i)
def putF (L : List Cookie) (nx : Int) (c : Cookie) (now : Int) : List Cookie × Int :=
  let r := layF (liveF now L) nx c
  let M := liveF now r.1
  let M1 := evF 4 (fun x => decide (x.domain = c.domain)) (M.length + 1) M
  (evF 12 (fun _ => true) (M1.length + 1) M1, r.2)
def codePut (L : List Cookie) (nx : Int) (c : Cookie) (now : Int) : Nat :=
  if checkJ L nx ≠ 0 then checkJ L nx else if isJ now = false ∨ badM c = true then 3 else if nx = 1099511627776 then 2 else 0
end Go.Proofs.YtpffdbplcgmilaaGreatDoor.JarP
end

section
namespace Go.Proofs.YtpffdbplcgmilaaGreatDoor.JarQ
open Abs Scan JarP

structure Rj (L : List Cookie) (nx : Int) : Prop where
  len : L.length ≤ 12
  mom : ∀ c ∈ L, badM c = false
  no : ∀ c ∈ L, 0 ≤ c.no ∧ c.no < nx
  dis : L.Pairwise fun a b => sameK a b = false ∧ a.no ≠ b.no
  per : ∀ d : List UInt8, L.countP (fun c => decide (c.domain = d)) ≤ 4
  nx : 0 ≤ nx ∧ nx ≤ 1099511627776
theorem code_zero {L : List Cookie} {nx : Int} {i : Nat} {c : Cookie} (hc : L[i]? = some c) : codeJ L nx i = 0 ↔ badM c = false ∧ (0 ≤ c.no ∧ c.no < nx) ∧ (∀ d ∈ L.take i, sameK d c = false ∧ d.no ≠ c.no) ∧ (L.take i).countP (fun d => decide (d.domain = c.domain)) ≠ 4 := by
  unfold codeJ
  rw [hc]
  dsimp only
  by_cases h1 : badM c = true
  · rw [if_pos h1]
    constructor
    · intro h; cases h
    · rintro ⟨h, _⟩; rw [h] at h1; cases h1
  · rw [if_neg h1]
    have h1 : badM c = false := by simpa using h1
    by_cases h2 : c.no < 0 ∨ nx ≤ c.no
    · rw [if_pos h2]
      constructor
      · intro h; cases h
      · rintro ⟨_, h, _⟩; omega
    · rw [if_neg h2]
      by_cases h3 : (L.take i).any (fun d => sameK d c || decide (d.no = c.no)) = true
      · rw [if_pos h3]
        constructor
        · intro h; cases h
        · rintro ⟨_, _, h, _⟩
          obtain ⟨d, hd, hq⟩ := List.any_eq_true.1 h3
          obtain ⟨k1, k2⟩ := h d hd
          rw [k1, decide_eq_false k2] at hq
          cases hq
      · rw [if_neg h3]
        have h3' : ∀ d ∈ L.take i, sameK d c = false ∧ d.no ≠ c.no := fun d hd => by
          have : (sameK d c || decide (d.no = c.no)) = false := by
            cases hb : (sameK d c || decide (d.no = c.no)) with
            | false => rfl
            | true => exact absurd (List.any_eq_true.2 ⟨d, hd, hb⟩) h3
          rw [Bool.or_eq_false_iff] at this
          exact ⟨this.1, of_decide_eq_false this.2⟩
        by_cases h4 : (L.take i).countP (fun d => decide (d.domain = c.domain)) = 4
        · rw [if_pos h4]
          constructor
          · intro h; cases h
          · rintro ⟨_, _, _, h⟩; exact absurd h4 h
        · rw [if_neg h4]
          exact ⟨fun _ => ⟨h1, by omega, h3', h4⟩, fun _ => rfl⟩
theorem check_zero {L : List Cookie} {nx : Int} : checkJ L nx = 0 ↔ Rj L nx := by
  unfold checkJ
  by_cases hl : 12 < L.length
  · rw [if_pos hl]
    constructor
    · intro h; cases h
    · intro h; have := h.len; omega
  rw [if_neg hl]
  by_cases hs : scan (codeJ L nx) L.length = 0
  · rw [if_neg (by rw [hs]; simp)]
    by_cases hn : nx < 0 ∨ 1099511627776 < nx
    · rw [if_pos hn]
      constructor
      · intro h; cases h
      · intro h; have := h.nx; omega
    · rw [if_neg hn]
      refine ⟨fun _ => ?_, fun _ => rfl⟩
      have hz := scan_zero.1 hs
      have at' : ∀ i (hi : i < L.length), badM L[i] = false ∧ (0 ≤ L[i].no ∧ L[i].no < nx) ∧ (∀ d ∈ L.take i, sameK d L[i] = false ∧ d.no ≠ L[i].no) ∧ (L.take i).countP (fun d => decide (d.domain = L[i].domain)) ≠ 4 := fun i hi => (code_zero (by simp [hi])).1 (hz i hi)
      refine ⟨by omega, fun c hc => ?_, fun c hc => ?_, List.pairwise_iff_getElem.2 fun i j hi hj hij => ?_, fun d => ?_, by omega⟩
      · obtain ⟨i, hi, rfl⟩ := List.mem_iff_getElem.1 hc
        exact (at' i hi).1
      · obtain ⟨i, hi, rfl⟩ := List.mem_iff_getElem.1 hc
        exact (at' i hi).2.1
      · refine (at' j hj).2.2.1 _ ?_
        rw [List.mem_take_iff_getElem]
        exact ⟨i, by omega, rfl⟩
      · have := few (L := L) (nx := nx) (k := L.length) (Nat.le_refl _) hs d
        rwa [List.take_length] at this
  · rw [if_pos hs]
    refine ⟨fun h => absurd h hs, fun h => absurd (scan_zero.2 fun i hi => ?_) hs⟩
    have hc : L[i]? = some L[i] := by simp [hi]
    refine (code_zero hc).2 ⟨h.mom _ (List.getElem_mem hi), h.no _ (List.getElem_mem hi), fun d hd => ?_, fun h4 => ?_⟩
    · obtain ⟨k, hk, rfl⟩ := List.mem_take_iff_getElem.1 hd
      exact List.pairwise_iff_getElem.1 h.dis k i (by omega) hi (by omega)
    · have := h.per L[i].domain
      have e : L.countP (fun d => decide (d.domain = L[i].domain)) = (L.take (i + 1)).countP (fun d => decide (d.domain = L[i].domain)) + (L.drop (i + 1)).countP (fun d => decide (d.domain = L[i].domain)) := by
        rw [← List.countP_append, List.take_append_drop]
      rw [List.take_add_one, hc, List.countP_append, h4] at e
      simp at e
      omega
end Go.Proofs.YtpffdbplcgmilaaGreatDoor.JarQ
end

section
namespace Go.Proofs.YtpffdbplcgmilaaGreatDoor.Abs
open Go.RowKit Mem Facts

/-- A byte as a rune. -/
abbrev runeT (c : UInt8) : V := .int .i32 (c.toNat : Int)
section
variable {X A A' : Nat → Prop} {φ φ' : Nat → Pl} {w w' : World} {P : Program} {tb : List Ty} {T : Nat} {e ee e' : Ty} {N : Env} {M : Nat → Prop} {o : Oper} {s : S} {a : Act} {x y : Operand} {el : Nat} {L : List UInt8}
/-! ### Arrays of plain values that are compared -/
def eqI (us vs : List V) : List Nat → Bool
  | [] => true
  | i :: r => (match nth us i, nth vs i with
    | some u, some v => eqS u v
    | _, _ => false) && eqI us vs r
def okI (k : Nat) (us vs : List V) : List Nat → Bool
  | [] => true
  | i :: r => (match nth us i, nth vs i with
    | some u, some v => okS k u v
    | _, _ => false) && okI k us vs r
theorem run_eqI {us vs : List V} {xs ys : Array Value} (htb : TbOk P tb) (hE : nth tb el = some ee) (hx : Reps X A φ w us xs.toList) (hy : Reps X A φ w vs ys.toList) (d : Nat) : ∀ (is : List Nat), okI ee.knd us vs is = true → ∀ w1, (Op.eqItems (d + 1) el 1 xs ys is).run P w1 = .ok (eqI us vs is) w1
  | [], _, w1 => by simp [Op.eqItems, eqI]
  | i :: is, hok, w1 => by
    simp only [okI, Bool.and_eq_true] at hok
    obtain ⟨h1, h2⟩ := hok
    have ih := run_eqI htb hE hx hy d is h2
    cases hu : nth us i with
    | none => rw [hu] at h1; cases h1
    | some u =>
      cases hv : nth vs i with
      | none => rw [hu, hv] at h1; cases h1
      | some v =>
        rw [hu, hv] at h1
        simp only at h1
        have hu' := hu
        have hv' := hv
        rw [nth_eq] at hu hv
        obtain ⟨cx, k1, k2⟩ := hx.2 _ _ hu
        obtain ⟨cy, k3, k4⟩ := hy.2 _ _ hv
        rw [Array.getElem?_toList] at k1 k3
        obtain ⟨g1, g2⟩ := run_eqS (P := P) htb hE h1 k2 k4 d
        simp only [Op.eqItems, Nat.mul_one, Sem.run_bind, run_part_plain w1 g1 k1, run_part_plain w1 g1 k3, Result.andThen_ok, g2 w1, eqI, hu', hv']
        cases eqS u v
        · simp
        · simp [ih w1]
end

section
variable {P : Program} {N : Env} {l r : List Oper} {o : Oper} {tm : List (Nat × V)} {st : List (Nat × Option Blk)} {nx nt : Nat} {tr : List Tr} {K : S → List Tr → Prop} {tb : List Ty} {d T : Nat} {t t' : TypeId} {x y z : Operand} {a b n : Int} {p q : List UInt8} {u v : Bool} {e ee : Ty} {kd : IntKind}
theorem x_stI {α : Type} (f : α → V) {L : List α} {a1 a0 : α} {m i0 el sz : Nat} (j : Nat) (htb : TbOk P tb) (k : ARun P N l K r ⟨tm, (m, some (.els el sz ((L.set j a1).map f))) :: st, nx, nt⟩ (tr ++ [trOf l o ⟨[(x, .loc m i0 0), (y, f a1)], [(m, .els el sz (L.map f))]⟩ [(m, some (.els el sz ((L.set j a1).map f)))]])) (ho : o.op = .store t x y := by rfl) (hx : S.ev ⟨tm, st, nx, nt⟩ x = some (.loc m i0 0) := by rfl) (hy : S.ev ⟨tm, st, nx, nt⟩ y = some (f a1) := by rfl) (hg : guardV l o ⟨tm, st, nx, nt⟩ = some true := by rfl) (hd : o.dst = none := by rfl) (hB : S.blk ⟨tm, st, nx, nt⟩ m = some (.els el sz (L.map f)) := by rfl) (hT' : nth tb t = some e := by rfl) (hi : i0 = j := by omega) (hL : L[j]? = some a0 := by assumption) (h1 : (f a1).cells.all V.one = true := by rfl) (h2 : (f a1).cells.length = e.size := by rfl) (hp : putV (f a0) 0 (f a1) = some (f a1) := by rfl) (hel : (!(f a0).one || Nat.beq (f a1).cells.length 1) = true := by rfl) : ARun P N l K (o :: r) ⟨tm, st, nx, nt⟩ tr := r_set hg hd (law_store htb ho hT' (i := i0) (el := f a0) (by subst hi; rw [List.getElem?_map, hL]; rfl) h1 h2 hp hel (by subst hi; rw [List.map_set])) (hT hx (hT hy (hN hB h0))) k
theorem x_ldI {α : Type} (f : α → V) {L : List α} {a0 : α} {m i0 el sz : Nat} (j : Nat) (htb : TbOk P tb) (k : ARun P N l K r ⟨(d, f a0) :: tm, st, nx, nt⟩ (tr ++ [trOf l o ⟨[(x, .loc m i0 0)], [(m, .els el sz (L.map f))]⟩ []])) (ho : o.op = .load t x := by rfl) (hx : S.ev ⟨tm, st, nx, nt⟩ x = some (.loc m i0 0) := by rfl) (hg : guardV l o ⟨tm, st, nx, nt⟩ = some true := by rfl) (hd : o.dst = some d := by rfl) (hlt : Nat.blt d nt = true := by rfl) (hB : S.blk ⟨tm, st, nx, nt⟩ m = some (.els el sz (L.map f)) := by rfl) (hT' : nth tb t = some e := by rfl) (hi : i0 = j := by omega) (hL : L[j]? = some a0 := by assumption) (hv : subV (f a0).cells 0 e.agg e.size = some (f a0) := by rfl) : ARun P N l K (o :: r) ⟨tm, st, nx, nt⟩ tr := r_val hg hd hlt (law_load htb ho hT' (i := i0) (el := f a0) (by subst hi; rw [List.getElem?_map, hL]; rfl) hv) (hT hx (hN hB h0)) k
theorem x_subK (k : ARun P N l K r ⟨(d, .int kd n) :: tm, st, nx, nt⟩ (tr ++ [trOf l o ⟨[(x, .int kd a), (y, .int kd b)], []⟩ []])) (ho : o.op = .binOp .sub t x y t' := by rfl) (hx : S.ev ⟨tm, st, nx, nt⟩ x = some (.int kd a) := by rfl) (hy : S.ev ⟨tm, st, nx, nt⟩ y = some (.int kd b) := by rfl) (hg : guardV l o ⟨tm, st, nx, nt⟩ = some true := by rfl) (hd : o.dst = some d := by rfl) (hlt : Nat.blt d nt = true := by rfl) (he : kd.wrap (a - b) = n := by assumption) : ARun P N l K (o :: r) ⟨tm, st, nx, nt⟩ tr := r_val hg hd hlt (law_sub' ho he) (hT hx (hT hy h0)) k
end
end Go.Proofs.YtpffdbplcgmilaaGreatDoor.Abs
end

section
namespace Go.Proofs.YtpffdbplcgmilaaGreatDoor.JarA
open Go.RowKit Mem Abs Scan JarP JarQ

abbrev jarV (L : List Cookie) (nx : Int) : Abs.V := .agg [.fro (L.map Cookie.v), .int .i64 nx]
set_option maxRecDepth 100000 in
set_option maxHeartbeats 4000000 in
theorem is_v {n : Int} : ACalls Tryz.prog 41 [.int .i64 n] (.bool (isJ n)) := by
  unfold isJ
  by_cases h1 : -11644473600 ≤ n
  · rw [decide_eq_true h1]
    by_cases h2 : n ≤ 253402300799
    · rw [decide_eq_true h2]
      refine fun1 tb_ok Tryz.func41 rfl Tryz.ntmps41 Tryz.results41 rfl fun N => ?_
      repeat' (first | refine zt ?_ | (refine isR ?_; first | refine zo ?_ | refine zc2 ?_ | refine zc4 ?_ | (refine zs2 ?_ ?_ <;> intro hc) | (refine zs4 ?_ ?_ <;> intro hc)) | refine awp_split rfl (fun hb => ?_) (fun hb => ?_) | refine zr ?_ | exact x_le)
      all_goals first | rfl | (exfalso; omega)
    · rw [decide_eq_false h2]
      refine fun1 tb_ok Tryz.func41 rfl Tryz.ntmps41 Tryz.results41 rfl fun N => ?_
      repeat' (first | refine zt ?_ | (refine isR ?_; first | refine zo ?_ | refine zc2 ?_ | refine zc4 ?_ | (refine zs2 ?_ ?_ <;> intro hc) | (refine zs4 ?_ ?_ <;> intro hc)) | refine awp_split rfl (fun hb => ?_) (fun hb => ?_) | refine zr ?_ | exact x_le)
      all_goals first | rfl | (exfalso; omega)
  · rw [decide_eq_false h1]
    refine fun1 tb_ok Tryz.func41 rfl Tryz.ntmps41 Tryz.results41 rfl fun N => ?_
    repeat' (first | refine zt ?_ | (refine isR ?_; first | refine zo ?_ | refine zc2 ?_ | refine zc4 ?_ | (refine zs2 ?_ ?_ <;> intro hc) | (refine zs4 ?_ ?_ <;> intro hc)) | refine awp_split rfl (fun hb => ?_) (fun hb => ?_) | refine zr ?_ | exact x_le)
    all_goals first | rfl | (exfalso; omega)
set_option maxRecDepth 100000 in
set_option maxHeartbeats 4000000 in
theorem moments_v {c : Cookie} : ACalls Tryz.prog 52 [c.v] (.bool (!badM c)) := by
  have c1 := is_v (n := c.created)
  have c2 := is_v (n := c.used)
  unfold badM
  generalize isJ c.created = a at *
  generalize isJ c.used = b at *
  cases a <;> cases b
  all_goals
    refine fun1 tb_ok Tryz.func52 rfl Tryz.ntmps52 Tryz.results52 rfl fun N => ?_
    repeat' (first | refine zt ?_ | (refine isR ?_; first | refine zo ?_ | refine zk c1 ?_ | refine zk c2 ?_) | refine awp_split rfl (fun hb => ?_) (fun hb => ?_) | refine zr ?_ | exact x_le)
    all_goals first | rfl | (exfalso; omega)
end Go.Proofs.YtpffdbplcgmilaaGreatDoor.JarA
end
