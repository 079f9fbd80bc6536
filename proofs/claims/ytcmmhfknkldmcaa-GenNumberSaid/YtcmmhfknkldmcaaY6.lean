/-
  Contracts of the document's machine, for the instructions of a number. No condition beyond those that each theorem states.
-/
import Derived.Test.YtcmmhfknkldmcaaY5
namespace Go.Proofs.Ytcmmhfknkldmcaa
open Go.RowKit
theorem fo_56_0 : fOff Try.prog 56 0 0 = true := by kernel_rfl
theorem fo_56_1 : fOff Try.prog 56 1 1 = true := by kernel_rfl
theorem fo_56_2 : fOff Try.prog 56 2 2 = true := by kernel_rfl
theorem isz_56 : (Try.prog.info? 56).map (·.size) = some 3 := by kernel_rfl
def pgL (D : ByteArray) : List Value := [.int .u64 0, .int .i64 1, .string D]
/-- A page at 0 that may be done. -/
def PgC (cs : List Value) (D : ByteArray) : Prop := cs = pgL D ∧ D.size = 256
theorem one_pg {c : List Value} {D : ByteArray} (h : PgC c D) : ∀ u ∈ c, u.oneCell' = true := by
  rw [h.1]; intro u hu
  simp only [pgL, List.mem_cons, List.not_mem_nil, or_false] at hu
  rcases hu with rfl | rfl | rfl <;> rfl
def zeroD : ByteArray := ⟨(List.replicate 256 (0 : UInt8)).toArray⟩
theorem zeroD_size : zeroD.size = 256 := by show (List.replicate 256 (0 : UInt8)).toArray.size = 256; rw [List.size_toArray, List.length_replicate]
theorem bCells_zero (n : Nat) : bCells (List.replicate n (0 : UInt8)) = (List.replicate n [Value.int .u8 0]).flatten := by
  induction n with
  | zero => rfl
  | succ n ih => rw [List.replicate_succ, List.replicate_succ, List.flatten_cons, ← ih]; rfl
theorem chunks_pg {D : ByteArray} (h : D.size = 256) : Chunks 3 PgC (pgL D) [D] := Chunks.snoc (xs := []) Chunks.nil rfl ⟨rfl, h⟩
def byteN (D : ByteArray) (i : Nat) : Nat := (D.data.toList.getD i 0).toNat
theorem byteN_lt (D : ByteArray) (i : Nat) : byteN D i < 256 := UInt8.toNat_lt _
theorem byteN_get {D : ByteArray} {i : Nat} (h : i < D.size) : (D[i]'h).toNat = byteN D i := by
  have h2 : i < D.data.size := h
  unfold byteN
  rw [List.getD_eq_getElem?_getD, Array.getElem?_toList, Array.getElem?_eq_getElem h2]
  rfl
def partN (D : ByteArray) (at_ : Nat) : Nat → Nat
  | 0 => 0
  | i + 1 => partN D at_ i + 256 ^ i * byteN D (at_ + i)
theorem partN_lt (D : ByteArray) (at_ i : Nat) : partN D at_ i < 256 ^ i := by
  induction i with
  | zero => show (0 : Nat) < 256 ^ 0; decide
  | succ i ih =>
    unfold partN
    have h1 := byteN_lt D (at_ + i)
    have h2 : 256 ^ i * byteN D (at_ + i) ≤ 256 ^ i * 255 := Nat.mul_le_mul_left _ (by omega)
    rw [Nat.pow_succ]; omega
def setD (D : ByteArray) (i : Nat) (z : UInt8) : ByteArray := ⟨(D.data.toList.set i z).toArray⟩
theorem setD_size (D : ByteArray) (i : Nat) (z : UInt8) : (setD D i z).size = D.size := by show (D.data.toList.set i z).toArray.size = D.data.size; simp
def fillD (D : ByteArray) (l : List UInt8) (i : Nat) : ByteArray := ⟨(l.take i ++ D.data.toList.drop i).toArray⟩
theorem fillD_size {D : ByteArray} {l : List UInt8} {i : Nat} (h : D.size = 256) (hi : i ≤ l.length) (hl : l.length ≤ 256) : (fillD D l i).size = 256 := by
  have h2 : D.data.size = 256 := h
  show (l.take i ++ D.data.toList.drop i).toArray.size = 256
  simp [List.length_take, List.length_drop, h2]; omega
theorem fillD_zero (D : ByteArray) (l : List UInt8) : fillD D l 0 = D := by unfold fillD; simp
theorem fillD_next {D : ByteArray} {l : List UInt8} {i : Nat} {z : UInt8} (h : D.size = 256) (hz : l[i]? = some z) (hl : l.length ≤ 256) : setD (fillD D l i) i z = fillD D l (i + 1) := by
  have h2 : D.data.size = 256 := h
  have hi := (List.getElem?_eq_some_iff.1 hz).1
  unfold setD fillD
  congr 1
  simp only [List.toList_toArray] 
  rw [take_next hz, List.set_append_right _ _ (by simp [List.length_take]; omega)]
  have e : i - (l.take i).length = 0 := by simp [List.length_take]; omega
  rw [e, List.drop_eq_getElem_cons (show i < D.data.toList.length by simp [h2]; omega)]
  simp

set_option maxRecDepth 10000 in
set_option maxHeartbeats 4000000 in
theorem right1_ret (D : ByteArray) (hD : D.size = 256) (vx : Value) {w : World} {ro : Nat → Prop} (hro : ∀ b, ro b → b < w.heap.size) (hx : SlV ro w 3 PgC vx [D]) : Ret Try.prog 18 #[vx] w fun v w' => v = .bool true ∧ Below w.heap.size w w' := by
 have hxz := hx
 obtain ⟨ad, cap, rfl, hxa, hxb, hxc, hxd⟩ := id hx
 refine Ret.enter (P := Try.prog) (n := 61) (args := [.slice ad 1 cap]) (σ := [(0, .slice ad 1 cap)]) Try.func18 rfl rfl rfl rfl ?_
 have hS := St.start (ro := ro) hro
 have hsub : ∀ b, ro b → ro b ∨ w.heap.size ≤ b := fun _ h => .inl h
 refine W.seq (W.region (WL.assign rfl rfl rfl (WL.nil (N.seq (W.seq (W.seq (W.region (WL.move rfl rfl rfl (WL.lenSlice Try.underlying29 rfl rfl rfl ?_)))))))))
 refine WL.bin rfl rfl rfl rfl rfl ?_
 refine WL.set 6 (v' := .bool false) rfl rfl ?_
 refine WL.nil (N.seq (W.condF rfl (W.skip (N.seq (W.seq (W.seq (W.region (WL.assign rfl rfl rfl (WL.nil ?_)))))))))
 refine N.seq (W.block ?_)
 refine W.loop (α := Nat) (fun (i : Nat) => [(0, .slice ad 1 cap), (3, .int .i64 (i : Int))]) (fun (i : Nat) u => St w w u ro [] [] ∧ i ≤ 1) (fun (i : Nat) => 1 - i) 0 ⟨rfl, rfl, trivial⟩ ⟨hS, Nat.zero_le _⟩ ?_
 clear hS
 rintro i w1 ⟨hS, hi⟩
 refine W.seq (W.seq (W.region (WL.move rfl rfl rfl (WL.move rfl rfl rfl (WL.lenSlice Try.underlying29 rfl rfl rfl (WL.bin rfl rfl rfl rfl rfl (WL.nil (N.seq ?_))))))))
 refine W.cond rfl (fun hc2 => ?_) (fun hc2 => ?_)
 ·
  have hc2p : (i : Int) < 1 := by simpa using hc2
  refine W.skip (N.seq (W.seq (W.block (W.seq (W.seq ?_)))))
  obtain rfl : i = 0 := by omega
  have hj3 : 0 < [D].length := (List.getElem?_eq_some_iff.1 (rfl : [D][0]? = some D)).1
  have hx3 := (rfl : [D][0]? = some D)
  obtain ⟨b3, o3, cs3, hE3, hr3, hl3, hc3, hQ3⟩ := hxd 0 _ (rfl : [D][0]? = some D)
  obtain ⟨rfl, hpd3⟩ := hQ3
  refine W.region (WL.move rfl rfl rfl (WL.move rfl rfl rfl (WL.indexAddrE (j := 0) Try.underlying29 isz_56 rfl rfl rfl rfl hj3 hE3 (WL.fieldAddr fo_56_0 rfl rfl rfl (WL.load1 (v := .int .u64 0) one_22 rfl rfl rfl (hS.roCells hr3 hc3 0 _ rfl) ?_)))))
  refine WL.remC rfl rfl rfl rfl (by decide) ?_
  refine WL.set 18 (v' := .int .u64 0) rfl rfl ?_
  refine WL.bin rfl rfl rfl rfl rfl ?_
  refine WL.set 19 (v' := .bool false) rfl rfl ?_
  refine WL.move rfl rfl rfl (WL.move rfl rfl rfl (WL.move rfl rfl rfl (WL.indexAddrE (j := 0) Try.underlying29 isz_56 rfl rfl rfl rfl hj3 hE3 (WL.fieldAddr fo_56_1 rfl rfl rfl (WL.load1 (v := .int .i64 1) one_3 rfl rfl rfl (hS.roCells hr3 hc3 1 _ rfl) (WL.bin rfl rfl rfl rfl rfl ?_))))))
  refine WL.set 26 (v' := .bool false) rfl rfl ?_
  refine WL.pick (v := .bool false) rfl rfl rfl rfl rfl rfl (WL.move rfl rfl rfl (WL.move rfl rfl rfl (WL.move rfl rfl rfl (WL.indexAddrE (j := 0) Try.underlying29 isz_56 rfl rfl rfl rfl hj3 hE3 (WL.fieldAddr fo_56_1 rfl rfl rfl (WL.load1 (v := .int .i64 1) one_3 rfl rfl rfl (hS.roCells hr3 hc3 1 _ rfl) (WL.bin rfl rfl rfl rfl rfl ?_)))))))
  refine WL.set 34 (v' := .bool false) rfl rfl ?_
  refine WL.pick (v := .bool false) rfl rfl rfl rfl rfl rfl (WL.move rfl rfl rfl (WL.move rfl rfl rfl (WL.move rfl rfl rfl (WL.indexAddrE (j := 0) Try.underlying29 isz_56 rfl rfl rfl rfl hj3 hE3 (WL.fieldAddr fo_56_2 rfl rfl rfl (WL.load1 (v := .string D) one_9 rfl rfl rfl (hS.roCells hr3 hc3 2 _ rfl) (WL.lenStr Try.underlying9 rfl rfl rfl (WL.bin rfl rfl rfl rfl rfl ?_))))))))
  refine WL.set 43 (v' := .bool false) rfl (congrArg Value.bool (show (!decide ((D.size : Int) = 256)) = false by rw [hD]; rfl)) ?_
  refine WL.pick (v := .bool false) rfl rfl rfl rfl rfl rfl (WL.nil (N.seq (W.condF rfl (W.skip (N.seq (W.seq ?_))))))
  refine W.drawL (by kernel_rfl) 16 ((.q (.int .i64 ((0 : Nat) : Int))) :: (.q (.bool false)) :: (.q (.bool false)) :: (.q undef) :: (.q undef) :: (.q undef) :: (.q undef) :: (.q undef) :: (.q undef) :: (.q undef) :: (.q undef) :: (.q undef) :: (.q undef) :: (.q undef) :: (.q undef) :: (.q (.bool false)) :: []) (by kernel_rfl) (by kernel_rfl) [(0, .slice ad 1 cap), (3, .int .i64 ((0 : Nat) : Int))] ⟨rfl, rfl, trivial⟩ (by kernel_rfl) hS ?_ ?_
  ·
   refine And.intro (fun β w hS => ?_) ?_
   ·
    refine WL.sub (σ' := [(3, .int .i64 ((0 : Nat) : Int))]) ⟨rfl, trivial⟩ ?_
    refine WL.move rfl rfl rfl ?_
    exact WL.nil (N.cut () ⟨rfl, trivial⟩ (Below.refl _ _))
   refine And.intro (fun β w hS => ?_) ?_
   ·
    refine WL.sub (σ' := [(45, .int .i64 ((0 : Nat) : Int))]) ⟨rfl, trivial⟩ ?_
    refine WL.bin rfl rfl rfl rfl rfl ?_
    refine WL.set 46 (v' := .bool false) rfl (congrArg Value.bool (show (decide (0 < ((0 : Nat) : Int))) = false from decide_eq_false (show ¬ (0 < ((0 : Nat) : Int)) from by decide))) ?_
    exact WL.nil (N.cut () ⟨rfl, trivial⟩ (Below.refl _ _))
   refine And.intro (fun β w hS => ?_) ?_
   ·
    refine WL.sub (σ' := [(46, .bool false)]) ⟨rfl, trivial⟩ ?_
    refine WL.move rfl rfl rfl ?_
    exact WL.nil (N.cut () ⟨rfl, trivial⟩ (Below.refl _ _))
   refine And.intro (fun β w hS => ?_) ?_
   ·
    refine WL.sub (σ' := [(0, .slice ad 1 cap), (47, .bool false)]) ⟨rfl, rfl, trivial⟩ ?_
    refine WL.skp rfl rfl ?_
    exact WL.nil (N.cut () ⟨rfl, trivial⟩ (Below.refl _ _))
   refine And.intro (fun β w hS => ?_) ?_
   ·
    refine WL.sub (σ' := [(3, .int .i64 ((0 : Nat) : Int)), (47, .bool false)]) ⟨rfl, rfl, trivial⟩ ?_
    refine WL.skp rfl rfl ?_
    exact WL.nil (N.cut () ⟨rfl, trivial⟩ (Below.refl _ _))
   refine And.intro (fun β w hS => ?_) ?_
   ·
    refine WL.sub (σ' := [(47, .bool false), (49, undef)]) ⟨rfl, rfl, trivial⟩ ?_
    refine WL.skp rfl rfl ?_
    exact WL.nil (N.cut () ⟨rfl, trivial⟩ (Below.refl _ _))
   refine And.intro (fun β w hS => ?_) ?_
   ·
    refine WL.sub (σ' := [(47, .bool false), (48, undef), (50, undef)]) ⟨rfl, rfl, rfl, trivial⟩ ?_
    refine WL.skp rfl rfl ?_
    exact WL.nil (N.cut () ⟨rfl, trivial⟩ (Below.refl _ _))
   refine And.intro (fun β w hS => ?_) ?_
   ·
    refine WL.sub (σ' := [(47, .bool false), (51, undef)]) ⟨rfl, rfl, trivial⟩ ?_
    refine WL.skp rfl rfl ?_
    exact WL.nil (N.cut () ⟨rfl, trivial⟩ (Below.refl _ _))
   refine And.intro (fun β w hS => ?_) ?_
   ·
    refine WL.sub (σ' := [(47, .bool false), (52, undef)]) ⟨rfl, rfl, trivial⟩ ?_
    refine WL.skp rfl rfl ?_
    exact WL.nil (N.cut () ⟨rfl, trivial⟩ (Below.refl _ _))
   refine And.intro (fun β w hS => ?_) ?_
   ·
    refine WL.sub (σ' := [(0, .slice ad 1 cap), (47, .bool false)]) ⟨rfl, rfl, trivial⟩ ?_
    refine WL.skp rfl rfl ?_
    exact WL.nil (N.cut () ⟨rfl, trivial⟩ (Below.refl _ _))
   refine And.intro (fun β w hS => ?_) ?_
   ·
    refine WL.sub (σ' := [(3, .int .i64 ((0 : Nat) : Int)), (47, .bool false)]) ⟨rfl, rfl, trivial⟩ ?_
    refine WL.skp rfl rfl ?_
    exact WL.nil (N.cut () ⟨rfl, trivial⟩ (Below.refl _ _))
   refine And.intro (fun β w hS => ?_) ?_
   ·
    refine WL.sub (σ' := [(47, .bool false), (54, undef), (55, undef)]) ⟨rfl, rfl, rfl, trivial⟩ ?_
    refine WL.skp rfl rfl ?_
    exact WL.nil (N.cut () ⟨rfl, trivial⟩ (Below.refl _ _))
   refine And.intro (fun β w hS => ?_) ?_
   ·
    refine WL.sub (σ' := [(47, .bool false), (56, undef)]) ⟨rfl, rfl, trivial⟩ ?_
    refine WL.skp rfl rfl ?_
    exact WL.nil (N.cut () ⟨rfl, trivial⟩ (Below.refl _ _))
   refine And.intro (fun β w hS => ?_) ?_
   ·
    refine WL.sub (σ' := [(47, .bool false), (57, undef)]) ⟨rfl, rfl, trivial⟩ ?_
    refine WL.skp rfl rfl ?_
    exact WL.nil (N.cut () ⟨rfl, trivial⟩ (Below.refl _ _))
   refine And.intro (fun β w hS => ?_) ?_
   ·
    refine WL.sub (σ' := [(47, .bool false), (53, undef), (58, undef)]) ⟨rfl, rfl, rfl, trivial⟩ ?_
    refine WL.skp rfl rfl ?_
    exact WL.nil (N.cut () ⟨rfl, trivial⟩ (Below.refl _ _))
   refine And.intro (fun β w hS => ?_) ?_
   ·
    refine WL.sub (σ' := [(47, .bool false), (59, undef)]) ⟨rfl, rfl, trivial⟩ ?_
    refine WL.pick (v := .bool false) rfl rfl rfl rfl rfl rfl ?_
    exact WL.nil (N.cut () ⟨rfl, trivial⟩ (Below.refl _ _))
   trivial
  clear hS; intro w4 β hS
  refine WL.sub (σ' := [(0, .slice ad 1 cap), (3, .int .i64 ((0 : Nat) : Int)), (60, .bool false)]) ⟨rfl, rfl, rfl, trivial⟩ ?_
  refine WL.nil (N.seq (W.condF rfl (W.skip (N.blk (N.seq (W.region (WL.move rfl rfl rfl ?_)))))))
  refine WL.add (c := ((0 : Nat) : Int) + 1) rfl rfl rfl rfl (rfl) (by omega) ?_
  refine WL.assign rfl rfl rfl (WL.nil ?_)
  exact N.loop (0 + 1) ⟨rfl, rfl, trivial⟩ ⟨hS, by omega⟩ (by first | omega | (simp only; omega))
 have hc2p : ¬ ((i : Int) < 1) := by simpa using hc2
 refine W.exit (X.seq (X.loop (X.blk (N.seq (W.seq (W.region (WL.assign rfl rfl rfl (WL.nil (N.seq ?_)))))))))
 refine Fin.ret1 rfl (v := .bool true) rfl ?_
 exact ⟨rfl, hS.below⟩

set_option maxRecDepth 10000 in
set_option maxHeartbeats 4000000 in
theorem right0_ret {w : World} {ro : Nat → Prop} (hro : ∀ b, ro b → b < w.heap.size) : Ret Try.prog 18 #[.slice none 0 0] w fun v w' => v = .bool true ∧ Below w.heap.size w w' := by
 refine Ret.enter (P := Try.prog) (n := 61) (args := [.slice none 0 0]) (σ := [(0, .slice none 0 0)]) Try.func18 rfl rfl rfl rfl ?_
 have hS := St.start (ro := ro) hro
 refine W.seq (W.region (WL.assign rfl rfl rfl (WL.nil (N.seq (W.seq (W.seq (W.region (WL.move rfl rfl rfl (WL.lenSlice Try.underlying29 rfl rfl rfl ?_)))))))))
 refine WL.bin rfl rfl rfl rfl rfl ?_
 refine WL.set 6 (v' := .bool false) rfl rfl ?_
 refine WL.nil (N.seq (W.condF rfl (W.skip (N.seq (W.seq (W.seq (W.region (WL.assign rfl rfl rfl (WL.nil ?_)))))))))
 refine N.seq (W.block ?_)
 refine W.loop (α := Unit) (fun _ => [(0, .slice none 0 0), (3, .int .i64 0)]) (fun _ u => St w w u ro [] [] ∧ True) (fun _ => 0) () ⟨rfl, rfl, trivial⟩ ⟨hS, trivial⟩ ?_
 clear hS
 rintro ⟨⟩ w1 ⟨hS, _⟩
 refine W.seq (W.seq (W.region (WL.move rfl rfl rfl (WL.move rfl rfl rfl (WL.lenSlice Try.underlying29 rfl rfl rfl (WL.bin rfl rfl rfl rfl rfl ?_))))))
 refine WL.set 10 (v' := .bool false) rfl rfl ?_
 refine WL.nil (N.seq (W.condF rfl (W.exit (X.seq (X.loop (X.blk (N.seq (W.seq (W.region ?_)))))))))
 refine WL.assign rfl rfl rfl (WL.nil (N.seq ?_))
 refine Fin.ret1 rfl (v := .bool true) rfl ?_
 exact ⟨rfl, hS.below⟩

set_option maxRecDepth 10000 in
set_option maxHeartbeats 4000000 in
theorem at0_ret (z : Int) {w : World} {ro : Nat → Prop} (hro : ∀ b, ro b → b < w.heap.size) : Ret Try.prog 19 #[.slice none 0 0, .int .u64 z] w fun v w' => v = .int .i64 (-1) ∧ Below w.heap.size w w' := by
 refine Ret.enter (P := Try.prog) (n := 30) (args := [.slice none 0 0, .int .u64 z]) (σ := [(0, .slice none 0 0), (1, .int .u64 z)]) Try.func19 rfl rfl rfl rfl ?_
 have hS := St.start (ro := ro) hro
 refine W.seq (W.region (WL.assign rfl rfl rfl (WL.nil (N.seq (W.seq (W.seq (W.region (WL.assign rfl rfl rfl (WL.nil ?_)))))))))
 refine N.seq (W.block ?_)
 refine W.loop (α := Unit) (fun _ => [(0, .slice none 0 0), (1, .int .u64 z), (5, .int .i64 0)]) (fun _ u => St w w u ro [] [] ∧ True) (fun _ => 0) () ⟨rfl, rfl, rfl, trivial⟩ ⟨hS, trivial⟩ ?_
 clear hS
 rintro ⟨⟩ w1 ⟨hS, _⟩
 refine W.seq (W.seq (W.region (WL.move rfl rfl rfl (WL.move rfl rfl rfl (WL.lenSlice Try.underlying29 rfl rfl rfl (WL.bin rfl rfl rfl rfl rfl ?_))))))
 refine WL.set 9 (v' := .bool false) rfl rfl ?_
 refine WL.nil (N.seq (W.condF rfl (W.exit (X.seq (X.loop (X.blk (N.seq (W.seq (W.region ?_)))))))))
 refine WL.assign rfl rfl rfl (WL.nil (N.seq ?_))
 refine Fin.ret1 rfl (v := .int .i64 (-1)) rfl ?_
 exact ⟨rfl, hS.below⟩

set_option maxRecDepth 10000 in
set_option maxHeartbeats 4000000 in
theorem at1_ret (D : ByteArray) (hD : D.size = 256) (to : Nat) (ht : to < 256) (vx : Value) {w : World} {ro : Nat → Prop} (hro : ∀ b, ro b → b < w.heap.size) (hx : SlV ro w 3 PgC vx [D]) : Ret Try.prog 19 #[vx, .int .u64 (to : Int)] w fun v w' => v = .int .i64 0 ∧ Below w.heap.size w w' := by
 have hxz := hx
 obtain ⟨ad, cap, rfl, hxa, hxb, hxc, hxd⟩ := id hx
 refine Ret.enter (P := Try.prog) (n := 30) (args := [.slice ad 1 cap, .int .u64 (to : Int)]) (σ := [(0, .slice ad 1 cap), (1, .int .u64 (to : Int))]) Try.func19 rfl rfl rfl rfl ?_
 have hS := St.start (ro := ro) hro
 have hsub : ∀ b, ro b → ro b ∨ w.heap.size ≤ b := fun _ h => .inl h
 refine W.seq (W.region (WL.assign rfl rfl rfl (WL.nil (N.seq (W.seq (W.seq (W.region (WL.assign rfl rfl rfl (WL.nil ?_)))))))))
 refine N.seq (W.block ?_)
 refine W.loop (α := Nat) (fun (i : Nat) => [(0, .slice ad 1 cap), (1, .int .u64 (to : Int)), (5, .int .i64 (i : Int))]) (fun (i : Nat) u => St w w u ro [] [] ∧ i = 0) (fun (i : Nat) => 1 - i) 0 ⟨rfl, rfl, rfl, trivial⟩ ⟨hS, rfl⟩ ?_
 clear hS
 rintro i w1 ⟨hS, hi⟩
 refine W.seq (W.seq (W.region (WL.move rfl rfl rfl (WL.move rfl rfl rfl (WL.lenSlice Try.underlying29 rfl rfl rfl (WL.bin rfl rfl rfl rfl rfl (WL.nil (N.seq ?_))))))))
 refine W.cond rfl (fun hc2 => ?_) (fun hc2 => ?_)
 ·
  have hc2p : (i : Int) < 1 := by simpa using hc2
  refine W.skip (N.seq (W.seq (W.block (W.seq ?_))))
  obtain rfl : i = 0 := by omega
  have hj3 : 0 < [D].length := (List.getElem?_eq_some_iff.1 (rfl : [D][0]? = some D)).1
  have hx3 := (rfl : [D][0]? = some D)
  obtain ⟨b3, o3, cs3, hE3, hr3, hl3, hc3, hQ3⟩ := hxd 0 _ (rfl : [D][0]? = some D)
  obtain ⟨rfl, hpd3⟩ := hQ3
  refine W.region (WL.move rfl rfl rfl (WL.move rfl rfl rfl (WL.move rfl rfl rfl (WL.indexAddrE (j := 0) Try.underlying29 isz_56 rfl rfl rfl rfl hj3 hE3 (WL.fieldAddr fo_56_0 rfl rfl rfl (WL.load1 (v := .int .u64 0) one_22 rfl rfl rfl (hS.roCells hr3 hc3 0 _ rfl) (WL.bin rfl rfl rfl rfl rfl ?_)))))))
  refine WL.set 18 (v' := .bool true) rfl (congrArg Value.bool (show (decide (0 ≤ (to : Int))) = true from decide_eq_true (show 0 ≤ (to : Int) from by omega))) ?_
  refine WL.move rfl rfl rfl (WL.move rfl rfl rfl (WL.move rfl rfl rfl (WL.move rfl rfl rfl (WL.indexAddrE (j := 0) Try.underlying29 isz_56 rfl rfl rfl rfl hj3 hE3 (WL.fieldAddr fo_56_0 rfl rfl rfl (WL.load1 (v := .int .u64 0) one_22 rfl rfl rfl (hS.roCells hr3 hc3 0 _ rfl) (WL.bin rfl rfl rfl rfl rfl ?_)))))))
  refine WL.set 26 (v' := .int .u64 ((to : Nat) : Int)) rfl (congrArg _ (wrapN64 (by omega) (by omega))) ?_
  refine WL.bin rfl rfl rfl rfl rfl ?_
  refine WL.set 27 (v' := .bool true) rfl (congrArg Value.bool (show (decide (((to : Nat) : Int) < 256)) = true from decide_eq_true (show ((to : Nat) : Int) < 256 from by omega))) ?_
  refine WL.pick (v := .bool true) rfl rfl rfl rfl rfl rfl (WL.nil (N.seq (W.condT rfl (W.seq (W.region (WL.move rfl rfl rfl (WL.assign rfl rfl rfl (WL.nil (N.seq ?_)))))))))
  refine Fin.ret1 rfl (v := .int .i64 ((0 : Nat) : Int)) rfl ?_
  exact ⟨rfl, hS.below⟩
 have hc2p : ¬ ((i : Int) < 1) := by simpa using hc2
 refine W.exit (X.seq (X.loop (X.blk (N.seq (W.seq (W.region (WL.assign rfl rfl rfl (WL.nil (N.seq ?_)))))))))
 refine Fin.ret1 rfl (v := .int .i64 (-1)) rfl ?_
 exfalso; omega

set_option maxRecDepth 10000 in
set_option maxHeartbeats 4000000 in
theorem grants_ret (D : ByteArray) {w : World} {ro : Nat → Prop} (hro : ∀ b, ro b → b < w.heap.size) : Ret Try.prog 42 #[.agg #[.int .u64 0, .int .i64 1, .string D], .int .i64 1] w fun v w' => v = .bool true ∧ Below w.heap.size w w' := by
 refine Ret.enter (P := Try.prog) (n := 11) (args := [.agg #[.int .u64 0, .int .i64 1, .string D], .int .i64 1]) (σ := [(0, .agg #[.int .u64 0, .int .i64 1, .string D]), (1, .int .i64 1)]) Try.func42 rfl rfl rfl rfl ?_
 have hS := St.start (ro := ro) hro
 refine W.seq (W.region ?_)
 refine WL.box (v := .agg #[.int .u64 0, .int .i64 1, .string D]) (cs := [.int .u64 0, .int .i64 1, .string D]) rfl rfl rfl rfl hS ?_
 clear hS; intro w2 b1 hb_b1 hS
 refine WL.assign rfl rfl rfl (WL.nil (N.seq (W.seq (W.region (WL.fieldAddr fo_56_1 rfl rfl rfl (WL.load1 (v := .int .i64 1) one_3 rfl rfl rfl (hS.cell 0 rfl rfl) (WL.move rfl rfl rfl (WL.bin rfl rfl rfl rfl rfl ?_))))))))
 refine WL.set 8 (v' := .int .i64 1) rfl (congrArg _ (by decide)) ?_
 refine WL.move rfl rfl rfl (WL.bin rfl rfl rfl rfl rfl ?_)
 refine WL.set 10 (v' := .bool true) rfl rfl ?_
 refine WL.assign rfl rfl rfl (WL.nil (N.seq ?_))
 refine Fin.ret1 rfl (v := .bool true) rfl ?_
 exact ⟨rfl, hS.below⟩

end Go.Proofs.Ytcmmhfknkldmcaa
