/-
  Contracts of what is right (marlineref05). No condition beyond those that each theorem states.
-/
import Derived.Test.YtdlcmhkfglckfaaR5g
namespace Go.Proofs.Ytdlcmhkfglckfaa
open Go.RowKit

def rf5 (l : List DInst) : List ByteArray := (l.filter named5).map (·.name)
def refs5 (f : DFunc) : List ByteArray := rf5 (fins5 f)
theorem rf5_snoc (l : List DInst) (x : DInst) : rf5 (l ++ [x]) = rf5 l ++ (if named5 x = true then [x.name] else []) := by
  unfold rf5
  rw [List.filter_append, List.map_append]
  by_cases h : named5 x = true <;> simp [h]
theorem rf5_le (l : List DInst) : (rf5 l).length ≤ l.length := by
  unfold rf5
  rw [List.length_map]
  exact List.length_filter_le _ _
theorem pre_le {f : DFunc} {k n : Nat} {b : DBlock} (h : f.blocks[k]? = some b) : ((f.blocks.take k).flatMap (·.ins) ++ b.ins.take n).length ≤ (fins5 f).length := by
  have hk := (List.getElem?_eq_some_iff.1 h).1
  have e : f.blocks = f.blocks.take k ++ b :: f.blocks.drop (k + 1) := by
    conv => lhs; rw [← List.take_append_drop k f.blocks]
    congr 1
    rw [List.drop_eq_getElem_cons hk]
    congr 1
    rw [List.getElem?_eq_getElem hk] at h
    exact Option.some.inj h
  unfold fins5
  conv => rhs; rw [e]
  rw [List.flatMap_append, List.flatMap_cons]
  simp only [List.length_append, List.length_take]
  omega

theorem refs5_ret (f : DFunc) (cf : List Value) {w : World} {ro : Nat → Prop} (hro : ∀ b, ro b → b < w.heap.size) (hx : FuncC ro w cf f) (hl : (fins5 f).length ≤ 1000000) : Ret Try.prog 49 #[.agg cf.toArray] w fun v w' => SlV (fun b => w.heap.size ≤ b ∧ b < w'.heap.size) w' 1 StrC v (refs5 f) ∧ Below w.heap.size w w' := by
 obtain ⟨sb, rfl, hbl, hnm, hbd, hpr⟩ := id hx
 obtain ⟨adb, capb, rfl, hbka, hbkb, hbkc, hbkd⟩ := id hbl
 have hbkm : f.blocks.length ≤ 9223372036854775807 := by have h1 := hbka; have h2 := hbkb; unfold maxLen at h2; omega
 refine Ret.enter (P := Try.prog) (n := 50) (args := [.agg #[.string f.name, .int .i64 f.bind, .int .i64 f.params, .slice adb f.blocks.length capb]]) (σ := [(0, .agg #[.string f.name, .int .i64 f.bind, .int .i64 f.params, .slice adb f.blocks.length capb])]) Try.func49 rfl rfl rfl rfl ?_
 have hS := St.start (ro := ro) hro
 refine W.seq (W.region ?_)
 refine WL.box (v := .agg #[.string f.name, .int .i64 f.bind, .int .i64 f.params, .slice adb f.blocks.length capb]) (cs := [.string f.name, .int .i64 f.bind, .int .i64 f.params, .slice adb f.blocks.length capb]) rfl rfl rfl rfl hS ?_
 clear hS; intro w2 b1 hb_b1 hS
 refine WL.assign rfl rfl rfl (WL.nil (N.seq (W.seq (W.region (WL.assign rfl rfl rfl (WL.nil (N.seq (W.seq (W.seq ?_)))))))))
 refine W.region (WL.assign rfl rfl rfl (WL.nil (N.seq (W.block ?_))))
 replace hS := hS.row0 9 1
 refine W.loop (α := Nat × Value × List Value × Nat) (fun ⟨k, v, cs, c⟩ => [(1, .pointer (some ⟨b1, 0, none⟩)), (2, .slice none 0 0), (3, v), (4, .int .i64 (k : Int))]) (fun ⟨k, v, cs, c⟩ u => St w w u ro [(b1, .cells #[.string f.name, .int .i64 f.bind, .int .i64 f.params, .slice adb f.blocks.length capb] 24 (0, 0))] [⟨v, 9, 1, c, cs⟩] ∧ k ≤ f.blocks.length ∧ Chunks 1 StrC cs (rf5 ((f.blocks.take k).flatMap (·.ins))) ∧ c = (rf5 ((f.blocks.take k).flatMap (·.ins))).length) (fun ⟨k, v, cs, c⟩ => f.blocks.length - k) (0, (.slice none 0 0), [], 0) ⟨rfl, rfl, rfl, rfl, trivial⟩ ⟨hS, Nat.zero_le _, Chunks.nil, rfl⟩ ?_
 clear hS
 rintro ⟨k, v, cs, c⟩ w3 ⟨hS, hk, hch, hc⟩
 have hrow : w3.ownsRow w.heap.size 9 1 v (c) _ := hS.rows _ List.mem_cons_self
 obtain ⟨adv, capv, rfl, hr1v, hr2v, hr3v⟩ := row_shape hrow
 clear hrow
 refine W.seq (W.seq (W.region (WL.move rfl rfl rfl (WL.fieldAddr fo_24_3 rfl rfl rfl (WL.load1 (v := .slice adb f.blocks.length capb) one_22 rfl rfl rfl (hS.cell 0 rfl rfl) (WL.lenSlice Try.underlying22 rfl rfl rfl (WL.bin rfl rfl rfl rfl rfl (WL.nil (N.seq ?_)))))))))
 refine W.cond rfl (fun hc4 => ?_) (fun hc4 => ?_)
 ·
  have hc4p : (k : Int) < (f.blocks.length : Int) := by simpa using hc4
  refine W.skip (N.seq (W.seq (W.block (W.seq (W.region (WL.assign rfl rfl rfl (WL.nil (N.seq (W.block ?_)))))))))
  have hj5 : k < f.blocks.length := by omega
  obtain ⟨x5, hx5⟩ : ∃ zz, f.blocks[k]? = some zz := ⟨_, List.getElem?_eq_getElem hj5⟩
  obtain ⟨b5, o5, cs5, hE5, hr5, hl5, hc5, hQ5⟩ := hbkd k _ hx5
  obtain ⟨si5, tsx5, rfl, hin5, hfin5, hpar5⟩ := id hQ5
  obtain ⟨adi5, capi5, rfl, hin5a, hin5b, hin5c, hin5d⟩ := id hin5
  have hin5m : x5.ins.length ≤ 9223372036854775807 := by have h1 := hin5a; have h2 := hin5b; unfold maxLen at h2; omega
  obtain ⟨sp5, sq5, rfl, ht15, ht25, htk5, hta5, htt5, hte5⟩ := id hfin5
  obtain ⟨adp5, capp5, rfl, htp5a, htp5b, htp5c, htp5d⟩ := id ht15
  have htp5m : x5.fin.args.length ≤ 9223372036854775807 := by have h1 := htp5a; have h2 := htp5b; unfold maxLen at h2; omega
  obtain ⟨adq5, capq5, rfl, htq5a, htq5b, htq5c, htq5d⟩ := id ht25
  have htq5m : x5.fin.elses.length ≤ 9223372036854775807 := by have h1 := htq5a; have h2 := htq5b; unfold maxLen at h2; omega
  refine W.loop (α := Nat × Value × List Value × Nat) (fun ⟨n, v2, cs2, c2⟩ => [(1, .pointer (some ⟨b1, 0, none⟩)), (2, .slice none 0 0), (3, v2), (4, .int .i64 (k : Int)), (5, .int .i64 (n : Int))]) (fun ⟨n, v2, cs2, c2⟩ u => St w w u ro [(b1, .cells #[.string f.name, .int .i64 f.bind, .int .i64 f.params, .slice adb f.blocks.length capb] 24 (0, 0))] [⟨v2, 9, 1, c2, cs2⟩] ∧ n ≤ x5.ins.length ∧ Chunks 1 StrC cs2 (rf5 ((f.blocks.take k).flatMap (·.ins) ++ x5.ins.take n)) ∧ c2 = (rf5 ((f.blocks.take k).flatMap (·.ins) ++ x5.ins.take n)).length) (fun ⟨n, v2, cs2, c2⟩ => x5.ins.length - n) (0, .slice adv c capv, cs, c) ⟨rfl, rfl, rfl, rfl, rfl, trivial⟩ ⟨hS, Nat.zero_le _, by simpa using hch, by simpa using hc⟩ ?_
  clear hS
  rintro ⟨n, v2, cs2, c2⟩ w6 ⟨hS, hn, hch, hc⟩
  have hrow : w6.ownsRow w.heap.size 9 1 v2 (c2) _ := hS.rows _ List.mem_cons_self
  obtain ⟨adv2, capv2, rfl, hr1v2, hr2v2, hr3v2⟩ := row_shape hrow
  clear hrow
  refine W.seq (W.seq (W.region (WL.move rfl rfl rfl (WL.fieldAddr fo_24_3 rfl rfl rfl (WL.load1 (v := .slice adb f.blocks.length capb) one_22 rfl rfl rfl (hS.cell 0 rfl rfl) (WL.move rfl rfl rfl (WL.indexAddrE (j := k) Try.underlying22 isz_32 rfl rfl rfl rfl hj5 hE5 (WL.fieldAddr fo_32_1 rfl rfl rfl (WL.load1 (v := .slice adi5 x5.ins.length capi5) one_27 rfl rfl rfl (hS.roCells hr5 hc5 1 _ rfl) ?_)))))))))
  refine WL.lenSlice Try.underlying27 rfl rfl rfl (WL.bin rfl rfl rfl rfl rfl (WL.nil (N.seq ?_)))
  refine W.cond rfl (fun hc7 => ?_) (fun hc7 => ?_)
  ·
   have hc7p : (n : Int) < (x5.ins.length : Int) := by simpa using hc7
   refine W.skip (N.seq (W.seq (W.block (W.seq (W.region (WL.fieldAddr fo_24_3 rfl rfl rfl (WL.load1 (v := .slice adb f.blocks.length capb) one_22 rfl rfl rfl (hS.cell 0 rfl rfl) (WL.move rfl rfl rfl (WL.indexAddrE (j := k) Try.underlying22 isz_32 rfl rfl rfl rfl hj5 hE5 ?_)))))))))
   refine WL.fieldAddr fo_32_1 rfl rfl rfl (WL.load1 (v := .slice adi5 x5.ins.length capi5) one_27 rfl rfl rfl (hS.roCells hr5 hc5 1 _ rfl) (WL.move rfl rfl rfl ?_))
   have hj8 : n < x5.ins.length := by omega
   obtain ⟨x8, hx8⟩ : ∃ zz, x5.ins[n]? = some zz := ⟨_, List.getElem?_eq_getElem hj8⟩
   obtain ⟨b8, o8, cs8, hE8, hr8, hl8, hc8, hQ8⟩ := hin5d n _ hx8
   have hQk8 := hQ8
   obtain ⟨sv8, rfl, hs8, ho8, ha8, hb8, hk8, hn8⟩ := hQ8
   obtain ⟨ad8, cap8, rfl, hs8a, hs8b, hs8c, hs8d⟩ := id hs8
   have hs8m : x8.args.length ≤ 9223372036854775807 := by have h1 := hs8a; have h2 := hs8b; unfold maxLen at h2; omega
   refine WL.indexAddrE (j := n) Try.underlying27 isz_36 rfl rfl rfl rfl hj8 hE8 (WL.loadN (cs := [.int .i64 x8.op, .int .i64 x8.a, .int .i64 x8.b, .int .u64 x8.k, .string x8.name, .slice ad8 x8.args.length cap8]) agg_36 rfl rfl rfl rfl (hS.roCells hr8 hc8) ?_)
   refine WL.callF (vs := [.agg #[.int .i64 x8.op, .int .i64 x8.a, .int .i64 x8.b, .int .u64 x8.k, .string x8.name, .slice ad8 x8.args.length cap8]]) Try.func58 (by kernel_rfl) rfl rfl rfl (named5_ret x8 _ (ro := ro) (fun b hb => (hS.snap b hb).1) (InstC.keep hQk8 hS.alike)) ?_
   rintro v w9 ⟨rfl, hbl⟩
   replace hS := hS.grow hbl
   refine WL.assign rfl rfl rfl (WL.nil (N.seq (W.seq (W.region (WL.move rfl rfl rfl (WL.nil (N.seq ?_)))))))
   refine W.cond rfl (fun hc10 => ?_) (fun hc10 => ?_)
   ·
    have hcl : c2 ≤ 1000000 := by have h1 := pre_le (n := n) hx5; have h2 := rf5_le ((f.blocks.take k).flatMap (·.ins) ++ x5.ins.take n); omega
    refine W.region (WL.move rfl rfl rfl (WL.fieldAddr fo_24_3 rfl rfl rfl (WL.load1 (v := .slice adb f.blocks.length capb) one_22 rfl rfl rfl (hS.cell 0 rfl rfl) (WL.move rfl rfl rfl (WL.indexAddrE (j := k) Try.underlying22 isz_32 rfl rfl rfl rfl hj5 hE5 (WL.fieldAddr fo_32_1 rfl rfl rfl (WL.load1 (v := .slice adi5 x5.ins.length capi5) one_27 rfl rfl rfl (hS.roCells hr5 hc5 1 _ rfl) (WL.move rfl rfl rfl (WL.indexAddrE (j := n) Try.underlying27 isz_36 rfl rfl rfl rfl hj8 hE8 ?_)))))))))
    refine WL.fieldAddr fo_36_4 rfl rfl rfl (WL.load1 (v := .string x8.name) one_9 rfl rfl rfl (hS.roCells hr8 hc8 4 _ rfl) ?_)
    refine WL.buildSlice (ps := [(0, .string x8.name)]) (cs := [.string x8.name]) Try.underlying78 (tyZero_spec zer_9) rfl rfl rfl rfl (by kernel_rfl) hS ?_
    clear hS; intro w12 b11 hb_b11 hS
    refine WL.append (r := ⟨.slice adv2 c2 capv2, 9, 1, c2, cs2⟩) (cs := [.string x8.name]) 16 Try.underlying78 (tyZero_spec zer_9) byt_9 rfl rfl rfl rfl rfl rfl rfl rfl rfl hS (by unfold maxLen; simp only; omega) (by simp only; omega) ?_
    clear hS; intro w13 v14 hn_v14 hS
    have hrow : w13.ownsRow w.heap.size 9 1 v14 (c2 + 1) _ := hS.rows _ List.mem_cons_self
    obtain ⟨av14, cv14, rfl, hc1_v14, hc2_v14, hc3_v14⟩ := row_shape hrow
    clear hrow
    refine WL.assign rfl rfl rfl (WL.nil (N.blk (N.seq (W.region (WL.move rfl rfl rfl ?_)))))
    refine WL.add (c := (n : Int) + 1) rfl rfl rfl rfl (rfl) (by omega) ?_
    refine WL.assign rfl rfl rfl (WL.nil ?_)
    have hs5 : rf5 ((f.blocks.take k).flatMap (·.ins) ++ x5.ins.take (n + 1)) = rf5 ((f.blocks.take k).flatMap (·.ins) ++ x5.ins.take n) ++ [x8.name] := by rw [take_next hx8, ← List.append_assoc, rf5_snoc, if_pos hc10]
    exact N.loop (n + 1, .slice av14 (c2 + 1) cv14, cs2 ++ ([.string x8.name] : List Value), c2 + 1) ⟨rfl, rfl, rfl, rfl, rfl, trivial⟩ ⟨hS, by omega, by rw [hs5]; exact hch.snoc rfl ⟨rfl, hn8⟩, by rw [hs5, List.length_append, ← hc]; rfl⟩ (by first | omega | (simp only; omega))
   refine W.skip (N.blk (N.seq (W.region (WL.move rfl rfl rfl ?_))))
   refine WL.add (c := (n : Int) + 1) rfl rfl rfl rfl (rfl) (by omega) ?_
   refine WL.assign rfl rfl rfl (WL.nil ?_)
   have hs5 : rf5 ((f.blocks.take k).flatMap (·.ins) ++ x5.ins.take (n + 1)) = rf5 ((f.blocks.take k).flatMap (·.ins) ++ x5.ins.take n) := by rw [take_next hx8, ← List.append_assoc, rf5_snoc, if_neg (by simp [hc10]), List.append_nil]
   exact N.loop (n + 1, .slice adv2 c2 capv2, cs2, c2) ⟨rfl, rfl, rfl, rfl, rfl, trivial⟩ ⟨hS, by omega, by rw [hs5]; exact hch, by rw [hs5]; exact hc⟩ (by first | omega | (simp only; omega))
  have hc7p : ¬ ((n : Int) < (x5.ins.length : Int)) := by simpa using hc7
  refine W.exit (X.seq (X.loop (X.blk (N.blk (N.seq (W.region (WL.move rfl rfl rfl ?_)))))))
  refine WL.add (c := (k : Int) + 1) rfl rfl rfl rfl (rfl) (by omega) ?_
  refine WL.assign rfl rfl rfl (WL.nil ?_)
  have he : (f.blocks.take (k + 1)).flatMap (·.ins) = (f.blocks.take k).flatMap (·.ins) ++ x5.ins.take n := by rw [take_next hx5, List.flatMap_append, show n = x5.ins.length by omega, List.take_length]; simp
  exact N.loop (k + 1, .slice adv2 c2 capv2, cs2, c2) ⟨rfl, rfl, rfl, rfl, trivial⟩ ⟨hS, by omega, by rw [he]; exact hch, by rw [he]; exact hc⟩ (by first | omega | (simp only; omega))
 have hc4p : ¬ ((k : Int) < (f.blocks.length : Int)) := by simpa using hc4
 refine W.exit (X.seq (X.loop (X.blk (N.seq (W.seq (W.region (WL.move rfl rfl rfl (WL.assign rfl rfl rfl (WL.nil ?_)))))))))
 refine N.seq ?_
 refine Fin.ret1 rfl (v := .slice adv c capv) rfl ?_
 have hke : k = f.blocks.length := by omega
 rw [hke, List.take_length] at hch hc
 refine ⟨row_slv (hS.rows _ List.mem_cons_self) hch hc (fun x hx => ?_), hS.below⟩
 exact (hS.keys x (by simp only [keysOf, List.mem_append, List.mem_filterMap]; exact .inr ⟨_, List.mem_cons_self, hx⟩)).imp id (·.1)

end Go.Proofs.Ytdlcmhkfglckfaa
