/- door.Hello, door.Prove. -/
import Derived.Test.YtapednkmefbldaaDoorSealC
import Derived.Test.YtapednkmefbldaaDoorEqB
namespace Go.Proofs.YtapednkmefbldaaDoor
open Go.RowKit

section
variable {P : Program}
theorem run_load_blk {T : TypeId} {n g : Nat} {cs : Array Value} {w : World} (hA : AggT P T n) (hg : Blk w g cs T) (hn : cs.size = n) : (loadVar T ⟨g, 0, none⟩).run P w = .ok (.agg cs) w := by
  obtain ⟨⟨d, hu, hd⟩, hi⟩ := hA
  cases d <;> first | (cases hd; done) | exact run_loadVar_row w g T T cs (0, 0) _ hg hu rfl (by rw [hi, hn])
theorem results_ct {fn : Func} {p q : Tmp} {T : TypeId} {n : Nat} (hT : AggT P T n) (h : fn.results = #[.cell p T, .tmp q]) (tmps : Array Value) (w : World) (g : Nat) (cs : Array Value) (v : Value)
    (hp : tmps.getD p undef = .pointer (some ⟨g, 0, none⟩)) (hq : tmps.getD q undef = v) (hg : Blk w g cs T) (hn : cs.size = n) : (results fn tmps).run P w = .ok (.tuple #[.agg cs, v]) w := by
  have hp' : tmps[p]?.getD undef = .pointer (some ⟨g, 0, none⟩) := by simpa using hp
  have hq' : tmps[q]?.getD undef = v := by simpa using hq
  simp [results, h, hp', hq', asAddr, run_load_blk hT hg hn]
theorem results_cct {fn : Func} {p p2 q : Tmp} {T T2 : TypeId} {n n2 : Nat} (hT : AggT P T n) (hT2 : AggT P T2 n2) (h : fn.results = #[.cell p T, .cell p2 T2, .tmp q]) (tmps : Array Value) (w : World) (g g2 : Nat) (cs cs2 : Array Value) (v : Value)
    (hp : tmps.getD p undef = .pointer (some ⟨g, 0, none⟩)) (hp2 : tmps.getD p2 undef = .pointer (some ⟨g2, 0, none⟩)) (hq : tmps.getD q undef = v) (hg : Blk w g cs T) (hn : cs.size = n) (hg2 : Blk w g2 cs2 T2) (hn2 : cs2.size = n2) : (results fn tmps).run P w = .ok (.tuple #[.agg cs, .agg cs2, v]) w := by
  have hp' : tmps[p]?.getD undef = .pointer (some ⟨g, 0, none⟩) := by simpa using hp
  have hp2' : tmps[p2]?.getD undef = .pointer (some ⟨g2, 0, none⟩) := by simpa using hp2
  have hq' : tmps[q]?.getD undef = v := by simpa using hq
  simp [results, h, hp', hp2', hq', asAddr, run_load_blk hT hg hn, run_load_blk hT2 hg2 hn2]
end
def doorV (many : Int) (op : Bool) (nc : List Int) : Array Value := #[.int .i64 many, .bool op] ++ u8V nc
theorem doorV_size (many : Int) (op : Bool) (nc : List Int) (h : nc.length = 8) : (doorV many op nc).size = 10 := by simp [doorV, u8V_size, h]
theorem doorV_one (many : Int) (op : Bool) (nc : List Int) : (doorV many op nc).all (·.oneCell') = true := by
  rw [Array.all_eq_true]
  intro i hi
  simp only [doorV] at hi ⊢
  rw [Array.getElem_append]
  split
  · rename_i h
    have : i = 0 ∨ i = 1 := by simp at h; omega
    rcases this with rfl | rfl <;> rfl
  · simp [u8V, Value.oneCell']
theorem doorV_0 (many : Int) (op : Bool) (nc : List Int) : (doorV many op nc)[0]? = some (.int .i64 many) := by
  unfold doorV
  rw [Array.getElem?_append_left (by simp)]
  rfl
theorem doorV_1 (many : Int) (op : Bool) (nc : List Int) : (doorV many op nc)[1]? = some (.bool op) := by
  unfold doorV
  rw [Array.getElem?_append_left (by simp)]
  rfl
theorem doorV_nc (many : Int) (op : Bool) (nc : List Int) (h : nc.length = 8) : (doorV many op nc).extract 2 (2 + 8) = u8V nc := by
  match nc, h with
  | [a, b, c, d, e, f, g, i], _ => rfl
theorem build_door (many : Int) (op : Bool) (nc : List Int) (h : nc.length = 8) : Tryd.prog.built 46 [(0, .int .i64 many), (1, .bool op), (2, .agg (u8V nc))] = some (doorV many op nc) := by
  obtain ⟨a, b, c, d, e, f, g, i, rfl⟩ : ∃ a b c d e f g i, nc = [a, b, c, d, e, f, g, i] := by
    match nc, h with
    | [a, b, c, d, e, f, g, i], _ => exact ⟨a, b, c, d, e, f, g, i, rfl⟩
  kernel_rfl
theorem build_door1 (many : Int) : Tryd.prog.built 46 [(0, .int .i64 many)] = some (doorV many false (zeros 8)) := by kernel_rfl
theorem build_door0 : Tryd.prog.built 46 [] = some (doorV 0 false (zeros 8)) := by kernel_rfl
theorem build_z32 : Tryd.prog.built 22 [] = some (u8V (zeros 32)) := by kernel_rfl
theorem build_z8 : Tryd.prog.built 29 [] = some (u8V (zeros 8)) := by kernel_rfl
theorem agg_door : AggT Tryd.prog 46 10 := ⟨⟨_, Tryd.underlying46, rfl⟩, by kernel_rfl⟩
theorem zeroT_door : ZeroT Tryd.prog 46 (doorV 0 false (zeros 8)) := by
  intro ev o w ho
  unfold execOp
  simp only [ho]
  simp [go_sem]
  exact congrArg (fun c => w.alloc (.cells c 46)) (by kernel_rfl)
theorem z8_len : (zeros 8).length = 8 := rfl
set_option maxRecDepth 100000 in
set_option maxHeartbeats 800000 in
theorem hello_spent (A : Option Addr) (n c : Nat) (s many : Int) (op : Bool) (nc : List Int) (w : World) (hc : nc.length = 8) (hm : 4294967295 ≤ many) :
    Calls Tryd.prog 21 #[.agg (doorV many op nc), .slice A n c, .int .i64 s] w fun e w' => e = .returned (.tuple #[.agg (doorV many op nc), .int .i64 24]) ∧ Below w.heap.size w w' := by
  have DS := Lib.hid (doorV_size many op nc hc)
  have D1 := Lib.hid (doorV_one many op nc)
  have C0 := doorV_0 many op nc
  generalize doorV many op nc = dv at *
  clear hc
  go_enter Tryd.func21, Tryd.ntmps21
  go_wp2_with ((with_reducible show wpList _ _ _ (⟨_, .alloc 46, _, _, _, none⟩ :: _) _ _); (with_reducible refine wpRow_alloc zeroT_door ?_ ?_ ?_); (· exact wanted0 rfl); (· rfl); refine Marker.mk ?_)
  refine Marker.in ?_
  have K3 := Lib.hid ((Blk.new w dv 46).alloc (.cells (doorV 0 false (zeros 8)) 46))
  have K6 := Lib.hid (Blk.new' (w.alloc (.cells dv 46)) (doorV 0 false (zeros 8)) 46 (g := w.heap.size + 1) (by simp))
  have BB := Lib.hid (below_alloc2 w (.cells dv 46) (.cells (doorV 0 false (zeros 8)) 46))
  generalize (w.alloc (.cells dv 46)).alloc (.cells (doorV 0 false (zeros 8)) 46) = w1 at *
  have c0 := K3.out.cell 0
  rw [C0] at c0
  clear C0
  go_wp2_with (first | ((with_reducible show wpList _ _ _ (⟨_, .load 46 _, _, _, _, none⟩ :: _) _ _); (with_reducible refine wpBlk_load (g := w.heap.size) agg_door ?_ ?_ K3 ?_ ?_); (· exact wanted0 rfl); (· exact ⟨rfl, rfl⟩); (· exact DS.out)) | ((with_reducible show wpList _ _ _ (⟨_, .store 46 _ _, _, _, _, none⟩ :: _) _ _); (with_reducible refine wpBlk_store (g := w.heap.size + 1) (cs := dv) agg_door ?_ ?_ K6 ?_ ?_ ?_ ?_); (· exact wanted0 rfl); (· exact ⟨rfl, rfl, rfl⟩); (· exact doorV_size _ _ _ z8_len); (· exact DS.out); (· exact D1.out)))
  refine bodyPost_ret (v := .tuple #[.agg dv, .int .i64 24]) (results_ct agg_door rfl _ _ (w.heap.size + 1) _ _ rfl rfl (K6.out.setRow _) DS.out) rfl ⟨rfl, below_setRow BB.out (by omega) _⟩
set_option maxRecDepth 100000 in
set_option maxHeartbeats 800000 in
theorem hello_ok (A : Option Addr) (k : List Int) (n c : Nat) (s many : Int) (op : Bool) (nc : List Int) (w : World) (hn : k.length = n) (hk : Row w A k) (hl : n ≤ 10000000) (hc : nc.length = 8) (hm : -9223372036854775808 ≤ many ∧ many < 4294967295) (hR : Roots w) :
    Calls Tryd.prog 21 #[.agg (doorV many op nc), .slice A n c, .int .i64 s] w fun e w' => e = .returned (.tuple #[.agg (doorV (many + 1) true ((hmac k (nonceB s (many + 1))).take 8)), .int .i64 0]) ∧ Below w.heap.size w w' := by
  have CN := fun (W : World) (hb : Below w.heap.size w W) => nonce_any A k n c s (many + 1) W hn (hk.below hb) hl (hR.below hb)
  have AL : ((hmac k (nonceB s (many + 1))).take 8).length = 8 := by rw [List.length_take, hmac_len]; rfl
  generalize (hmac k (nonceB s (many + 1))).take 8 = an at *
  have BD := Lib.hid (build_door (many + 1) true an AL)
  have DS := Lib.hid (doorV_size (many + 1) true an AL)
  have D1 := Lib.hid (doorV_one (many + 1) true an)
  have C0 := doorV_0 many op nc
  have i1 : IntKind.i64.wrap (many + 1) = many + 1 := IntWalk.i64_in _ (by omega)
  generalize doorV many op nc = dv at *
  generalize doorV (many + 1) true an = dr at *
  replace CN := Lib.hid CN
  replace AL := Lib.hid AL
  clear hc hn hk hR
  obtain ⟨hm0, hm1⟩ := hm
  go_enter Tryd.func21, Tryd.ntmps21
  go_wp2_with ((with_reducible show wpList _ _ _ (⟨_, .alloc 46, _, _, _, none⟩ :: _) _ _); (with_reducible refine wpRow_alloc zeroT_door ?_ ?_ ?_); (· exact wanted0 rfl); (· rfl); refine Marker.mk ?_)
  refine Marker.in ?_
  have K3 := Lib.hid ((Blk.new w dv 46).alloc (.cells (doorV 0 false (zeros 8)) 46))
  have K6 := Lib.hid (Blk.new' (w.alloc (.cells dv 46)) (doorV 0 false (zeros 8)) 46 (g := w.heap.size + 1) (by simp))
  have BB := Lib.hid (below_alloc2 w (.cells dv 46) (.cells (doorV 0 false (zeros 8)) 46))
  generalize (w.alloc (.cells dv 46)).alloc (.cells (doorV 0 false (zeros 8)) 46) = w1 at *
  have c0 := K3.out.cell 0
  rw [C0] at c0
  clear C0
  go_wp2_with fail
  clear c0
  ((with_reducible refine (CN.out _ BB.out).mono ?_))
  rintro e w2 ⟨rfl, b2⟩
  replace K6 := Lib.hid (K6.out.below b2)
  replace BB := Lib.hid (bt BB.out b2)
  clear b2 CN K3
  go_wp2_with (first | ((with_reducible show wpList _ _ _ (⟨some 21, _, _, _, _, _⟩ :: _) _ _); refine wpList_build' rfl 46 _ rfl dr BD.out ?_) | ((with_reducible show wpList _ _ _ (⟨_, .store 46 _ _, _, _, _, none⟩ :: _) _ _); (with_reducible refine wpBlk_store (g := w.heap.size + 1) (cs := dr) agg_door ?_ ?_ K6 ?_ ?_ ?_ ?_); (· exact wanted0 rfl); (· exact ⟨rfl, rfl, rfl⟩); (· exact doorV_size _ _ _ z8_len); (· exact DS.out); (· exact D1.out)))
  refine bodyPost_ret (v := .tuple #[.agg dr, .int .i64 0]) (results_ct agg_door rfl _ _ (w.heap.size + 1) _ _ rfl rfl (K6.out.setRow _) DS.out) rfl ⟨rfl, below_setRow BB.out (by omega) _⟩
set_option maxRecDepth 100000 in
set_option maxHeartbeats 800000 in
theorem prove_shut (A : Option Addr) (n c : Nat) (s r many : Int) (nc pf : List Int) (w : World) (hc : nc.length = 8) :
    Calls Tryd.prog 22 #[.agg (doorV many false nc), .slice A n c, .int .i64 s, .int .i64 r, .agg (u8V pf)] w fun e w' => e = .returned (.tuple #[.agg (doorV many false nc), .agg (u8V (zeros 32)), .int .i64 17]) ∧ Below w.heap.size w w' := by
  have DS := Lib.hid (doorV_size many false nc hc)
  have D1 := Lib.hid (doorV_one many false nc)
  have C1 := doorV_1 many false nc
  have BZ := Lib.hid build_z32
  generalize doorV many false nc = dv at *
  clear hc
  go_enter Tryd.func22, Tryd.ntmps22
  go_wp2_with (first | ((with_reducible show wpList _ _ _ (⟨_, .alloc 46, _, _, _, none⟩ :: _) _ _); (with_reducible refine wpRow_alloc zeroT_door ?_ ?_ ?_); (· exact wanted0 rfl); (· rfl)) | ((with_reducible show wpList _ _ _ (⟨_, .alloc 22, _, _, _, none⟩ :: _) _ _); (with_reducible refine wpRow_alloc zeroT_b32 ?_ ?_ ?_); (· exact wanted0 rfl); (· rfl); refine Marker.mk ?_))
  refine Marker.in ?_
  have K5 := Lib.hid ((((Blk.new w dv 46).alloc (.cells (u8V pf) 29)).alloc (.cells (doorV 0 false (zeros 8)) 46)).alloc (.cells (u8V (zeros 32)) 22))
  have K9 := Lib.hid (((Blk.new' (w.alloc (.cells dv 46)) (u8V pf) 29 (g := w.heap.size + 1) (by simp)).alloc (.cells (doorV 0 false (zeros 8)) 46)).alloc (.cells (u8V (zeros 32)) 22))
  have K10 := Lib.hid ((Blk.new' ((w.alloc (.cells dv 46)).alloc (.cells (u8V pf) 29)) (doorV 0 false (zeros 8)) 46 (g := w.heap.size + 1 + 1) (by simp)).alloc (.cells (u8V (zeros 32)) 22))
  have K11 := Lib.hid (Blk.new' (((w.alloc (.cells dv 46)).alloc (.cells (u8V pf) 29)).alloc (.cells (doorV 0 false (zeros 8)) 46)) (u8V (zeros 32)) 22 (g := w.heap.size + 1 + 1 + 1) (by simp))
  have BB := Lib.hid (bt (below_alloc3 w (.cells dv 46) (.cells (u8V pf) 29) (.cells (doorV 0 false (zeros 8)) 46)) (below_alloc1 (((w.alloc (.cells dv 46)).alloc (.cells (u8V pf) 29)).alloc (.cells (doorV 0 false (zeros 8)) 46)) (.cells (u8V (zeros 32)) 22)))
  generalize (((w.alloc (.cells dv 46)).alloc (.cells (u8V pf) 29)).alloc (.cells (doorV 0 false (zeros 8)) 46)).alloc (.cells (u8V (zeros 32)) 22) = w1 at *
  obtain ⟨g9, hg9⟩ : ∃ g, w.heap.size + 1 = g := ⟨_, rfl⟩
  rw [hg9] at K9 K10 K11
  simp only [hg9]
  obtain ⟨g10, hg10⟩ : ∃ g, g9 + 1 = g := ⟨_, rfl⟩
  rw [hg10] at K10 K11
  simp only [hg10]
  obtain ⟨g11, hg11⟩ : ∃ g, g10 + 1 = g := ⟨_, rfl⟩
  rw [hg11] at K11
  simp only [hg11]
  have n9 : w.heap.size < g9 := by omega
  have n10 : g9 < g10 := by omega
  have n11 : g10 < g11 := by omega
  clear hg9 hg10 hg11
  have c1 := K5.out.cell 1
  rw [C1] at c1
  clear C1
  go_wp2_with (first | ((with_reducible show wpList _ _ _ (⟨_, .load 46 _, _, _, _, none⟩ :: _) _ _); (with_reducible refine wpBlk_load (g := w.heap.size) agg_door ?_ ?_ K5 ?_ ?_); (· exact wanted0 rfl); (· exact ⟨rfl, rfl⟩); (· exact DS.out)) | ((with_reducible show wpList _ _ _ (⟨some 19, _, _, _, _, _⟩ :: _) _ _); refine wpList_build' rfl 22 _ rfl (u8V (zeros 32)) BZ.out ?_) | ((with_reducible show wpList _ _ _ (⟨_, .store 46 _ _, _, _, _, none⟩ :: _) _ _); (with_reducible refine wpBlk_store (g := g10) (cs := dv) agg_door ?_ ?_ K10 ?_ ?_ ?_ ?_); (· exact wanted0 rfl); (· exact ⟨rfl, rfl, rfl⟩); (· exact doorV_size _ _ _ z8_len); (· exact DS.out); (· exact D1.out); refine Marker.mk ?_))
  refine Marker.in ?_
  clear c1 K5 K9
  replace K11 := Lib.hid (K11.out.setRow_other g10 dv (by omega))
  replace K10 := Lib.hid (K10.out.setRow dv)
  replace BB := Lib.hid (below_setRow (g := g10) BB.out (by omega) dv)
  generalize w1.setRow g10 dv = w2 at *
  go_wp2_with ((with_reducible show wpList _ _ _ (⟨_, .store 22 _ _, _, _, _, none⟩ :: _) _ _); (with_reducible refine wpBlk_store (g := g11) (cs := u8V (zeros 32)) agg_b32 ?_ ?_ K11 ?_ ?_ ?_ ?_); (· exact wanted0 rfl); (· exact ⟨rfl, rfl, rfl⟩); (· rw [u8V_size, zeros_len]); (· rw [u8V_size, zeros_len]); (· exact u8V_one _))
  refine bodyPost_ret (v := .tuple #[.agg dv, .agg (u8V (zeros 32)), .int .i64 17]) (results_cct agg_door agg_b32 rfl _ _ g10 g11 _ _ _ rfl rfl rfl (K10.out.setRow_other _ _ (by omega)) DS.out (K11.out.setRow _) (by rw [u8V_size, zeros_len])) rfl ⟨rfl, below_setRow BB.out (by omega) _⟩
def RProve (cl : Array Value) (A : Option Addr) (n c : Nat) (s r : Int) (g5 : Nat) (nc kv : List Int) (i : Nat) (v : Value) (w : World) : Prop := match i with
  | 0 => v = .agg cl
  | 1 => v = .slice A n c
  | 2 => v = .int .i64 s
  | 3 => v = .int .i64 r
  | 4 => v = .pointer (some ⟨g5, 2, none⟩)
  | 5 => v = .agg (u8V nc)
  | _ => v = .agg (u8V kv)
theorem RProve_keep (cl : Array Value) (A : Option Addr) (n c : Nat) (s r : Int) (g5 : Nat) (nc kv : List Int) : ∀ i v w w', i < 7 → RProve cl A n c s r g5 nc kv i v w → BelR w w' → RProve cl A n c s r g5 nc kv i v w' := by
  intro i v w w' hi h hb
  unfold RProve at *
  split at h
  all_goals exact h
set_option maxRecDepth 100000 in
set_option maxHeartbeats 1600000 in
theorem prove_bad (A : Option Addr) (k : List Int) (n c : Nat) (s r many : Int) (nc pf : List Int) (w : World) (hn : k.length = n) (hk : Row w A k) (hl : n ≤ 10000000) (hc : nc.length = 8) (hb : ∀ x ∈ nc, 0 ≤ x ∧ x ≤ 255) (hR : Roots w) (hpl : pf.length = 8) (hpb : ∀ x ∈ pf, 0 ≤ x ∧ x ≤ 255) (hp : pf ≠ (hmac k (loginB 80 s r nc)).take 8) :
    Calls Tryd.prog 22 #[.agg (doorV many true nc), .slice A n c, .int .i64 s, .int .i64 r, .agg (u8V pf)] w fun e w' => e = .returned (.tuple #[.agg (doorV many false (zeros 8)), .agg (u8V (zeros 32)), .int .i64 14]) ∧ Below w.heap.size w w' := by
  have CP := fun (W : World) (hb' : Below w.heap.size w W) => proof_any A k nc n c s r W hn (hk.below hb') hl hc hb (hR.below hb')
  have CK := fun (W : World) (hb' : Below w.heap.size w W) => key_any A k nc n c s r W hn (hk.below hb') hl hc hb (hR.below hb')
  have RL : ((hmac k (loginB 80 s r nc)).take 8).length = 8 := by rw [List.length_take, hmac_len]; rfl
  have RB : ∀ x ∈ (hmac k (loginB 80 s r nc)).take 8, 0 ≤ x ∧ x ≤ 255 := fun x hx => hmac_bytes _ _ x (List.mem_of_mem_take hx)
  have KL : (hmac k (loginB 75 s r nc)).length = 32 := hmac_len _ _
  have SM : decide (pf = (hmac k (loginB 80 s r nc)).take 8) = false := decide_eq_false hp
  generalize (hmac k (loginB 80 s r nc)).take 8 = rt at *
  generalize hmac k (loginB 75 s r nc) = kv at *
  have DS := Lib.hid (doorV_size many true nc hc)
  have C0 := doorV_0 many true nc
  have C1 := doorV_1 many true nc
  have CX := Lib.hid (doorV_nc many true nc hc)
  have BZ := Lib.hid build_z32
  have BC := Lib.hid (build_door1 many)
  have ES := Lib.hid (doorV_size many false (zeros 8) z8_len)
  have E1 := Lib.hid (doorV_one many false (zeros 8))
  generalize doorV many true nc = dv at *
  generalize doorV many false (zeros 8) = cl at *
  replace CP := Lib.hid CP
  replace CK := Lib.hid CK
  replace RL := Lib.hid RL
  replace RB := Lib.hid RB
  replace KL := Lib.hid KL
  replace SM := Lib.hid SM
  have HPL := Lib.hid hpl
  have HPB := Lib.hid hpb
  have HC := Lib.hid hc
  clear hc hn hk hR hb hpl hpb hp
  go_enter Tryd.func22, Tryd.ntmps22
  go_wp2_with (first | ((with_reducible show wpList _ _ _ (⟨_, .alloc 46, _, _, _, none⟩ :: _) _ _); (with_reducible refine wpRow_alloc zeroT_door ?_ ?_ ?_); (· exact wanted0 rfl); (· rfl)) | ((with_reducible show wpList _ _ _ (⟨_, .alloc 22, _, _, _, none⟩ :: _) _ _); (with_reducible refine wpRow_alloc zeroT_b32 ?_ ?_ ?_); (· exact wanted0 rfl); (· rfl); refine Marker.mk ?_))
  refine Marker.in ?_
  have K5 := Lib.hid ((((Blk.new w dv 46).alloc (.cells (u8V pf) 29)).alloc (.cells (doorV 0 false (zeros 8)) 46)).alloc (.cells (u8V (zeros 32)) 22))
  have K9 := Lib.hid (((Blk.new' (w.alloc (.cells dv 46)) (u8V pf) 29 (g := w.heap.size + 1) (by simp)).alloc (.cells (doorV 0 false (zeros 8)) 46)).alloc (.cells (u8V (zeros 32)) 22))
  have K10 := Lib.hid ((Blk.new' ((w.alloc (.cells dv 46)).alloc (.cells (u8V pf) 29)) (doorV 0 false (zeros 8)) 46 (g := w.heap.size + 1 + 1) (by simp)).alloc (.cells (u8V (zeros 32)) 22))
  have K11 := Lib.hid (Blk.new' (((w.alloc (.cells dv 46)).alloc (.cells (u8V pf) 29)).alloc (.cells (doorV 0 false (zeros 8)) 46)) (u8V (zeros 32)) 22 (g := w.heap.size + 1 + 1 + 1) (by simp))
  have BB := Lib.hid (bt (below_alloc3 w (.cells dv 46) (.cells (u8V pf) 29) (.cells (doorV 0 false (zeros 8)) 46)) (below_alloc1 (((w.alloc (.cells dv 46)).alloc (.cells (u8V pf) 29)).alloc (.cells (doorV 0 false (zeros 8)) 46)) (.cells (u8V (zeros 32)) 22)))
  generalize (((w.alloc (.cells dv 46)).alloc (.cells (u8V pf) 29)).alloc (.cells (doorV 0 false (zeros 8)) 46)).alloc (.cells (u8V (zeros 32)) 22) = w1 at *
  obtain ⟨g9, hg9⟩ : ∃ g, w.heap.size + 1 = g := ⟨_, rfl⟩
  rw [hg9] at K9 K10 K11
  simp only [hg9]
  obtain ⟨g10, hg10⟩ : ∃ g, g9 + 1 = g := ⟨_, rfl⟩
  rw [hg10] at K10 K11
  simp only [hg10]
  obtain ⟨g11, hg11⟩ : ∃ g, g10 + 1 = g := ⟨_, rfl⟩
  rw [hg11] at K11
  simp only [hg11]
  have n9 : w.heap.size < g9 := by omega
  have n10 : g9 < g10 := by omega
  have n11 : g10 < g11 := by omega
  clear hg9 hg10 hg11
  have c0 := K5.out.cell 0
  have c1 := K5.out.cell 1
  rw [C0] at c0
  rw [C1] at c1
  clear C0 C1
  have l11 := K11.out.lt
  go_wp2_with (first | ((with_reducible show wpList _ _ _ (⟨some 22, _, _, _, _, _⟩ :: _) _ _); refine wpList_build' rfl 46 _ rfl cl BC.out ?_) | ((with_reducible show wpList _ _ _ (⟨_, .alloc 46, _, _, _, none⟩ :: _) _ _); (with_reducible refine wpRow_alloc zeroT_door ?_ ?_ ?_); (· exact wanted0 rfl); (· rfl); refine Marker.mk ?_))
  refine Marker.in ?_
  clear c0 c1
  have bel := below_alloc1 w1 (.cells (doorV 0 false (zeros 8)) 46)
  replace K5 := Lib.hid (K5.out.below bel)
  replace K9 := Lib.hid (K9.out.below bel)
  replace K10 := Lib.hid (K10.out.below bel)
  replace K11 := Lib.hid (K11.out.below bel)
  replace BB := Lib.hid (bt BB.out bel)
  have K13 := Lib.hid (Blk.new w1 (doorV 0 false (zeros 8)) 46)
  clear bel
  generalize w1.alloc (.cells (doorV 0 false (zeros 8)) 46) = w2 at *
  generalize w1.heap.size = g13 at *
  go_wp2_with ((with_reducible show wpList _ _ _ (⟨_, .store 46 _ _, _, _, _, none⟩ :: _) _ _); (with_reducible refine wpBlk_store (g := g13) (cs := cl) agg_door ?_ ?_ K13 ?_ ?_ ?_ ?_); (· exact wanted0 rfl); (· exact ⟨rfl, rfl, rfl⟩); (· exact doorV_size _ _ _ z8_len); (· exact ES.out); (· exact E1.out); refine Marker.mk ?_)
  refine Marker.in ?_
  replace K5 := Lib.hid (K5.out.setRow_other g13 cl (by omega))
  replace K9 := Lib.hid (K9.out.setRow_other g13 cl (by omega))
  replace K10 := Lib.hid (K10.out.setRow_other g13 cl (by omega))
  replace K11 := Lib.hid (K11.out.setRow_other g13 cl (by omega))
  replace K13 := Lib.hid (K13.out.setRow cl)
  replace BB := Lib.hid (below_setRow (g := g13) BB.out (by omega) cl)
  generalize w2.setRow g13 cl = w3 at *
  go_wp2_with ((with_reducible show wpList _ _ _ (⟨_, .load 29 _, _, _, _, none⟩ :: _) _ _); (with_reducible refine wpBlk_mid (g := w.heap.size) (off := 2) (cs := u8V nc) agg_b8 ?_ ?_ K5 ?_ ?_ ?_); (· exact wanted0 rfl); (· exact ⟨rfl, rfl⟩); (· rw [u8V_size, HC.out]); (· exact CX.out))
  ((with_reducible refine (CP.out _ BB.out).mono ?_))
  rintro e w4 ⟨rfl, b4⟩
  replace K5 := Lib.hid (K5.out.below b4)
  replace K9 := Lib.hid (K9.out.below b4)
  replace K10 := Lib.hid (K10.out.below b4)
  replace K11 := Lib.hid (K11.out.below b4)
  replace K13 := Lib.hid (K13.out.below b4)
  replace BB := Lib.hid (bt BB.out b4)
  clear b4 CP
  have l13 := K13.out.lt
  go_wp2_with ((with_reducible show wpList _ _ _ (⟨_, .alloc 29, _, _, _, none⟩ :: _) _ _); (with_reducible refine wpRow_alloc zeroT_b8 ?_ ?_ ?_); (· exact wanted0 rfl); (· rfl); refine Marker.mk ?_)
  refine Marker.in ?_
  have bel := below_alloc1 w4 (.cells (u8V (zeros 8)) 29)
  replace K5 := Lib.hid (K5.out.below bel)
  replace K9 := Lib.hid (K9.out.below bel)
  replace K10 := Lib.hid (K10.out.below bel)
  replace K11 := Lib.hid (K11.out.below bel)
  replace K13 := Lib.hid (K13.out.below bel)
  replace BB := Lib.hid (bt BB.out bel)
  have K14 := Lib.hid (Blk.new w4 (u8V (zeros 8)) 29)
  clear bel
  generalize w4.alloc (.cells (u8V (zeros 8)) 29) = w5 at *
  generalize w4.heap.size = g14 at *
  go_wp2_with ((with_reducible show wpList _ _ _ (⟨_, .store 29 _ _, _, _, _, none⟩ :: _) _ _); (with_reducible refine wpBlk_store (g := g14) (cs := u8V rt) agg_b8 ?_ ?_ K14 ?_ ?_ ?_ ?_); (· exact wanted0 rfl); (· exact ⟨rfl, rfl, rfl⟩); (· rw [u8V_size, zeros_len]); (· rw [u8V_size, RL.out]); (· exact u8V_one _); refine Marker.mk ?_)
  refine Marker.in ?_
  replace K5 := Lib.hid (K5.out.setRow_other g14 (u8V rt) (by omega))
  replace K9 := Lib.hid (K9.out.setRow_other g14 (u8V rt) (by omega))
  replace K10 := Lib.hid (K10.out.setRow_other g14 (u8V rt) (by omega))
  replace K11 := Lib.hid (K11.out.setRow_other g14 (u8V rt) (by omega))
  replace K13 := Lib.hid (K13.out.setRow_other g14 (u8V rt) (by omega))
  replace K14 := Lib.hid (K14.out.setRow (u8V rt))
  replace BB := Lib.hid (below_setRow (g := g14) BB.out (by have := BB.out.size; omega) (u8V rt))
  generalize w5.setRow g14 (u8V rt) = w6 at *
  have CS := Lib.hid (fun q => same_any (some ⟨g9, 0, none⟩) (some ⟨g14, 0, none⟩) pf rt 8 8 8 8 (w6.drewN q) HPL.out RL.out (row_drewN (u8V_row K9.out HPB.out) q) (row_drewN (u8V_row K14.out RB.out) q) (by omega) (by omega))
  rw [SM.out] at CS
  go_wp2_with fail
  go_quiet (((with_reducible refine (CS.out _).mono ?_); (rintro e w2 ⟨rfl, rfl⟩; exact ⟨rfl, _, rfl⟩)))
  clear CS
  replace K5 := Lib.hid (K5.out.drewN nq)
  replace K9 := Lib.hid (K9.out.drewN nq)
  replace K10 := Lib.hid (K10.out.drewN nq)
  replace K11 := Lib.hid (K11.out.drewN nq)
  replace K13 := Lib.hid (K13.out.drewN nq)
  replace K14 := Lib.hid (K14.out.drewN nq)
  replace BB := Lib.hid (below_drewN BB.out nq)
  generalize w6.drewN nq = w7 at *
  go_wp2_with (first | ((with_reducible show wpList _ _ _ (⟨_, .load 46 _, _, _, _, none⟩ :: _) _ _); (with_reducible refine wpBlk_load (g := g13) agg_door ?_ ?_ K13 ?_ ?_); (· exact wanted0 rfl); (· exact ⟨rfl, rfl⟩); (· exact ES.out)) | ((with_reducible show wpList _ _ _ (⟨some 34, _, _, _, _, _⟩ :: _) _ _); refine wpList_build' rfl 22 _ rfl (u8V (zeros 32)) BZ.out ?_) | ((with_reducible show wpList _ _ _ (⟨_, .store 46 _ _, _, _, _, none⟩ :: _) _ _); (with_reducible refine wpBlk_store (g := g10) (cs := cl) agg_door ?_ ?_ K10 ?_ ?_ ?_ ?_); (· exact wanted0 rfl); (· exact ⟨rfl, rfl, rfl⟩); (· exact doorV_size _ _ _ z8_len); (· exact ES.out); (· exact E1.out); refine Marker.mk ?_))
  refine Marker.in ?_
  replace K5 := Lib.hid (K5.out.setRow_other g10 cl (by omega))
  replace K9 := Lib.hid (K9.out.setRow_other g10 cl (by omega))
  replace K11 := Lib.hid (K11.out.setRow_other g10 cl (by omega))
  replace K13 := Lib.hid (K13.out.setRow_other g10 cl (by omega))
  replace K14 := Lib.hid (K14.out.setRow_other g10 cl (by omega))
  replace K10 := Lib.hid (K10.out.setRow cl)
  replace BB := Lib.hid (below_setRow (g := g10) BB.out (by omega) cl)
  generalize w7.setRow g10 cl = w8 at *
  go_wp2_with ((with_reducible show wpList _ _ _ (⟨_, .store 22 _ _, _, _, _, none⟩ :: _) _ _); (with_reducible refine wpBlk_store (g := g11) (cs := u8V (zeros 32)) agg_b32 ?_ ?_ K11 ?_ ?_ ?_ ?_); (· exact wanted0 rfl); (· exact ⟨rfl, rfl, rfl⟩); (· rw [u8V_size, zeros_len]); (· rw [u8V_size, zeros_len]); (· exact u8V_one _))
  refine bodyPost_ret (v := .tuple #[.agg cl, .agg (u8V (zeros 32)), .int .i64 14]) (results_cct agg_door agg_b32 rfl _ _ g10 g11 _ _ _ rfl rfl rfl (K10.out.setRow_other _ _ (by omega)) ES.out (K11.out.setRow _) (by rw [u8V_size, zeros_len])) rfl ⟨rfl, below_setRow BB.out (by omega) _⟩
set_option maxRecDepth 100000 in
set_option maxHeartbeats 1600000 in
theorem prove_good (A : Option Addr) (k : List Int) (n c : Nat) (s r many : Int) (nc pf : List Int) (w : World) (hn : k.length = n) (hk : Row w A k) (hl : n ≤ 10000000) (hc : nc.length = 8) (hb : ∀ x ∈ nc, 0 ≤ x ∧ x ≤ 255) (hR : Roots w) (hpl : pf.length = 8) (hpb : ∀ x ∈ pf, 0 ≤ x ∧ x ≤ 255) (hp : pf = (hmac k (loginB 80 s r nc)).take 8) :
    Calls Tryd.prog 22 #[.agg (doorV many true nc), .slice A n c, .int .i64 s, .int .i64 r, .agg (u8V pf)] w fun e w' => e = .returned (.tuple #[.agg (doorV many false (zeros 8)), .agg (u8V (hmac k (loginB 75 s r nc))), .int .i64 0]) ∧ Below w.heap.size w w' := by
  have CP := fun (W : World) (hb' : Below w.heap.size w W) => proof_any A k nc n c s r W hn (hk.below hb') hl hc hb (hR.below hb')
  have CK := fun (W : World) (hb' : Below w.heap.size w W) => key_any A k nc n c s r W hn (hk.below hb') hl hc hb (hR.below hb')
  have RL : ((hmac k (loginB 80 s r nc)).take 8).length = 8 := by rw [List.length_take, hmac_len]; rfl
  have RB : ∀ x ∈ (hmac k (loginB 80 s r nc)).take 8, 0 ≤ x ∧ x ≤ 255 := fun x hx => hmac_bytes _ _ x (List.mem_of_mem_take hx)
  have KL : (hmac k (loginB 75 s r nc)).length = 32 := hmac_len _ _
  have SM : decide (pf = (hmac k (loginB 80 s r nc)).take 8) = true := decide_eq_true hp
  generalize (hmac k (loginB 80 s r nc)).take 8 = rt at *
  generalize hmac k (loginB 75 s r nc) = kv at *
  have DS := Lib.hid (doorV_size many true nc hc)
  have C0 := doorV_0 many true nc
  have C1 := doorV_1 many true nc
  have CX := Lib.hid (doorV_nc many true nc hc)
  have BZ := Lib.hid build_z32
  have BC := Lib.hid (build_door1 many)
  have ES := Lib.hid (doorV_size many false (zeros 8) z8_len)
  have E1 := Lib.hid (doorV_one many false (zeros 8))
  generalize doorV many true nc = dv at *
  generalize doorV many false (zeros 8) = cl at *
  replace CP := Lib.hid CP
  replace CK := Lib.hid CK
  replace RL := Lib.hid RL
  replace RB := Lib.hid RB
  replace KL := Lib.hid KL
  replace SM := Lib.hid SM
  have HPL := Lib.hid hpl
  have HPB := Lib.hid hpb
  have HC := Lib.hid hc
  clear hc hn hk hR hb hpl hpb hp
  go_enter Tryd.func22, Tryd.ntmps22
  go_wp2_with (first | ((with_reducible show wpList _ _ _ (⟨_, .alloc 46, _, _, _, none⟩ :: _) _ _); (with_reducible refine wpRow_alloc zeroT_door ?_ ?_ ?_); (· exact wanted0 rfl); (· rfl)) | ((with_reducible show wpList _ _ _ (⟨_, .alloc 22, _, _, _, none⟩ :: _) _ _); (with_reducible refine wpRow_alloc zeroT_b32 ?_ ?_ ?_); (· exact wanted0 rfl); (· rfl); refine Marker.mk ?_))
  refine Marker.in ?_
  have K5 := Lib.hid ((((Blk.new w dv 46).alloc (.cells (u8V pf) 29)).alloc (.cells (doorV 0 false (zeros 8)) 46)).alloc (.cells (u8V (zeros 32)) 22))
  have K9 := Lib.hid (((Blk.new' (w.alloc (.cells dv 46)) (u8V pf) 29 (g := w.heap.size + 1) (by simp)).alloc (.cells (doorV 0 false (zeros 8)) 46)).alloc (.cells (u8V (zeros 32)) 22))
  have K10 := Lib.hid ((Blk.new' ((w.alloc (.cells dv 46)).alloc (.cells (u8V pf) 29)) (doorV 0 false (zeros 8)) 46 (g := w.heap.size + 1 + 1) (by simp)).alloc (.cells (u8V (zeros 32)) 22))
  have K11 := Lib.hid (Blk.new' (((w.alloc (.cells dv 46)).alloc (.cells (u8V pf) 29)).alloc (.cells (doorV 0 false (zeros 8)) 46)) (u8V (zeros 32)) 22 (g := w.heap.size + 1 + 1 + 1) (by simp))
  have BB := Lib.hid (bt (below_alloc3 w (.cells dv 46) (.cells (u8V pf) 29) (.cells (doorV 0 false (zeros 8)) 46)) (below_alloc1 (((w.alloc (.cells dv 46)).alloc (.cells (u8V pf) 29)).alloc (.cells (doorV 0 false (zeros 8)) 46)) (.cells (u8V (zeros 32)) 22)))
  generalize (((w.alloc (.cells dv 46)).alloc (.cells (u8V pf) 29)).alloc (.cells (doorV 0 false (zeros 8)) 46)).alloc (.cells (u8V (zeros 32)) 22) = w1 at *
  obtain ⟨g9, hg9⟩ : ∃ g, w.heap.size + 1 = g := ⟨_, rfl⟩
  rw [hg9] at K9 K10 K11
  simp only [hg9]
  obtain ⟨g10, hg10⟩ : ∃ g, g9 + 1 = g := ⟨_, rfl⟩
  rw [hg10] at K10 K11
  simp only [hg10]
  obtain ⟨g11, hg11⟩ : ∃ g, g10 + 1 = g := ⟨_, rfl⟩
  rw [hg11] at K11
  simp only [hg11]
  have n9 : w.heap.size < g9 := by omega
  have n10 : g9 < g10 := by omega
  have n11 : g10 < g11 := by omega
  clear hg9 hg10 hg11
  have c0 := K5.out.cell 0
  have c1 := K5.out.cell 1
  rw [C0] at c0
  rw [C1] at c1
  clear C0 C1
  have l11 := K11.out.lt
  go_wp2_with (first | ((with_reducible show wpList _ _ _ (⟨some 22, _, _, _, _, _⟩ :: _) _ _); refine wpList_build' rfl 46 _ rfl cl BC.out ?_) | ((with_reducible show wpList _ _ _ (⟨_, .alloc 46, _, _, _, none⟩ :: _) _ _); (with_reducible refine wpRow_alloc zeroT_door ?_ ?_ ?_); (· exact wanted0 rfl); (· rfl); refine Marker.mk ?_))
  refine Marker.in ?_
  clear c0 c1
  have bel := below_alloc1 w1 (.cells (doorV 0 false (zeros 8)) 46)
  replace K5 := Lib.hid (K5.out.below bel)
  replace K9 := Lib.hid (K9.out.below bel)
  replace K10 := Lib.hid (K10.out.below bel)
  replace K11 := Lib.hid (K11.out.below bel)
  replace BB := Lib.hid (bt BB.out bel)
  have K13 := Lib.hid (Blk.new w1 (doorV 0 false (zeros 8)) 46)
  clear bel
  generalize w1.alloc (.cells (doorV 0 false (zeros 8)) 46) = w2 at *
  generalize w1.heap.size = g13 at *
  go_wp2_with ((with_reducible show wpList _ _ _ (⟨_, .store 46 _ _, _, _, _, none⟩ :: _) _ _); (with_reducible refine wpBlk_store (g := g13) (cs := cl) agg_door ?_ ?_ K13 ?_ ?_ ?_ ?_); (· exact wanted0 rfl); (· exact ⟨rfl, rfl, rfl⟩); (· exact doorV_size _ _ _ z8_len); (· exact ES.out); (· exact E1.out); refine Marker.mk ?_)
  refine Marker.in ?_
  replace K5 := Lib.hid (K5.out.setRow_other g13 cl (by omega))
  replace K9 := Lib.hid (K9.out.setRow_other g13 cl (by omega))
  replace K10 := Lib.hid (K10.out.setRow_other g13 cl (by omega))
  replace K11 := Lib.hid (K11.out.setRow_other g13 cl (by omega))
  replace K13 := Lib.hid (K13.out.setRow cl)
  replace BB := Lib.hid (below_setRow (g := g13) BB.out (by omega) cl)
  generalize w2.setRow g13 cl = w3 at *
  go_wp2_with ((with_reducible show wpList _ _ _ (⟨_, .load 29 _, _, _, _, none⟩ :: _) _ _); (with_reducible refine wpBlk_mid (g := w.heap.size) (off := 2) (cs := u8V nc) agg_b8 ?_ ?_ K5 ?_ ?_ ?_); (· exact wanted0 rfl); (· exact ⟨rfl, rfl⟩); (· rw [u8V_size, HC.out]); (· exact CX.out))
  ((with_reducible refine (CP.out _ BB.out).mono ?_))
  rintro e w4 ⟨rfl, b4⟩
  replace K5 := Lib.hid (K5.out.below b4)
  replace K9 := Lib.hid (K9.out.below b4)
  replace K10 := Lib.hid (K10.out.below b4)
  replace K11 := Lib.hid (K11.out.below b4)
  replace K13 := Lib.hid (K13.out.below b4)
  replace BB := Lib.hid (bt BB.out b4)
  clear b4 CP
  have l13 := K13.out.lt
  go_wp2_with ((with_reducible show wpList _ _ _ (⟨_, .alloc 29, _, _, _, none⟩ :: _) _ _); (with_reducible refine wpRow_alloc zeroT_b8 ?_ ?_ ?_); (· exact wanted0 rfl); (· rfl); refine Marker.mk ?_)
  refine Marker.in ?_
  have bel := below_alloc1 w4 (.cells (u8V (zeros 8)) 29)
  replace K5 := Lib.hid (K5.out.below bel)
  replace K9 := Lib.hid (K9.out.below bel)
  replace K10 := Lib.hid (K10.out.below bel)
  replace K11 := Lib.hid (K11.out.below bel)
  replace K13 := Lib.hid (K13.out.below bel)
  replace BB := Lib.hid (bt BB.out bel)
  have K14 := Lib.hid (Blk.new w4 (u8V (zeros 8)) 29)
  clear bel
  generalize w4.alloc (.cells (u8V (zeros 8)) 29) = w5 at *
  generalize w4.heap.size = g14 at *
  go_wp2_with ((with_reducible show wpList _ _ _ (⟨_, .store 29 _ _, _, _, _, none⟩ :: _) _ _); (with_reducible refine wpBlk_store (g := g14) (cs := u8V rt) agg_b8 ?_ ?_ K14 ?_ ?_ ?_ ?_); (· exact wanted0 rfl); (· exact ⟨rfl, rfl, rfl⟩); (· rw [u8V_size, zeros_len]); (· rw [u8V_size, RL.out]); (· exact u8V_one _); refine Marker.mk ?_)
  refine Marker.in ?_
  replace K5 := Lib.hid (K5.out.setRow_other g14 (u8V rt) (by omega))
  replace K9 := Lib.hid (K9.out.setRow_other g14 (u8V rt) (by omega))
  replace K10 := Lib.hid (K10.out.setRow_other g14 (u8V rt) (by omega))
  replace K11 := Lib.hid (K11.out.setRow_other g14 (u8V rt) (by omega))
  replace K13 := Lib.hid (K13.out.setRow_other g14 (u8V rt) (by omega))
  replace K14 := Lib.hid (K14.out.setRow (u8V rt))
  replace BB := Lib.hid (below_setRow (g := g14) BB.out (by have := BB.out.size; omega) (u8V rt))
  generalize w5.setRow g14 (u8V rt) = w6 at *
  have CS := Lib.hid (fun q => same_any (some ⟨g9, 0, none⟩) (some ⟨g14, 0, none⟩) pf rt 8 8 8 8 (w6.drewN q) HPL.out RL.out (row_drewN (u8V_row K9.out HPB.out) q) (row_drewN (u8V_row K14.out RB.out) q) (by omega) (by omega))
  rw [SM.out] at CS
  go_wp2_with fail
  go_quiet (((with_reducible refine (CS.out _).mono ?_); (rintro e w2 ⟨rfl, rfl⟩; exact ⟨rfl, _, rfl⟩)))
  clear CS
  replace K5 := Lib.hid (K5.out.drewN nq)
  replace K9 := Lib.hid (K9.out.drewN nq)
  replace K10 := Lib.hid (K10.out.drewN nq)
  replace K11 := Lib.hid (K11.out.drewN nq)
  replace K13 := Lib.hid (K13.out.drewN nq)
  replace K14 := Lib.hid (K14.out.drewN nq)
  replace BB := Lib.hid (below_drewN BB.out nq)
  generalize w6.drewN nq = w7 at *
  go_wp2_with fail
  refine wp_region_confR' belR_kept (by kernel_rfl) 7 (by kernel_rfl) (by simp) (by decide) (RProve cl A n c s r w.heap.size nc kv) (RProve_keep _ _ _ _ _ _ _ _ _) ?_ ?_
  · simp only [ConfStepsR, List.take_succ_cons, List.take_zero, putAll, Act.put, List.setIfInBounds_toArray, List.set_cons_succ, List.set_cons_zero, and_true]
    refine ⟨?_, ?_, ?_, ?_, ?_, ?_, ?_⟩
    all_goals intro v w' hb hd
    · exact conf_loadR belR_kept (g := g13) agg_door (wanted0 rfl) ⟨rfl, by simp [go_sem]⟩ (K13.out.below hb) ES.out rfl
    · exact conf_valueR belR_kept (wanted0 rfl) (by simp [go_sem]) rfl
    · exact conf_valueR belR_kept (wanted0 rfl) (by simp [go_sem]) rfl
    · exact conf_valueR belR_kept (wanted0 rfl) (by simp [go_sem]) rfl
    · exact conf_valueR belR_kept (wanted0 rfl) (by simp [go_sem]) rfl
    · have d4 : v 4 = .pointer (some ⟨w.heap.size, 2, none⟩) := hd.at 4 rfl
      exact conf_midR belR_kept (g := w.heap.size) (off := 2) (cs := u8V nc) agg_b8 (wanted0 rfl) ⟨rfl, by simp [go_sem, d4]⟩ (K5.out.below hb) (by rw [u8V_size, HC.out]) CX.out rfl
    · have d1 : v 1 = .slice A n c := hd.at 1 rfl
      have d2 : v 2 = .int .i64 s := hd.at 2 rfl
      have d3 : v 3 = .int .i64 r := hd.at 3 rfl
      have d5 : v 5 = .agg (u8V nc) := hd.at 5 rfl
      refine conf_callR (f := 16) (args := #[v 1, v 2, v 3, v 5]) (wanted0 rfl) (by simp [go_sem]) ?_
      rw [d1, d2, d3, d5]
      exact (CK.out w' (bt BB.out hb)).mono fun e w'' ⟨he, hb'⟩ => ⟨_, he, hb', rfl⟩
  · intro v w' hb hr
    have d0 : v 0 = .agg cl := hr 0 (by omega)
    have d6 : v 6 = .agg (u8V kv) := hr 6 (by omega)
    simp only [List.take_succ_cons, List.take_zero, List.drop_succ_cons, List.drop_zero, putAll, Act.put, List.setIfInBounds_toArray, List.set_cons_succ, List.set_cons_zero]
    rw [d0, d6]
    replace K10 := Lib.hid (K10.out.below hb)
    replace K11 := Lib.hid (K11.out.below hb)
    replace BB := Lib.hid (bt BB.out hb)
    clear hr hb d0 d6 K5 K9 K13 K14 CK
    go_wp2_with ((with_reducible show wpList _ _ _ (⟨_, .store 46 _ _, _, _, _, none⟩ :: _) _ _); (with_reducible refine wpBlk_store (g := g10) (cs := cl) agg_door ?_ ?_ K10 ?_ ?_ ?_ ?_); (· exact wanted0 rfl); (· exact ⟨rfl, rfl, rfl⟩); (· exact doorV_size _ _ _ z8_len); (· exact ES.out); (· exact E1.out); refine Marker.mk ?_)
    refine Marker.in ?_
    replace K11 := Lib.hid (K11.out.setRow_other g10 cl (by omega))
    replace K10 := Lib.hid (K10.out.setRow cl)
    replace BB := Lib.hid (below_setRow (g := g10) BB.out (by omega) cl)
    generalize w'.setRow g10 cl = w8 at *
    go_wp2_with ((with_reducible show wpList _ _ _ (⟨_, .store 22 _ _, _, _, _, none⟩ :: _) _ _); (with_reducible refine wpBlk_store (g := g11) (cs := u8V kv) agg_b32 ?_ ?_ K11 ?_ ?_ ?_ ?_); (· exact wanted0 rfl); (· exact ⟨rfl, rfl, rfl⟩); (· rw [u8V_size, zeros_len]); (· rw [u8V_size, KL.out]); (· exact u8V_one _))
    refine bodyPost_ret (v := .tuple #[.agg cl, .agg (u8V kv), .int .i64 0]) (results_cct agg_door agg_b32 rfl _ _ g10 g11 _ _ _ rfl rfl rfl (K10.out.setRow_other _ _ (by omega)) ES.out (K11.out.setRow _) (by rw [u8V_size, KL.out])) rfl ⟨rfl, below_setRow BB.out (by omega) _⟩
end Go.Proofs.YtapednkmefbldaaDoor
