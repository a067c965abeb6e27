/- Put: a root's lines. -/
import Derived.Test.YtlfenakgphmepaaGreatDoorRootLine
namespace Go.Proofs.YtlfenakgphmepaaGreatDoor.Root
open Go.RowKit YtlfenakgphmepaaGreatDoorW.PrintWords YtlfenakgphmepaaGreatDoorW.PrintLast YtlfenakgphmepaaGreatDoorW.PrintMore YtlfenakgphmepaaGreatDoor.Conv Print Build
set_option linter.unusedVariables false
set_option linter.unusedSimpArgs false
section
variable {P : Program} {ops : Array Oper} {Q : Exit -> Act -> World -> Prop}
theorem goesV_ {w : World} {oi : Oper} {N : Option Tmp} {a : Act} {K : Act -> World -> Prop} {f : FuncId} {fn : Func} {x : Operand} {es : Array Operand} {ts : Array TypeId} {boxes : Array Value} (hf : P.funcs[f]? = some fn) (hname : (fn.name == "runtime.NumGoroutine") = false) (hb : fn.body.isSome = true) (args : Array Value)
  (hw : Region.wanted oi (yielded ops a.tmps) = true) (hN : oi.dst = N) (hop : oi.op = .call { callee := .value x, args := es, argTypes := ts }) (hx : a.eval x = .func (.func f) #[] boxes) (hargs : es.map a.eval = args)
  (h : Calls P f (args ++ boxes) w fun e w' => ∃ v, e = .returned v /\ K (a.put N v) w') : if Region.wanted oi (yielded ops a.tmps) = true then Oper.wp P oi a w K Q else K (a.put N undef) w := by
 refine call_ f (args ++ boxes) hw hN ?_ h
 have he := enters_ hf hname hb (args ++ boxes) w
 unfold execOp
 simp [hop, resolve, Deferred.ofValue, invoke, hx, hargs, he]
end
theorem run_store_func {P : Program} {w : World} {a : Addr} {m : Mode} (f : Fn) (x y : Array Value) : (store a (.func f x y) m).run P w = stored P w a (.func f x y) m := run_store P w a _ m rfl
attribute [local go_sem] run_store_func
abbrev netT : ByteArray := ⟨#[110, 101, 116]⟩
abbrev poolT : ByteArray := ⟨#[112, 111, 111, 108]⟩
abbrev forksT : ByteArray := ⟨#[102, 111, 114, 107, 115]⟩
abbrev aloneT : ByteArray := ⟨#[97, 108, 111, 110, 101]⟩
def linkT (b : Bool) : ByteArray := cond b linkedT aloneT
def textG (P : List Rf -> ByteArray) (acc : ByteArray) : List Fk -> ByteArray
 | [] => acc
 | f :: t => textG P (joinA ((acc ++ lineS [forkT, f.f0, linkT f.f1, f.f2, itoaB f.f3.length, itoaB f.f4.length]) ++ P f.f3) f.f4) t
def textP (P : List Rf -> ByteArray) (n : Int) (pool : List ByteArray) (forks : List Fk) : ByteArray :=
 textG P (joinA (lineS [netT, itoaB n] ++ lineS [poolT, itoaB pool.length]) pool ++ lineS [forksT, itoaB forks.length]) forks
def sizeF (P : List Rf -> ByteArray) : List Fk -> Nat
 | [] => 0
 | f :: t => 100 + f.f0.size + f.f2.size + (itoaB f.f3.length).size + (itoaB f.f4.length).size + (P f.f3).size + sizeT f.f4 + sizeF P t
def sizeP (P : List Rf -> ByteArray) (n : Int) (pool : List ByteArray) (forks : List Fk) : Nat := 100 + (itoaB n).size + (itoaB pool.length).size + (itoaB forks.length).size + sizeT pool + sizeF P forks
set_option maxHeartbeats 4000000 in
set_option maxRecDepth 100000 in
theorem put_no (k : Nat) (n : Int) (Ap : Option Addr) (cp : Nat) (pool : List ByteArray) (Af : Option Addr) (cf : Nat) (forks : List Fk) (W : World) (hrp : Kd.C Kd.string W Ap pool.length pool) (hcp : pool.length <= cp) (hrf : Kd.C k39 W Af forks.length forks) (hcf : forks.length <= cf) (hR : root_Right.f k n pool forks = some false) :
  Calls Tryz.prog 7 #[.agg #[.int .i64 n, .slice Ap pool.length cp, .slice Af forks.length cf]] W fun e w' => e = .returned (.tuple #[.slice none 0 0, .bool false]) /\ Below W.heap.size W w' := by
 have HB0 := am (bal (Below.refl W.heap.size W) (.cells #[.int .i64 n, .slice Ap pool.length cp, .slice Af forks.length cf] 25))
 have HRT := am (root_Right.calls k n Ap cp pool Af cf forks false _ (Kd.C_below hrp HB0.out) hcp (Kd.C_below hrf HB0.out) hcf hR)
 clear hrp hcp hrf hcf hR
 go_enter Tryz.func7, Tryz.ntmps7
 go_wp2_with (go_at_call 11; with_reducible refine HRT.out.mono ?_; rintro r w1 ⟨rfl, hb1⟩; have HB1 := am (qW HB0.out hb1); clear hb1)
 go_ret2
 exact ⟨rfl, HB1.out⟩
theorem row_came {α : Type} {d : Kd α} (hd : Kd.Heap d) {W B : World} {own : Nat -> Prop} {A : Option Addr} {n : Nat} {xs : List α} (h : d.C B A n xs) (hb : Below B.heap.size B W) (ho : ∀ k, own k -> B.heap.size <= k) : Kd.F d W (fun k => ¬ own k /\ k < W.heap.size) A n xs := by
 intro W2 hk
 exact Kd.Heap.C hd (fun k hlt => (hk k ⟨fun e => by have := ho k e; omega, Nat.lt_of_lt_of_le hlt hb.size⟩ (Nat.lt_of_lt_of_le hlt hb.size)).trans (hb.block k hlt)) h
structure Pt (W : World) (b q : Nat) (o1 o2 : Obj) (w : World) (own : Nat -> Prop) (acc : ByteArray) : Prop where
 bd : IsBd w own b acc
 lo : ∀ k, own k -> W.heap.size <= k
 nq : ¬ own q
 nr : ¬ own W.heap.size
 hq : w.heap[q]? = some o1
 hr : w.heap[W.heap.size]? = some o2
 bel : Below W.heap.size W w
theorem Pt.go {W w w' : World} {b q : Nat} {o1 o2 : Obj} {own own' : Nat -> Prop} {acc acc' : ByteArray} (h : Pt W b q o1 o2 w own acc) (hg : Goes w w' own own') (hI : IsBd w' own' b acc') : Pt W b q o1 o2 w' own' acc' :=
 ⟨hI, fun k e => (hg.own k e).elim (h.lo k) (fun e => Nat.le_trans h.bel.size e), fun e => (hg.own q e).elim h.nq (fun e => by have := lt_box h.hq; omega), fun e => (hg.own _ e).elim h.nr (fun e => by have := lt_box h.hr; omega),
  (hg.keeps.block q (lt_box h.hq) h.nq).trans h.hq, (hg.keeps.block _ (lt_box h.hr) h.nr).trans h.hr, below_goes h.bel hg h.lo⟩
theorem Pt.below {W w w' : World} {b q : Nat} {o1 o2 : Obj} {own : Nat -> Prop} {acc : ByteArray} (h : Pt W b q o1 o2 w own acc) (hb : Below w.heap.size w w') : Pt W b q o1 o2 w' own acc := h.go (Goes.below hb) (h.bd.below hb)
theorem Pt.mk0 {W w : World} {b q : Nat} {o1 o2 : Obj} {acc : ByteArray} (hI : IsBd w (fun k => k = b) b acc) (hq : w.heap[q]? = some o1) (hr : w.heap[W.heap.size]? = some o2) (hne : q ≠ b /\ W.heap.size ≠ b /\ W.heap.size <= b) (hb : Below W.heap.size W w) : Pt W b q o1 o2 w (fun k => k = b) acc :=
 ⟨hI, fun k e => by have e2 : k = b := e; omega, fun e => hne.1 e, fun e => hne.2.1 e, hq, hr, hb⟩
theorem Pt.each {W w : World} {b q : Nat} {o2 : Obj} {own : Nat -> Prop} {acc : ByteArray} (h : Pt W b q (.cells #[.func (.func 20) #[] #[.pointer (some ⟨b, 0, none⟩)]] 51 (0, 0)) o2 w own acc) (A : Option Addr) (c : Nat) (l : List ByteArray) (hr : Kd.C Kd.string W A l.length l) (hc : l.length <= c) (hz : acc.size + sizeT l <= 900000000) :
  Calls Tryz.prog 23 #[.slice A l.length c, .pointer (some ⟨q, 0, none⟩)] w fun e w' => e = .returned (.tuple #[]) /\ ∃ own', Pt W b q (.cells #[.func (.func 20) #[] #[.pointer (some ⟨b, 0, none⟩)]] 51 (0, 0)) o2 w' own' (joinA acc l) := by
 refine (each_calls h.bd q h.hq h.nq A c l (row_came Kd.heap_string hr h.bel h.lo) hc hz).mono ?_
 rintro e w' ⟨rfl, own', hI, hG⟩
 exact ⟨rfl, own', h.go hG hI⟩
theorem put_at {W W2 W5 : World} {own : Nat -> Prop} {b q : Nat} {o1 o2 : Obj} (hG : Goes W2 W5 (fun k => k = b) own) (hq : W2.heap[q]? = some o1) (hr : W2.heap[W.heap.size]? = some o2) (hne : q ≠ b /\ W.heap.size ≠ b /\ W.heap.size <= b) (hb : Below W.heap.size W W2) (hT : Tb W) :
  W5.heap[q]? = some o1 /\ W5.heap[W.heap.size]? = some o2 /\ Below W.heap.size W W5 /\ Tb W5 := by
 have h5 := below_goes hb hG (fun k e => by have e2 : k = b := e; omega)
 exact ⟨(hG.keeps.block q (lt_box hq) (fun e => hne.1 e)).trans hq, (hG.keeps.block _ (lt_box hr) (fun e => hne.2.1 e)).trans hr, h5, hT.below h5⟩
set_option maxHeartbeats 8000000 in
set_option maxRecDepth 100000 in
theorem put_ok (k : Nat) (n : Int) (Ap : Option Addr) (cp : Nat) (pool : List ByteArray) (Af : Option Addr) (cf : Nat) (forks : List Fk) (W : World) (hrp : Kd.C Kd.string W Ap pool.length pool) (hcp : pool.length <= cp) (hrf : Kd.C k39 W Af forks.length forks) (hcf : forks.length <= cf) (hR : root_Right.f k n pool forks = some true)
  (P : List Rf -> ByteArray) (hP : ∀ f ∈ forks, ∃ b, refs_Put.f k f.f3 = some (P f.f3, b)) (hz : sizeP P n pool forks <= 800000000) (h0 : 0 <= n) (h1 : n <= 9223372036854775807) (hT : Tb W) :
  Calls Tryz.prog 7 #[.agg #[.int .i64 n, .slice Ap pool.length cp, .slice Af forks.length cf]] W fun e w' => ∃ v, e = .returned (.tuple #[v, .bool true]) /\ Kd.V (Kd.int .u8) 5 w' W.heap.size (fun k_ => W.heap.size <= k_) v (bytesOf (textP P n pool forks)) /\ Below W.heap.size W w' := by
 have HB0 := am (bal (Below.refl W.heap.size W) (.cells #[.int .i64 n, .slice Ap pool.length cp, .slice Af forks.length cf] 25))
 have HRT := am (root_Right.calls k n Ap cp pool Af cf forks true _ (Kd.C_below hrp HB0.out) hcp (Kd.C_below hrf HB0.out) hcf hR)
 have HRP := am hrp
 have HRF := am hrf
 have HCP := am hcp
 have HCF := am hcf
 have HP := am hP
 have HZ := am hz
 have HN := am (And.intro h0 h1)
 have HT := am hT
 have HX0 := am (heap_alloc_new W (.cells #[.int .i64 n, .slice Ap pool.length cp, .slice Af forks.length cf] 25))
 clear hrp hcp hrf hcf hR hP hz h0 h1 hT
 go_enter Tryz.func7, Tryz.ntmps7
 go_wp2_with (go_at_call 11; with_reducible refine HRT.out.mono ?_; rintro r w1 ⟨rfl, hb1⟩; have HB1 := am (qW HB0.out hb1); have HX1 := am (qB hb1 HX0.out); clear hb1)
 have hI2 := (IsBd.new w1).below (bal (Below.refl _ _) (.cells #[.func (.func 20) #[] #[.pointer (some ⟨w1.heap.size, 0, none⟩)]] 51))
 have hq2 := heap_alloc_new (w1.alloc (.cells #[.pointer none, .slice none 0 0] 45)) (.cells #[.func (.func 20) #[] #[.pointer (some ⟨w1.heap.size, 0, none⟩)]] 51)
 rw [sz_alloc] at hq2
 have hb2 : Below w1.heap.size w1 ((w1.alloc (.cells #[.pointer none, .slice none 0 0] 45)).alloc (.cells #[.func (.func 20) #[] #[.pointer (some ⟨w1.heap.size, 0, none⟩)]] 51)) := bal (bal (Below.refl _ _) _) _
 generalize hW2 : (w1.alloc (.cells #[.pointer none, .slice none 0 0] 45)).alloc (.cells #[.func (.func 20) #[] #[.pointer (some ⟨w1.heap.size, 0, none⟩)]] 51) = W2 at hI2 hq2 hb2 ⊢
 have hr2 := qB hb2 HX1.out
 have hbW := qW HB1.out hb2
 have hwl : W.heap.size < w1.heap.size := lt_box HX1.out
 generalize hb : w1.heap.size = b at hI2 hq2 hwl ⊢
 obtain ⟨q, hq⟩ : ∃ q, q = b + 1 := ⟨_, rfl⟩
 rw [<- hq] at hq2 ⊢
 have hTb : Tb W2 := HT.out.below hbW
 have HBW := am hbW
 have HQ2 := am hq2
 have HR2 := am hr2
 have HT2 := am hTb
 have HNE : Asd (q ≠ b /\ W.heap.size ≠ b /\ W.heap.size <= b) := ⟨by omega, by omega, by omega⟩
 have kq := (qx hq2 0 rfl).1
 have kr := (qx hr2 0 rfl).1
 have HST : Asd (IsBd W2 (fun k => k = b) b ⟨#[]⟩ /\ Goes W2 W2 (fun k => k = b) (fun k => k = b)) := ⟨hI2, Goes.refl _ _⟩
 have HP2 := am (Pt.mk0 hI2 hq2 hr2 HNE.out hbW)
 have hTD : Tb W2.drew := hTb.below (bd1 (Below.refl _ _))
 have HTD := am hTD
 have HTX := am (text_calls n HN.out.1 HN.out.2 hTD)
 have hzz := HZ.out
 unfold sizeP at hzz
 have HSZ : Asd (sizeT [netT, itoaB n] <= 1000000000 /\ (⟨#[]⟩ : ByteArray).size <= 1000000000) := ⟨by rw [qz, qz]; show 3 + 1 + ((itoaB n).size + 1 + 0) <= _; omega, Nat.zero_le _⟩
 clear hI2 hq2 hb2 hW2 hr2 hbW hwl hb hq hTb hTD hzz HB0 HX0 HX1 HB1 HRT
 refine start_ (n := 6) (S := fun w' => w'.cell? ⟨q, 0, none⟩ = some (.func (.func 20) #[] #[.pointer (some ⟨b, 0, none⟩)]) /\ w'.cell? ⟨W.heap.size, 0, none⟩ = some (.int .i64 n)) (ds := [5]) (bA 6 0) (by kernel_rfl) rfl rfl ⟨(drew_cell kq), (drew_cell kr)⟩ (fun hHeld => ?_)
 refine pz_ 1 18 (bA 6 2) (by kernel_rfl) ?_
 refine tz_ 0 17 (bA 6 3) (by kernel_rfl) hHeld ?_
 refine tz_ 2 19 (bA 6 7) (by kernel_rfl) hHeld ?_
 refine one_ (i := 3) (N := some 20) (bA 6 15) rfl rfl (by kernel_rfl) (by decide) (fun K hK => ?_)
 refine goes_ Tryz.func24 (by kernel_rfl) rfl #[.int .i64 (n)] (by rfl) rfl rfl (by simp only [List.map_toArray, List.map_cons, List.map_nil]; rfl) ?_
 with_reducible refine (HTX.out).mono ?_
 rintro e wt0 ⟨rfl, hbt0⟩
 refine ⟨_, rfl, ?_⟩
 have hct0 : wt0.cell? ⟨q, 0, none⟩ = some (.func (.func 20) #[] #[.pointer (some ⟨b, 0, none⟩)]) /\ wt0.cell? ⟨W.heap.size, 0, none⟩ = some (.int .i64 n) := ⟨qb (drew_cell kq) hbt0, qb (drew_cell kr) hbt0⟩
 refine hK.out _ _ ⟨hct0.1, hct0.2⟩ (fun hHeld => ?_)
 clear hK K
 refine nz_ 20 ?_
 refine one_ (i := 4) (N := some 21) (bA 6 31) rfl rfl (by kernel_rfl) (by decide) (fun K hK => ?_)
 refine value_ (w1 := ?_) (v := ?_) (by rfl) rfl ?_ ?_
 rotate_left 2
 ·go_simp
  constructor
  ·rfl
  ·rfl
 have hc4 : (wt0.alloc (.cells #[.string (netT), .string (itoaB n)] 9)).cell? ⟨q, 0, none⟩ = some (.func (.func 20) #[] #[.pointer (some ⟨b, 0, none⟩)]) /\ (wt0.alloc (.cells #[.string (netT), .string (itoaB n)] 9)).cell? ⟨W.heap.size, 0, none⟩ = some (.int .i64 n) := ⟨qb hct0.1 (bal (Below.refl _ _) _), qb hct0.2 (bal (Below.refl _ _) _)⟩
 have hIA : IsBd (wt0.alloc (.cells #[.string (netT), .string (itoaB n)] 9)) (fun k => k = b) b ⟨#[]⟩ := (((HST.out.1.below (bd1 (Below.refl _ _))).below hbt0).below (bal (Below.refl _ _) _))
 have HL : Asd (Calls Tryz.prog 20 (#[.slice (some ⟨wt0.heap.size, 0, none⟩) 2 2] ++ #[.pointer (some ⟨b, 0, none⟩)]) (wt0.alloc (.cells #[.string (netT), .string (itoaB n)] 9)) fun e w' => e = .returned (.tuple #[]) /\ ∃ own', IsBd w' own' b (⟨#[]⟩ ++ lineS [netT, itoaB n]) /\ Goes (wt0.alloc (.cells #[.string (netT), .string (itoaB n)] 9)) w' (fun k => k = b) own') := ⟨line_calls hIA (some ⟨wt0.heap.size, 0, none⟩) 2 [netT, itoaB n] (C_strs [netT, itoaB n] (heap_alloc_new wt0 (.cells #[.string (netT), .string (itoaB n)] 9)) (show 2 <= 9223372036854775807 by decide)) (Nat.le_refl _) HSZ.out.1 HSZ.out.2⟩
 refine hK.out _ _ ⟨hc4.1, hc4.2⟩ (fun hHeld => ?_)
 clear hK K
 refine nz_ 21 ?_
 refine last_ (i := 5) (N := some 22) (bA 6 63) rfl rfl (by kernel_rfl) (by decide) (fun K hK => ?_)
 refine goesV_ Tryz.func20 (by kernel_rfl) rfl #[.slice (some ⟨wt0.heap.size, 0, none⟩) 2 2] (by rfl) rfl rfl (by rfl) (by simp only [List.map_toArray, List.map_cons, List.map_nil]; rfl) ?_
 with_reducible refine HL.out.mono ?_
 rintro e W3 ⟨rfl, own3, hI5, hG5⟩
 have hGG : Goes W2 W3 (fun k => k = b) own3 := (((Goes.below (bd1 (Below.refl _ _))).trans (Goes.below hbt0)).trans (Goes.below (bal (Below.refl _ _) _))).trans hG5
 refine ⟨_, rfl, ?_⟩
 refine hK.out _ _ ?_
 clear hK K
 refine nz_ 22 ?_
 refine done_ (by kernel_rfl) ?_
 obtain ⟨hq5, hr5, hb5, hT5⟩ := put_at hGG HQ2.out HR2.out HNE.out HBW.out HT.out
 rw [empty_app] at hI5
 have hzz := HZ.out
 unfold sizeP at hzz
 have hs1 := lineS_size [netT, itoaB n]
 rw [qz, qz] at hs1
 have hs1' : (lineS [netT, itoaB n]).size <= 20 + (itoaB n).size := by
  have e : netT.size = 3 := rfl
  have e2 : sizeT ([] : List ByteArray) = 0 := rfl
  omega
 have hpl := sizeT_len pool
 have HZ1 : Asd ((lineS [netT, itoaB n]).size + (itoaB pool.length).size + (itoaB forks.length).size + sizeT pool + sizeF P forks <= 800000000) := ⟨by omega⟩
 have HS1 := am (And.intro hI5 hGG)
 have HP3 := am (HP2.out.go hGG hI5)
 generalize hacc : lineS [netT, itoaB n] = acc1 at HZ1 HS1 HP3
 have HA1 := am hacc
 replace HST : Asd (IsBd W3 own3 b acc1 /\ Goes W2 W3 (fun k => k = b) own3) := HS1
 replace kq := (qx hq5 0 rfl).1
 replace kr := (qx hr5 1 rfl).1
 have HQ3 := am hq5
 have HR3 := am hr5
 have HB3 := am hb5
 have hTD : Tb W3.drew := hT5.below (bd1 (Below.refl _ _))
 replace HTD := am hTD
 have HPL : Asd ((0 : Int) <= (pool.length : Int) /\ (pool.length : Int) <= 9223372036854775807) := ⟨by omega⟩
 replace HTX := am (text_calls (pool.length : Int) HPL.out.1 HPL.out.2 hTD)
 replace HSZ : Asd (sizeT [poolT, itoaB (pool.length : Int)] <= 1000000000 /\ acc1.size <= 1000000000) := ⟨by rw [qz, qz]; show 4 + 1 + ((itoaB pool.length).size + 1 + 0) <= _; have := HZ1.out; omega, by have := HZ1.out; omega⟩
 clear hq5 hr5 hb5 hT5 hI5 hG5 hGG hs1 hs1' hzz hacc hTD HS1 hHeld hbt0 hct0 hc4 hIA HL hpl
 go_wp2
 refine start_ (n := 7) (S := fun w' => w'.cell? ⟨q, 0, none⟩ = some (.func (.func 20) #[] #[.pointer (some ⟨b, 0, none⟩)]) /\ w'.cell? ⟨W.heap.size, 1, none⟩ = some (.slice Ap pool.length cp)) (ds := [6]) (bA 7 0) (by kernel_rfl) rfl rfl ⟨(drew_cell kq), (drew_cell kr)⟩ (fun hHeld => ?_)
 refine pz_ 1 24 (bA 7 2) (by kernel_rfl) ?_
 refine tz_ 0 23 (bA 7 3) (by kernel_rfl) hHeld ?_
 refine tz_ 2 25 (bA 7 7) (by kernel_rfl) hHeld ?_
 refine pz_ 3 26 (bA 7 15) (by kernel_rfl) ?_
 refine one_ (i := 4) (N := some 27) (bA 7 31) rfl rfl (by kernel_rfl) (by decide) (fun K hK => ?_)
 refine goes_ Tryz.func24 (by kernel_rfl) rfl #[.int .i64 ((pool.length : Int))] (by rfl) rfl rfl (by simp only [List.map_toArray, List.map_cons, List.map_nil]; rfl) ?_
 with_reducible refine (HTX.out).mono ?_
 rintro e wt0 ⟨rfl, hbt0⟩
 refine ⟨_, rfl, ?_⟩
 have hct0 : wt0.cell? ⟨q, 0, none⟩ = some (.func (.func 20) #[] #[.pointer (some ⟨b, 0, none⟩)]) /\ wt0.cell? ⟨W.heap.size, 1, none⟩ = some (.slice Ap pool.length cp) := ⟨qb (drew_cell kq) hbt0, qb (drew_cell kr) hbt0⟩
 refine hK.out _ _ ⟨hct0.1, hct0.2⟩ (fun hHeld => ?_)
 clear hK K
 refine nz_ 27 ?_
 refine one_ (i := 5) (N := some 28) (bA 7 63) rfl rfl (by kernel_rfl) (by decide) (fun K hK => ?_)
 refine value_ (w1 := ?_) (v := ?_) (by rfl) rfl ?_ ?_
 rotate_left 2
 ·go_simp
  constructor
  ·rfl
  ·rfl
 have hc4 : (wt0.alloc (.cells #[.string (poolT), .string (itoaB (pool.length : Int))] 9)).cell? ⟨q, 0, none⟩ = some (.func (.func 20) #[] #[.pointer (some ⟨b, 0, none⟩)]) /\ (wt0.alloc (.cells #[.string (poolT), .string (itoaB (pool.length : Int))] 9)).cell? ⟨W.heap.size, 1, none⟩ = some (.slice Ap pool.length cp) := ⟨qb hct0.1 (bal (Below.refl _ _) _), qb hct0.2 (bal (Below.refl _ _) _)⟩
 have hIA : IsBd (wt0.alloc (.cells #[.string (poolT), .string (itoaB (pool.length : Int))] 9)) own3 b acc1 := (((HST.out.1.below (bd1 (Below.refl _ _))).below hbt0).below (bal (Below.refl _ _) _))
 have HL : Asd (Calls Tryz.prog 20 (#[.slice (some ⟨wt0.heap.size, 0, none⟩) 2 2] ++ #[.pointer (some ⟨b, 0, none⟩)]) (wt0.alloc (.cells #[.string (poolT), .string (itoaB (pool.length : Int))] 9)) fun e w' => e = .returned (.tuple #[]) /\ ∃ own', IsBd w' own' b (acc1 ++ lineS [poolT, itoaB (pool.length : Int)]) /\ Goes (wt0.alloc (.cells #[.string (poolT), .string (itoaB (pool.length : Int))] 9)) w' own3 own') := ⟨line_calls hIA (some ⟨wt0.heap.size, 0, none⟩) 2 [poolT, itoaB (pool.length : Int)] (C_strs [poolT, itoaB (pool.length : Int)] (heap_alloc_new wt0 (.cells #[.string (poolT), .string (itoaB (pool.length : Int))] 9)) (show 2 <= 9223372036854775807 by decide)) (Nat.le_refl _) HSZ.out.1 HSZ.out.2⟩
 refine hK.out _ _ ⟨hc4.1, hc4.2⟩ (fun hHeld => ?_)
 clear hK K
 refine nz_ 28 ?_
 refine last_ (i := 6) (N := some 29) (bA 7 127) rfl rfl (by kernel_rfl) (by decide) (fun K hK => ?_)
 refine goesV_ Tryz.func20 (by kernel_rfl) rfl #[.slice (some ⟨wt0.heap.size, 0, none⟩) 2 2] (by rfl) rfl rfl (by rfl) (by simp only [List.map_toArray, List.map_cons, List.map_nil]; rfl) ?_
 with_reducible refine HL.out.mono ?_
 rintro e W4 ⟨rfl, own4, hI5, hG5⟩
 have hGG : Goes W3 W4 own3 own4 := (((Goes.below (bd1 (Below.refl _ _))).trans (Goes.below hbt0)).trans (Goes.below (bal (Below.refl _ _) _))).trans hG5
 refine ⟨_, rfl, ?_⟩
 refine hK.out _ _ ?_
 clear hK K
 refine nz_ 29 ?_
 refine done_ (by kernel_rfl) ?_
 have hP4 := HP3.out.go hGG hI5
 have hs2 := lineS_size [poolT, itoaB (pool.length : Int)]
 rw [qz, qz] at hs2
 have HZ2 : Asd ((acc1 ++ lineS [poolT, itoaB (pool.length : Int)]).size + (itoaB forks.length).size + sizeT pool + sizeF P forks <= 800000020) := ⟨by
  have e : poolT.size = 4 := rfl
  have e2 : sizeT ([] : List ByteArray) = 0 := rfl
  have := HZ1.out
  rw [ByteArray.size_append]
  omega⟩
 have HE := am (hP4.each Ap cp pool HRP.out HCP.out (by have := HZ2.out; omega))
 have kr := (qx hP4.hr 1 rfl).1
 have kq := (qx hP4.hq 0 rfl).1
 clear hP4 hs2 hI5 hGG hG5 hHeld hbt0 hct0 hc4 hIA HL
 go_wp2_with (go_at_call 23; with_reducible refine HE.out.mono ?_; rintro r W5 ⟨rfl, own5, hP5⟩; have HP5 := am hP5; clear hP5)
 have hP5 := HP5.out
 have HZ3 : Asd ((joinA (acc1 ++ lineS [poolT, itoaB (pool.length : Int)]) pool).size + (itoaB forks.length).size + sizeF P forks <= 800000020) := ⟨by
  rw [joinA_size]
  have := HZ2.out
  omega⟩
 generalize hacc : joinA (acc1 ++ lineS [poolT, itoaB (pool.length : Int)]) pool = acc3 at hP5 HZ3
 have HA3 := am hacc
 have hTD : Tb W5.drew := (HT.out.below hP5.bel).below (bd1 (Below.refl _ _))
 replace HTD := am hTD
 have HFL : Asd ((0 : Int) <= (forks.length : Int) /\ (forks.length : Int) <= 9223372036854775807) := ⟨by have : forks.length <= 9223372036854775807 := HRF.out.2.1; omega⟩
 replace HTX := am (text_calls (forks.length : Int) HFL.out.1 HFL.out.2 hTD)
 replace HSZ : Asd (sizeT [forksT, itoaB (forks.length : Int)] <= 1000000000 /\ acc3.size <= 1000000000) := ⟨by rw [qz, qz]; show 5 + 1 + ((itoaB forks.length).size + 1 + 0) <= _; have := HZ3.out; omega, by have := HZ3.out; omega⟩
 replace HST : Asd (IsBd W5 own5 b acc3 /\ Goes W5 W5 own5 own5) := ⟨hP5.bd, Goes.refl _ _⟩
 replace kr := (qx hP5.hr 2 rfl).1
 replace kq := (qx hP5.hq 0 rfl).1
 replace HP5 := am hP5
 clear hacc hP5 hTD HE HZ2
 refine start_ (n := 7) (S := fun w' => w'.cell? ⟨q, 0, none⟩ = some (.func (.func 20) #[] #[.pointer (some ⟨b, 0, none⟩)]) /\ w'.cell? ⟨W.heap.size, 2, none⟩ = some (.slice Af forks.length cf)) (ds := [6]) (bA 7 0) (by kernel_rfl) rfl rfl ⟨(drew_cell kq), (drew_cell kr)⟩ (fun hHeld => ?_)
 refine pz_ 1 35 (bA 7 2) (by kernel_rfl) ?_
 refine tz_ 0 34 (bA 7 3) (by kernel_rfl) hHeld ?_
 refine tz_ 2 36 (bA 7 7) (by kernel_rfl) hHeld ?_
 refine pz_ 3 37 (bA 7 15) (by kernel_rfl) ?_
 refine one_ (i := 4) (N := some 38) (bA 7 31) rfl rfl (by kernel_rfl) (by decide) (fun K hK => ?_)
 refine goes_ Tryz.func24 (by kernel_rfl) rfl #[.int .i64 ((forks.length : Int))] (by rfl) rfl rfl (by simp only [List.map_toArray, List.map_cons, List.map_nil]; rfl) ?_
 with_reducible refine (HTX.out).mono ?_
 rintro e wt0 ⟨rfl, hbt0⟩
 refine ⟨_, rfl, ?_⟩
 have hct0 : wt0.cell? ⟨q, 0, none⟩ = some (.func (.func 20) #[] #[.pointer (some ⟨b, 0, none⟩)]) /\ wt0.cell? ⟨W.heap.size, 2, none⟩ = some (.slice Af forks.length cf) := ⟨qb (drew_cell kq) hbt0, qb (drew_cell kr) hbt0⟩
 refine hK.out _ _ ⟨hct0.1, hct0.2⟩ (fun hHeld => ?_)
 clear hK K
 refine nz_ 38 ?_
 refine one_ (i := 5) (N := some 39) (bA 7 63) rfl rfl (by kernel_rfl) (by decide) (fun K hK => ?_)
 refine value_ (w1 := ?_) (v := ?_) (by rfl) rfl ?_ ?_
 rotate_left 2
 ·go_simp
  constructor
  ·rfl
  ·rfl
 have hc4 : (wt0.alloc (.cells #[.string (forksT), .string (itoaB (forks.length : Int))] 9)).cell? ⟨q, 0, none⟩ = some (.func (.func 20) #[] #[.pointer (some ⟨b, 0, none⟩)]) /\ (wt0.alloc (.cells #[.string (forksT), .string (itoaB (forks.length : Int))] 9)).cell? ⟨W.heap.size, 2, none⟩ = some (.slice Af forks.length cf) := ⟨qb hct0.1 (bal (Below.refl _ _) _), qb hct0.2 (bal (Below.refl _ _) _)⟩
 have hIA : IsBd (wt0.alloc (.cells #[.string (forksT), .string (itoaB (forks.length : Int))] 9)) own5 b acc3 := (((HST.out.1.below (bd1 (Below.refl _ _))).below hbt0).below (bal (Below.refl _ _) _))
 have HL : Asd (Calls Tryz.prog 20 (#[.slice (some ⟨wt0.heap.size, 0, none⟩) 2 2] ++ #[.pointer (some ⟨b, 0, none⟩)]) (wt0.alloc (.cells #[.string (forksT), .string (itoaB (forks.length : Int))] 9)) fun e w' => e = .returned (.tuple #[]) /\ ∃ own', IsBd w' own' b (acc3 ++ lineS [forksT, itoaB (forks.length : Int)]) /\ Goes (wt0.alloc (.cells #[.string (forksT), .string (itoaB (forks.length : Int))] 9)) w' own5 own') := ⟨line_calls hIA (some ⟨wt0.heap.size, 0, none⟩) 2 [forksT, itoaB (forks.length : Int)] (C_strs [forksT, itoaB (forks.length : Int)] (heap_alloc_new wt0 (.cells #[.string (forksT), .string (itoaB (forks.length : Int))] 9)) (show 2 <= 9223372036854775807 by decide)) (Nat.le_refl _) HSZ.out.1 HSZ.out.2⟩
 refine hK.out _ _ ⟨hc4.1, hc4.2⟩ (fun hHeld => ?_)
 clear hK K
 refine nz_ 39 ?_
 refine last_ (i := 6) (N := some 40) (bA 7 127) rfl rfl (by kernel_rfl) (by decide) (fun K hK => ?_)
 refine goesV_ Tryz.func20 (by kernel_rfl) rfl #[.slice (some ⟨wt0.heap.size, 0, none⟩) 2 2] (by rfl) rfl rfl (by rfl) (by simp only [List.map_toArray, List.map_cons, List.map_nil]; rfl) ?_
 with_reducible refine HL.out.mono ?_
 rintro e W6 ⟨rfl, own6, hI5, hG5⟩
 have hGG : Goes W5 W6 own5 own6 := (((Goes.below (bd1 (Below.refl _ _))).trans (Goes.below hbt0)).trans (Goes.below (bal (Below.refl _ _) _))).trans hG5
 refine ⟨_, rfl, ?_⟩
 refine hK.out _ _ ?_
 clear hK K
 refine nz_ 40 ?_
 refine done_ (by kernel_rfl) ?_
 have hP6 := HP5.out.go hGG hI5
 have HZ4 : Asd ((acc3 ++ lineS [forksT, itoaB (forks.length : Int)]).size + sizeF P forks <= 800000040) := ⟨by
  have hs2 := lineS_size [forksT, itoaB (forks.length : Int)]
  rw [qz, qz] at hs2
  have e : forksT.size = 5 := rfl
  have e2 : sizeT ([] : List ByteArray) = 0 := rfl
  have := HZ3.out
  rw [ByteArray.size_append]
  omega⟩
 have hfin : textP P n pool forks = textG P (acc3 ++ lineS [forksT, itoaB (forks.length : Int)]) forks := by rw [<- HA3.out, <- HA1.out]; rfl
 have HFIN := am hfin
 generalize acc3 ++ lineS [forksT, itoaB (forks.length : Int)] = acc4 at hP6 HZ4 HFIN
 have HP6 := am hP6
 have kr := (qx hP6.hr 2 rfl).1
 have kq := (qx hP6.hq 0 rfl).1
 clear hP6 hfin hI5 hGG hG5 hHeld hbt0 hct0 hc4 hIA HL
 clear HTX HSZ HST HTD HFL HZ3 HPL HR3 HQ3 HB3 HP3 HZ1 HP5
 have hmax : forks.length <= 9223372036854775807 := HRF.out.2.1
 go_wp2
 go_loopg [44] forks.length (fun gg s44 wr => ∃ kk : Nat, kk <= forks.length /\ forks.length - kk <= gg /\ s44 = .int .i64 kk /\ Asd (∃ own acc, Pt W b q (.cells #[.func (.func 20) #[] #[.pointer (some ⟨b, 0, none⟩)]] 51 (0, 0)) (.cells #[.int .i64 n, .slice Ap pool.length cp, .slice Af forks.length cf] 25 (0, 0)) wr own acc /\ textG P acc (forks.drop kk) = textP P n pool forks /\ acc.size + sizeF P (forks.drop kk) <= 800000040))
 case atStart => exact ⟨0, Nat.zero_le _, by omega, rfl, ⟨_, _, HP6.out, HFIN.out.symm, HZ4.out⟩⟩
 case round =>
  obtain ⟨kk, hkk, hg, rfl, ⟨own, acc, hPT, hA, hac⟩⟩ := hrel
  clear HP6 HFIN HZ4
  by_cases hlt : kk < forks.length
  ·have hltz : (kk : Int) < (forks.length : Int) := by omega
   obtain ⟨ad, A3, c3, A4, c4, rfl, g0, g1, g2, g3, g4, l3, C3, l4, C4⟩ := at_T39 HRF.out (kk : Int) (by omega) hltz
   have hx : qT forks (kk : Int) = forks[kk] := by
    unfold qT
    rw [Int.toNat_natCast, List.getD_eq_getElem?_getD, List.getElem?_eq_getElem hlt]; rfl
   have hmem : forks[kk] ∈ forks := List.getElem_mem hlt
   rw [hx] at g0 g1 g2 g3 g4 l3 C3 l4 C4
   rw [Int.toNat_natCast] at g0 g1 g2 g3 g4
   rw [List.drop_eq_getElem_cons hlt] at hA hac
   generalize forks[kk] = x at g0 g1 g2 g3 g4 l3 C3 l4 C4 hA hac hmem
   obtain ⟨f0, f1, f2, f3, f4⟩ := x
   simp only [] at g0 g1 g2 g3 g4 l3 C3 l4 C4
   obtain ⟨pb, hpb⟩ := HP.out _ hmem
   replace g0 := qb g0 hPT.bel
   replace g1 := qb g1 hPT.bel
   replace g2 := qb g2 hPT.bel
   replace g3 := qb g3 hPT.bel
   replace g4 := qb g4 hPT.bel
   have HPT := am hPT
   have HA := am hA
   have HAC := am hac
   have HPB := am hpb
   have HC3 := am C3
   have HC4 := am C4
   have HL3 := am l3
   have HL4 := am l4
   clear hx hmem hPT hA hac hpb C3 C4 l3 l4
   cases f1 with
   | false =>
    go_wp2
    have hF := heap_alloc_new wr (.cells #[.string f0, .bool false, .string f2, .slice A3 f3.length c3, .slice A4 f4.length c4] 39)
    have hPf := HPT.out.below (bal (Below.refl _ _) (.cells #[.string f0, .bool false, .string f2, .slice A3 f3.length c3, .slice A4 f4.length c4] 39))
    have hnb : ¬ own wr.heap.size := fun e => by have := HPT.out.bd.lt _ e; omega
    generalize hWf : wr.alloc (.cells #[.string f0, .bool false, .string f2, .slice A3 f3.length c3, .slice A4 f4.length c4] 39) = W7 at hF hPf ⊢
    generalize hcb : wr.heap.size = cb at hF hnb ⊢
    have hs := lineS_size [forkT, f0, aloneT, f2, itoaB (f3.length : Int), itoaB (f4.length : Int)]
    rw [qz, qz, qz, qz, qz, qz] at hs
    have e1 : forkT.size = 4 := rfl
    have e2 : (aloneT : ByteArray).size = 5 := rfl
    have e3 : sizeT ([] : List ByteArray) = 0 := rfl
    have hac : acc.size + (100 + f0.size + f2.size + (itoaB f3.length).size + (itoaB f4.length).size + (P f3).size + sizeT f4 + sizeF P (forks.drop (kk + 1))) <= 800000040 := HAC.out
    have HZL : Asd ((acc ++ lineS [forkT, f0, aloneT, f2, itoaB (f3.length : Int), itoaB (f4.length : Int)]).size + (P f3).size + sizeT f4 + sizeF P (forks.drop (kk + 1)) <= 800000040) := ⟨by rw [ByteArray.size_append]; omega⟩
    have HSZ : Asd (sizeT [forkT, f0, aloneT, f2, itoaB (f3.length : Int), itoaB (f4.length : Int)] <= 1000000000 /\ acc.size <= 1000000000) := ⟨by rw [qz, qz, qz, qz, qz, qz]; omega, by omega⟩
    have HF3 : Asd ((0 : Int) <= (f3.length : Int) /\ (f3.length : Int) <= 9223372036854775807) := ⟨by have : f3.length <= 9223372036854775807 := HC3.out.2.1; omega⟩
    have HF4 : Asd ((0 : Int) <= (f4.length : Int) /\ (f4.length : Int) <= 9223372036854775807) := ⟨by have : f4.length <= 9223372036854775807 := HC4.out.2.1; omega⟩
    have hTD : Tb W7.drew := (HT.out.below hPf.bel).below (bd1 (Below.refl _ _))
    have HTD := am hTD
    have HTX := am (text_calls (f3.length : Int) HF3.out.1 HF3.out.2 hTD)
    have HST : Asd (IsBd W7 own b acc /\ Goes W7 W7 own own) := ⟨hPf.bd, Goes.refl _ _⟩
    have kq := (qx hPf.hq 0 rfl).1
    have kf0 := (qx hF 0 rfl).1
    have kf2 := (qx hF 2 rfl).1
    have kf3 := (qx hF 3 rfl).1
    have kf4 := (qx hF 4 rfl).1
    have HF7 := am hF
    have HPF := am hPf
    have HNB := am hnb
    clear hF hPf hnb hWf hcb hs e1 e2 e3 hac hTD g0 g1 g2 g3 g4
    refine start_ (n := 16) (S := fun w' => w'.cell? ⟨q, 0, none⟩ = some (.func (.func 20) #[] #[.pointer (some ⟨b, 0, none⟩)]) /\ w'.cell? ⟨cb, 0, none⟩ = some (.string f0) /\ w'.cell? ⟨cb, 2, none⟩ = some (.string f2) /\ w'.cell? ⟨cb, 3, none⟩ = some (.slice A3 f3.length c3) /\ w'.cell? ⟨cb, 4, none⟩ = some (.slice A4 f4.length c4)) (ds := [15]) (bA 16 0) (by kernel_rfl) rfl rfl ⟨(drew_cell kq), (drew_cell kf0), (drew_cell kf2), (drew_cell kf3), (drew_cell kf4)⟩ (fun hHeld => ?_)
    refine pz_ 1 51 (bA 16 2) (by kernel_rfl) ?_
    refine pz_ 3 53 (bA 16 10) (by kernel_rfl) ?_
    refine pz_ 4 54 (bA 16 26) (by kernel_rfl) ?_
    refine pz_ 6 56 (bA 16 90) (by kernel_rfl) ?_
    refine pz_ 10 60 (bA 16 1114) (by kernel_rfl) ?_
    refine tz_ 0 50 (bA 16 1115) (by kernel_rfl) hHeld ?_
    refine tz_ 2 52 (bA 16 1119) (by kernel_rfl) hHeld ?_
    refine tz_ 5 55 (bA 16 1151) (by kernel_rfl) hHeld ?_
    refine tz_ 7 57 (bA 16 1279) (by kernel_rfl) hHeld ?_
    refine pz_ 8 58 (bA 16 1535) (by kernel_rfl) ?_
    refine tz_ 11 61 (bA 16 3583) (by kernel_rfl) hHeld ?_
    refine pz_ 12 62 (bA 16 7679) (by kernel_rfl) ?_
    refine one_ (i := 9) (N := some 59) (bA 16 8191) rfl rfl (by kernel_rfl) (by decide) (fun K hK => ?_)
    refine goes_ Tryz.func24 (by kernel_rfl) rfl #[.int .i64 ((f3.length : Int))] (by rfl) rfl rfl (by simp only [List.map_toArray, List.map_cons, List.map_nil]; rfl) ?_
    with_reducible refine (HTX.out).mono ?_
    rintro e wt0 ⟨rfl, hbt0⟩
    refine ⟨_, rfl, ?_⟩
    have hct0 : wt0.cell? ⟨q, 0, none⟩ = some (.func (.func 20) #[] #[.pointer (some ⟨b, 0, none⟩)]) /\ wt0.cell? ⟨cb, 0, none⟩ = some (.string f0) /\ wt0.cell? ⟨cb, 2, none⟩ = some (.string f2) /\ wt0.cell? ⟨cb, 3, none⟩ = some (.slice A3 f3.length c3) /\ wt0.cell? ⟨cb, 4, none⟩ = some (.slice A4 f4.length c4) := ⟨qb (drew_cell kq) hbt0, qb (drew_cell kf0) hbt0, qb (drew_cell kf2) hbt0, qb (drew_cell kf3) hbt0, qb (drew_cell kf4) hbt0⟩
    have HTX2 := am (text_calls ((f4.length : Int)) HF4.out.1 HF4.out.2 (HTD.out.below hbt0))
    refine hK.out _ _ ⟨hct0.1, hct0.2.1, hct0.2.2.1, hct0.2.2.2.1, hct0.2.2.2.2⟩ (fun hHeld => ?_)
    clear hK K
    refine nz_ 59 ?_
    refine one_ (i := 13) (N := some 63) (bA 16 16383) rfl rfl (by kernel_rfl) (by decide) (fun K hK => ?_)
    refine goes_ Tryz.func24 (by kernel_rfl) rfl #[.int .i64 ((f4.length : Int))] (by rfl) rfl rfl (by simp only [List.map_toArray, List.map_cons, List.map_nil]; rfl) ?_
    with_reducible refine (HTX2.out).mono ?_
    rintro e wt1 ⟨rfl, hbt1⟩
    refine ⟨_, rfl, ?_⟩
    have hct1 : wt1.cell? ⟨q, 0, none⟩ = some (.func (.func 20) #[] #[.pointer (some ⟨b, 0, none⟩)]) /\ wt1.cell? ⟨cb, 0, none⟩ = some (.string f0) /\ wt1.cell? ⟨cb, 2, none⟩ = some (.string f2) /\ wt1.cell? ⟨cb, 3, none⟩ = some (.slice A3 f3.length c3) /\ wt1.cell? ⟨cb, 4, none⟩ = some (.slice A4 f4.length c4) := ⟨qb hct0.1 hbt1, qb hct0.2.1 hbt1, qb hct0.2.2.1 hbt1, qb hct0.2.2.2.1 hbt1, qb hct0.2.2.2.2 hbt1⟩
    refine hK.out _ _ ⟨hct1.1, hct1.2.1, hct1.2.2.1, hct1.2.2.2.1, hct1.2.2.2.2⟩ (fun hHeld => ?_)
    clear hK K
    refine nz_ 63 ?_
    refine one_ (i := 14) (N := some 64) (bA 16 32767) rfl rfl (by kernel_rfl) (by decide) (fun K hK => ?_)
    refine value_ (w1 := ?_) (v := ?_) (by rfl) rfl ?_ ?_
    rotate_left 2
    ·go_simp
     constructor
     ·rfl
     ·rfl
    have hc4 : (wt1.alloc (.cells #[.string (forkT), .string (f0), .string (aloneT), .string (f2), .string (itoaB (f3.length : Int)), .string (itoaB (f4.length : Int))] 9)).cell? ⟨q, 0, none⟩ = some (.func (.func 20) #[] #[.pointer (some ⟨b, 0, none⟩)]) /\ (wt1.alloc (.cells #[.string (forkT), .string (f0), .string (aloneT), .string (f2), .string (itoaB (f3.length : Int)), .string (itoaB (f4.length : Int))] 9)).cell? ⟨cb, 0, none⟩ = some (.string f0) /\ (wt1.alloc (.cells #[.string (forkT), .string (f0), .string (aloneT), .string (f2), .string (itoaB (f3.length : Int)), .string (itoaB (f4.length : Int))] 9)).cell? ⟨cb, 2, none⟩ = some (.string f2) /\ (wt1.alloc (.cells #[.string (forkT), .string (f0), .string (aloneT), .string (f2), .string (itoaB (f3.length : Int)), .string (itoaB (f4.length : Int))] 9)).cell? ⟨cb, 3, none⟩ = some (.slice A3 f3.length c3) /\ (wt1.alloc (.cells #[.string (forkT), .string (f0), .string (aloneT), .string (f2), .string (itoaB (f3.length : Int)), .string (itoaB (f4.length : Int))] 9)).cell? ⟨cb, 4, none⟩ = some (.slice A4 f4.length c4) := ⟨qb hct1.1 (bal (Below.refl _ _) _), qb hct1.2.1 (bal (Below.refl _ _) _), qb hct1.2.2.1 (bal (Below.refl _ _) _), qb hct1.2.2.2.1 (bal (Below.refl _ _) _), qb hct1.2.2.2.2 (bal (Below.refl _ _) _)⟩
    have hIA : IsBd (wt1.alloc (.cells #[.string (forkT), .string (f0), .string (aloneT), .string (f2), .string (itoaB (f3.length : Int)), .string (itoaB (f4.length : Int))] 9)) own b acc := ((((HST.out.1.below (bd1 (Below.refl _ _))).below hbt0).below hbt1).below (bal (Below.refl _ _) _))
    have HL : Asd (Calls Tryz.prog 20 (#[.slice (some ⟨wt1.heap.size, 0, none⟩) 6 6] ++ #[.pointer (some ⟨b, 0, none⟩)]) (wt1.alloc (.cells #[.string (forkT), .string (f0), .string (aloneT), .string (f2), .string (itoaB (f3.length : Int)), .string (itoaB (f4.length : Int))] 9)) fun e w' => e = .returned (.tuple #[]) /\ ∃ own', IsBd w' own' b (acc ++ lineS [forkT, f0, aloneT, f2, itoaB (f3.length : Int), itoaB (f4.length : Int)]) /\ Goes (wt1.alloc (.cells #[.string (forkT), .string (f0), .string (aloneT), .string (f2), .string (itoaB (f3.length : Int)), .string (itoaB (f4.length : Int))] 9)) w' own own') := ⟨line_calls hIA (some ⟨wt1.heap.size, 0, none⟩) 6 [forkT, f0, aloneT, f2, itoaB (f3.length : Int), itoaB (f4.length : Int)] (C_strs [forkT, f0, aloneT, f2, itoaB (f3.length : Int), itoaB (f4.length : Int)] (heap_alloc_new wt1 (.cells #[.string (forkT), .string (f0), .string (aloneT), .string (f2), .string (itoaB (f3.length : Int)), .string (itoaB (f4.length : Int))] 9)) (show 6 <= 9223372036854775807 by decide)) (Nat.le_refl _) HSZ.out.1 HSZ.out.2⟩
    refine hK.out _ _ ⟨hc4.1, hc4.2.1, hc4.2.2.1, hc4.2.2.2.1, hc4.2.2.2.2⟩ (fun hHeld => ?_)
    clear hK K
    refine nz_ 64 ?_
    refine last_ (i := 15) (N := some 65) (bA 16 65535) rfl rfl (by kernel_rfl) (by decide) (fun K hK => ?_)
    refine goesV_ Tryz.func20 (by kernel_rfl) rfl #[.slice (some ⟨wt1.heap.size, 0, none⟩) 6 6] (by rfl) rfl rfl (by rfl) (by simp only [List.map_toArray, List.map_cons, List.map_nil]; rfl) ?_
    with_reducible refine HL.out.mono ?_
    rintro e W8 ⟨rfl, own8, hI5, hG5⟩
    have hGG : Goes W7 W8 own own8 := ((((Goes.below (bd1 (Below.refl _ _))).trans (Goes.below hbt0)).trans (Goes.below hbt1)).trans (Goes.below (bal (Below.refl _ _) _))).trans hG5
    refine ⟨_, rfl, ?_⟩
    refine hK.out _ _ ?_
    clear hK K
    refine nz_ 65 ?_
    refine done_ (by kernel_rfl) ?_
    have HNB8 : Asd (¬ own8 cb) := ⟨fun e => (hGG.own cb e).elim HNB.out (fun e => by have := lt_box HF7.out; omega)⟩
    have hF8 := (hGG.keeps.block cb (lt_box HF7.out) HNB.out).trans HF7.out
    have HF8 := am hF8
    have hP8 := HPF.out.go hGG hI5
    have HP8 := am hP8
    have HRP := am (refs_Put.calls k A3 c3 f3 (P f3) pb W8 (Kd.C_below HC3.out hP8.bel) HL3.out HPB.out)
    have kf3 := (qx hF8 3 rfl).1
    have HZ2 : Asd (((acc ++ lineS [forkT, f0, aloneT, f2, itoaB (f3.length : Int), itoaB (f4.length : Int)]) ++ P f3).size + sizeT f4 <= 900000000) := ⟨by rw [ByteArray.size_append]; have := HZL.out; omega⟩
    have HZ3 : Asd ((acc ++ lineS [forkT, f0, aloneT, f2, itoaB (f3.length : Int), itoaB (f4.length : Int)]).size + (P f3).size <= 140737488355328) := ⟨by have := HZL.out; omega⟩
    have HZ4 : Asd ((joinA ((acc ++ lineS [forkT, f0, aloneT, f2, itoaB (f3.length : Int), itoaB (f4.length : Int)]) ++ P f3) f4).size + sizeF P (forks.drop (kk + 1)) <= 800000040) := ⟨by rw [joinA_size, ByteArray.size_append]; have := HZL.out; omega⟩
    have hA : textG P (joinA ((acc ++ lineS [forkT, f0, aloneT, f2, itoaB (f3.length : Int), itoaB (f4.length : Int)]) ++ P f3) f4) (forks.drop (kk + 1)) = textP P n pool forks := HA.out
    have HA2 := am hA
    clear hA hF8 hP8 hI5 hGG hG5 hHeld hbt0 hct0 hbt1 hct1 hc4 hIA HL
    clear HTX HTX2 HSZ HST HTD HF3 HF4 HAC HA HZL
    go_wp2_with (first
     | (go_at_call 25; with_reducible refine HRP.out.mono ?_; rintro r W9 ⟨rfl, hb9⟩; have HP9 := am (HP8.out.below hb9); have HF9 := am ((hb9.block cb (lt_box HF8.out)).trans HF8.out); clear hb9)
     | (go_at_call 21; refine (write_calls HP9.out.bd (P f3) HZ3.out).mono ?_; rintro r W10 ⟨rfl, own10, hI10, hG10⟩; have HP10 := am (HP9.out.go hG10 hI10); have kf4 := (qx ((hG10.keeps.block cb (lt_box HF9.out) HNB8.out).trans HF9.out) 4 rfl).1; clear hI10 hG10)
     | (go_at_call 23; refine (HP10.out.each A4 c4 f4 HC4.out HL4.out HZ2.out).mono ?_; rintro r W11 ⟨rfl, own11, hP11⟩; have HP11 := am hP11; clear hP11))
    go_roundg (forks.length - (kk + 1))
    case measure => omega
    case rel => exact ⟨kk + 1, by omega, by omega, by go_num, ⟨own11, _, HP11.out, HA2.out, HZ4.out⟩⟩
   | true =>
    go_wp2
    have hF := heap_alloc_new wr (.cells #[.string f0, .bool true, .string f2, .slice A3 f3.length c3, .slice A4 f4.length c4] 39)
    have hPf := HPT.out.below (bal (Below.refl _ _) (.cells #[.string f0, .bool true, .string f2, .slice A3 f3.length c3, .slice A4 f4.length c4] 39))
    have hnb : ¬ own wr.heap.size := fun e => by have := HPT.out.bd.lt _ e; omega
    generalize hWf : wr.alloc (.cells #[.string f0, .bool true, .string f2, .slice A3 f3.length c3, .slice A4 f4.length c4] 39) = W7 at hF hPf ⊢
    generalize hcb : wr.heap.size = cb at hF hnb ⊢
    have hs := lineS_size [forkT, f0, linkedT, f2, itoaB (f3.length : Int), itoaB (f4.length : Int)]
    rw [qz, qz, qz, qz, qz, qz] at hs
    have e1 : forkT.size = 4 := rfl
    have e2 : (linkedT : ByteArray).size = 6 := rfl
    have e3 : sizeT ([] : List ByteArray) = 0 := rfl
    have hac : acc.size + (100 + f0.size + f2.size + (itoaB f3.length).size + (itoaB f4.length).size + (P f3).size + sizeT f4 + sizeF P (forks.drop (kk + 1))) <= 800000040 := HAC.out
    have HZL : Asd ((acc ++ lineS [forkT, f0, linkedT, f2, itoaB (f3.length : Int), itoaB (f4.length : Int)]).size + (P f3).size + sizeT f4 + sizeF P (forks.drop (kk + 1)) <= 800000040) := ⟨by rw [ByteArray.size_append]; omega⟩
    have HSZ : Asd (sizeT [forkT, f0, linkedT, f2, itoaB (f3.length : Int), itoaB (f4.length : Int)] <= 1000000000 /\ acc.size <= 1000000000) := ⟨by rw [qz, qz, qz, qz, qz, qz]; omega, by omega⟩
    have HF3 : Asd ((0 : Int) <= (f3.length : Int) /\ (f3.length : Int) <= 9223372036854775807) := ⟨by have : f3.length <= 9223372036854775807 := HC3.out.2.1; omega⟩
    have HF4 : Asd ((0 : Int) <= (f4.length : Int) /\ (f4.length : Int) <= 9223372036854775807) := ⟨by have : f4.length <= 9223372036854775807 := HC4.out.2.1; omega⟩
    have hTD : Tb W7.drew := (HT.out.below hPf.bel).below (bd1 (Below.refl _ _))
    have HTD := am hTD
    have HTX := am (text_calls (f3.length : Int) HF3.out.1 HF3.out.2 hTD)
    have HST : Asd (IsBd W7 own b acc /\ Goes W7 W7 own own) := ⟨hPf.bd, Goes.refl _ _⟩
    have kq := (qx hPf.hq 0 rfl).1
    have kf0 := (qx hF 0 rfl).1
    have kf2 := (qx hF 2 rfl).1
    have kf3 := (qx hF 3 rfl).1
    have kf4 := (qx hF 4 rfl).1
    have HF7 := am hF
    have HPF := am hPf
    have HNB := am hnb
    clear hF hPf hnb hWf hcb hs e1 e2 e3 hac hTD g0 g1 g2 g3 g4
    refine start_ (n := 16) (S := fun w' => w'.cell? ⟨q, 0, none⟩ = some (.func (.func 20) #[] #[.pointer (some ⟨b, 0, none⟩)]) /\ w'.cell? ⟨cb, 0, none⟩ = some (.string f0) /\ w'.cell? ⟨cb, 2, none⟩ = some (.string f2) /\ w'.cell? ⟨cb, 3, none⟩ = some (.slice A3 f3.length c3) /\ w'.cell? ⟨cb, 4, none⟩ = some (.slice A4 f4.length c4)) (ds := [15]) (bA 16 0) (by kernel_rfl) rfl rfl ⟨(drew_cell kq), (drew_cell kf0), (drew_cell kf2), (drew_cell kf3), (drew_cell kf4)⟩ (fun hHeld => ?_)
    refine pz_ 1 51 (bA 16 2) (by kernel_rfl) ?_
    refine pz_ 3 53 (bA 16 10) (by kernel_rfl) ?_
    refine pz_ 4 54 (bA 16 26) (by kernel_rfl) ?_
    refine pz_ 6 56 (bA 16 90) (by kernel_rfl) ?_
    refine pz_ 10 60 (bA 16 1114) (by kernel_rfl) ?_
    refine tz_ 0 50 (bA 16 1115) (by kernel_rfl) hHeld ?_
    refine tz_ 2 52 (bA 16 1119) (by kernel_rfl) hHeld ?_
    refine tz_ 5 55 (bA 16 1151) (by kernel_rfl) hHeld ?_
    refine tz_ 7 57 (bA 16 1279) (by kernel_rfl) hHeld ?_
    refine pz_ 8 58 (bA 16 1535) (by kernel_rfl) ?_
    refine tz_ 11 61 (bA 16 3583) (by kernel_rfl) hHeld ?_
    refine pz_ 12 62 (bA 16 7679) (by kernel_rfl) ?_
    refine one_ (i := 9) (N := some 59) (bA 16 8191) rfl rfl (by kernel_rfl) (by decide) (fun K hK => ?_)
    refine goes_ Tryz.func24 (by kernel_rfl) rfl #[.int .i64 ((f3.length : Int))] (by rfl) rfl rfl (by simp only [List.map_toArray, List.map_cons, List.map_nil]; rfl) ?_
    with_reducible refine (HTX.out).mono ?_
    rintro e wt0 ⟨rfl, hbt0⟩
    refine ⟨_, rfl, ?_⟩
    have hct0 : wt0.cell? ⟨q, 0, none⟩ = some (.func (.func 20) #[] #[.pointer (some ⟨b, 0, none⟩)]) /\ wt0.cell? ⟨cb, 0, none⟩ = some (.string f0) /\ wt0.cell? ⟨cb, 2, none⟩ = some (.string f2) /\ wt0.cell? ⟨cb, 3, none⟩ = some (.slice A3 f3.length c3) /\ wt0.cell? ⟨cb, 4, none⟩ = some (.slice A4 f4.length c4) := ⟨qb (drew_cell kq) hbt0, qb (drew_cell kf0) hbt0, qb (drew_cell kf2) hbt0, qb (drew_cell kf3) hbt0, qb (drew_cell kf4) hbt0⟩
    have HTX2 := am (text_calls ((f4.length : Int)) HF4.out.1 HF4.out.2 (HTD.out.below hbt0))
    refine hK.out _ _ ⟨hct0.1, hct0.2.1, hct0.2.2.1, hct0.2.2.2.1, hct0.2.2.2.2⟩ (fun hHeld => ?_)
    clear hK K
    refine nz_ 59 ?_
    refine one_ (i := 13) (N := some 63) (bA 16 16383) rfl rfl (by kernel_rfl) (by decide) (fun K hK => ?_)
    refine goes_ Tryz.func24 (by kernel_rfl) rfl #[.int .i64 ((f4.length : Int))] (by rfl) rfl rfl (by simp only [List.map_toArray, List.map_cons, List.map_nil]; rfl) ?_
    with_reducible refine (HTX2.out).mono ?_
    rintro e wt1 ⟨rfl, hbt1⟩
    refine ⟨_, rfl, ?_⟩
    have hct1 : wt1.cell? ⟨q, 0, none⟩ = some (.func (.func 20) #[] #[.pointer (some ⟨b, 0, none⟩)]) /\ wt1.cell? ⟨cb, 0, none⟩ = some (.string f0) /\ wt1.cell? ⟨cb, 2, none⟩ = some (.string f2) /\ wt1.cell? ⟨cb, 3, none⟩ = some (.slice A3 f3.length c3) /\ wt1.cell? ⟨cb, 4, none⟩ = some (.slice A4 f4.length c4) := ⟨qb hct0.1 hbt1, qb hct0.2.1 hbt1, qb hct0.2.2.1 hbt1, qb hct0.2.2.2.1 hbt1, qb hct0.2.2.2.2 hbt1⟩
    refine hK.out _ _ ⟨hct1.1, hct1.2.1, hct1.2.2.1, hct1.2.2.2.1, hct1.2.2.2.2⟩ (fun hHeld => ?_)
    clear hK K
    refine nz_ 63 ?_
    refine one_ (i := 14) (N := some 64) (bA 16 32767) rfl rfl (by kernel_rfl) (by decide) (fun K hK => ?_)
    refine value_ (w1 := ?_) (v := ?_) (by rfl) rfl ?_ ?_
    rotate_left 2
    ·go_simp
     constructor
     ·rfl
     ·rfl
    have hc4 : (wt1.alloc (.cells #[.string (forkT), .string (f0), .string (linkedT), .string (f2), .string (itoaB (f3.length : Int)), .string (itoaB (f4.length : Int))] 9)).cell? ⟨q, 0, none⟩ = some (.func (.func 20) #[] #[.pointer (some ⟨b, 0, none⟩)]) /\ (wt1.alloc (.cells #[.string (forkT), .string (f0), .string (linkedT), .string (f2), .string (itoaB (f3.length : Int)), .string (itoaB (f4.length : Int))] 9)).cell? ⟨cb, 0, none⟩ = some (.string f0) /\ (wt1.alloc (.cells #[.string (forkT), .string (f0), .string (linkedT), .string (f2), .string (itoaB (f3.length : Int)), .string (itoaB (f4.length : Int))] 9)).cell? ⟨cb, 2, none⟩ = some (.string f2) /\ (wt1.alloc (.cells #[.string (forkT), .string (f0), .string (linkedT), .string (f2), .string (itoaB (f3.length : Int)), .string (itoaB (f4.length : Int))] 9)).cell? ⟨cb, 3, none⟩ = some (.slice A3 f3.length c3) /\ (wt1.alloc (.cells #[.string (forkT), .string (f0), .string (linkedT), .string (f2), .string (itoaB (f3.length : Int)), .string (itoaB (f4.length : Int))] 9)).cell? ⟨cb, 4, none⟩ = some (.slice A4 f4.length c4) := ⟨qb hct1.1 (bal (Below.refl _ _) _), qb hct1.2.1 (bal (Below.refl _ _) _), qb hct1.2.2.1 (bal (Below.refl _ _) _), qb hct1.2.2.2.1 (bal (Below.refl _ _) _), qb hct1.2.2.2.2 (bal (Below.refl _ _) _)⟩
    have hIA : IsBd (wt1.alloc (.cells #[.string (forkT), .string (f0), .string (linkedT), .string (f2), .string (itoaB (f3.length : Int)), .string (itoaB (f4.length : Int))] 9)) own b acc := ((((HST.out.1.below (bd1 (Below.refl _ _))).below hbt0).below hbt1).below (bal (Below.refl _ _) _))
    have HL : Asd (Calls Tryz.prog 20 (#[.slice (some ⟨wt1.heap.size, 0, none⟩) 6 6] ++ #[.pointer (some ⟨b, 0, none⟩)]) (wt1.alloc (.cells #[.string (forkT), .string (f0), .string (linkedT), .string (f2), .string (itoaB (f3.length : Int)), .string (itoaB (f4.length : Int))] 9)) fun e w' => e = .returned (.tuple #[]) /\ ∃ own', IsBd w' own' b (acc ++ lineS [forkT, f0, linkedT, f2, itoaB (f3.length : Int), itoaB (f4.length : Int)]) /\ Goes (wt1.alloc (.cells #[.string (forkT), .string (f0), .string (linkedT), .string (f2), .string (itoaB (f3.length : Int)), .string (itoaB (f4.length : Int))] 9)) w' own own') := ⟨line_calls hIA (some ⟨wt1.heap.size, 0, none⟩) 6 [forkT, f0, linkedT, f2, itoaB (f3.length : Int), itoaB (f4.length : Int)] (C_strs [forkT, f0, linkedT, f2, itoaB (f3.length : Int), itoaB (f4.length : Int)] (heap_alloc_new wt1 (.cells #[.string (forkT), .string (f0), .string (linkedT), .string (f2), .string (itoaB (f3.length : Int)), .string (itoaB (f4.length : Int))] 9)) (show 6 <= 9223372036854775807 by decide)) (Nat.le_refl _) HSZ.out.1 HSZ.out.2⟩
    refine hK.out _ _ ⟨hc4.1, hc4.2.1, hc4.2.2.1, hc4.2.2.2.1, hc4.2.2.2.2⟩ (fun hHeld => ?_)
    clear hK K
    refine nz_ 64 ?_
    refine last_ (i := 15) (N := some 65) (bA 16 65535) rfl rfl (by kernel_rfl) (by decide) (fun K hK => ?_)
    refine goesV_ Tryz.func20 (by kernel_rfl) rfl #[.slice (some ⟨wt1.heap.size, 0, none⟩) 6 6] (by rfl) rfl rfl (by rfl) (by simp only [List.map_toArray, List.map_cons, List.map_nil]; rfl) ?_
    with_reducible refine HL.out.mono ?_
    rintro e W8 ⟨rfl, own8, hI5, hG5⟩
    have hGG : Goes W7 W8 own own8 := ((((Goes.below (bd1 (Below.refl _ _))).trans (Goes.below hbt0)).trans (Goes.below hbt1)).trans (Goes.below (bal (Below.refl _ _) _))).trans hG5
    refine ⟨_, rfl, ?_⟩
    refine hK.out _ _ ?_
    clear hK K
    refine nz_ 65 ?_
    refine done_ (by kernel_rfl) ?_
    have HNB8 : Asd (¬ own8 cb) := ⟨fun e => (hGG.own cb e).elim HNB.out (fun e => by have := lt_box HF7.out; omega)⟩
    have hF8 := (hGG.keeps.block cb (lt_box HF7.out) HNB.out).trans HF7.out
    have HF8 := am hF8
    have hP8 := HPF.out.go hGG hI5
    have HP8 := am hP8
    have HRP := am (refs_Put.calls k A3 c3 f3 (P f3) pb W8 (Kd.C_below HC3.out hP8.bel) HL3.out HPB.out)
    have kf3 := (qx hF8 3 rfl).1
    have HZ2 : Asd (((acc ++ lineS [forkT, f0, linkedT, f2, itoaB (f3.length : Int), itoaB (f4.length : Int)]) ++ P f3).size + sizeT f4 <= 900000000) := ⟨by rw [ByteArray.size_append]; have := HZL.out; omega⟩
    have HZ3 : Asd ((acc ++ lineS [forkT, f0, linkedT, f2, itoaB (f3.length : Int), itoaB (f4.length : Int)]).size + (P f3).size <= 140737488355328) := ⟨by have := HZL.out; omega⟩
    have HZ4 : Asd ((joinA ((acc ++ lineS [forkT, f0, linkedT, f2, itoaB (f3.length : Int), itoaB (f4.length : Int)]) ++ P f3) f4).size + sizeF P (forks.drop (kk + 1)) <= 800000040) := ⟨by rw [joinA_size, ByteArray.size_append]; have := HZL.out; omega⟩
    have hA : textG P (joinA ((acc ++ lineS [forkT, f0, linkedT, f2, itoaB (f3.length : Int), itoaB (f4.length : Int)]) ++ P f3) f4) (forks.drop (kk + 1)) = textP P n pool forks := HA.out
    have HA2 := am hA
    clear hA hF8 hP8 hI5 hGG hG5 hHeld hbt0 hct0 hbt1 hct1 hc4 hIA HL
    clear HTX HTX2 HSZ HST HTD HF3 HF4 HAC HA HZL
    go_wp2_with (first
     | (go_at_call 25; with_reducible refine HRP.out.mono ?_; rintro r W9 ⟨rfl, hb9⟩; have HP9 := am (HP8.out.below hb9); have HF9 := am ((hb9.block cb (lt_box HF8.out)).trans HF8.out); clear hb9)
     | (go_at_call 21; refine (write_calls HP9.out.bd (P f3) HZ3.out).mono ?_; rintro r W10 ⟨rfl, own10, hI10, hG10⟩; have HP10 := am (HP9.out.go hG10 hI10); have kf4 := (qx ((hG10.keeps.block cb (lt_box HF9.out) HNB8.out).trans HF9.out) 4 rfl).1; clear hI10 hG10)
     | (go_at_call 23; refine (HP10.out.each A4 c4 f4 HC4.out HL4.out HZ2.out).mono ?_; rintro r W11 ⟨rfl, own11, hP11⟩; have HP11 := am hP11; clear hP11))
    go_roundg (forks.length - (kk + 1))
    case measure => omega
    case rel => exact ⟨kk + 1, by omega, by omega, by go_num, ⟨own11, _, HP11.out, HA2.out, HZ4.out⟩⟩
  ·obtain rfl : kk = forks.length := by omega
   rw [List.drop_length] at hA
   have hA' : acc = textP P n pool forks := hA
   have hac' : acc.size <= 9223372036854775807 := by have := hac; omega
   have HCV : Asd (conv_bytes.f acc = some (bytesOf acc)) := ⟨if_pos hac'⟩
   have HA3 := am hA'
   have HS := am (string_calls hPT.bd hPT.lo)
   have HB := am hPT.bel
   clear hA hA' hac hac' hPT
   go_wp2_with (first
    | (go_at_call 26; with_reducible refine HS.out.mono ?_; rintro r w4 ⟨rfl, hb4⟩; have HB4 := am (HB.out.trans hb4); clear hb4)
    | ((with_reducible refine gate_dst (N := 80) rfl ?_); refine conv_ev ?hg (N := 80) ?hd 9 26 5 (.tmp 79) rfl Tryz.underlying9 Tryz.underlying26 Tryz.underlying5 acc rfl HCV.out ?_; (case hg => rfl); (case hd => rfl); rintro v5 w5 hv5 hb5; have HV5 := am hv5; have HB5 := am hb5; clear hv5 hb5))
   go_ret2
   refine ⟨v5, rfl, ?_, qW HB4.out HB5.out⟩
   rw [<- HA3.out]
   exact Kd.V_mono HV5.out (fun k_ h => Nat.le_trans HB4.out.size h)
end Go.Proofs.YtlfenakgphmepaaGreatDoor.Root
