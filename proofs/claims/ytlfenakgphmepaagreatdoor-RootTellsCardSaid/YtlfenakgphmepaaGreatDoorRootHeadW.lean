/- head: its walk. -/
import Derived.Test.YtlfenakgphmepaaGreatDoorRootHeadG
namespace Go.Proofs.YtlfenakgphmepaaGreatDoor.Root
open Go.RowKit YtlfenakgphmepaaGreatDoorW.PrintWords YtlfenakgphmepaaGreatDoorW.PrintLast YtlfenakgphmepaaGreatDoorW.PrintMore YtlfenakgphmepaaGreatDoor.Conv Print Build
set_option linter.unusedVariables false
theorem C_fork1 {W : World} {g : Nat} {t : TypeId} {fr : Nat × Nat} (x : Fk) {A3 A4 : Option Addr} {c3 c4 : Nat} (h : W.heap[g]? = some (.cells #[.string x.f0, .bool x.f1, .string x.f2, .slice A3 x.f3.length c3, .slice A4 x.f4.length c4] t fr))
  (l3 : x.f3.length <= c3) (g3 : Kd.C k83 W A3 x.f3.length x.f3) (l4 : x.f4.length <= c4) (g4 : Kd.C Kd.string W A4 x.f4.length x.f4) : Kd.C k39 W (some ⟨g, 0, none⟩) 1 [x] := by
 refine ⟨rfl, by decide, fun _ => ⟨_, rfl, fun j p hj => ?_⟩⟩
 have hlt := (List.getElem?_eq_some_iff.1 hj).1
 rw [List.length_singleton] at hlt
 obtain rfl : j = 0 := by omega
 obtain rfl : x = p := Option.some.inj hj
 refine ⟨_, rfl, k39_mk W x l3 g3 l4 g4, fun i u hu => ?_⟩
 rw [add_plain, cell_of_row W g _ _ t fr h]
 rw [Nat.zero_mul, Nat.zero_add]
 simpa using hu
theorem add0 (a : Addr) : a.add 0 = a := by
 cases a
 unfold Addr.add
 split <;> simp_all
abbrev a1T : ByteArray := ⟨#[97, 45, 49]⟩
theorem n1 : root_Named.f 100 a1T = some true := by kernel_rfl
theorem n2 : root_Named.f 100 ⟨#[]⟩ = some false := by kernel_rfl
theorem fa : root_Find.f 3 [] [fkA] ⟨#[97]⟩ = some 0 := by kernel_rfl
theorem fb : root_Find.f 3 [] [fkA] ⟨#[98]⟩ = some (-1) := by kernel_rfl
set_option maxHeartbeats 4000000 in
set_option maxRecDepth 100000 in
theorem head_calls {W : World} (hT : Tb W) : Calls Tryz.prog 5 #[] W fun e w' => e = .returned (.bool true) /\ Below W.heap.size W w' := by
 have HT := am hT
 clear hT
 go_enter Tryz.func5, Tryz.ntmps5
 go_wp2_with (go_at_call 7; refine (put_h1 HT.out).mono ?_)
 rintro r W1 ⟨v1, rfl, ⟨A1, c1, rfl, hl1, hF1⟩, hb1⟩
 have HF1 := am hF1
 have HB1 := am hb1
 have HL1 : Asd (lit_bytes.f [110, 101, 116, 32, 51, 10, 112, 111, 111, 108, 32, 48, 10, 102, 111, 114, 107, 115, 32, 49, 10, 102, 111, 114, 107, 32, 97, 32, 108, 105, 110, 107, 101, 100, 32, 104, 101, 97, 100, 115, 47, 109, 32, 48, 32, 48, 10] = some [110, 101, 116, 32, 51, 10, 112, 111, 111, 108, 32, 48, 10, 102, 111, 114, 107, 115, 32, 49, 10, 102, 111, 114, 107, 32, 97, 32, 108, 105, 110, 107, 101, 100, 32, 104, 101, 97, 100, 115, 47, 109, 32, 48, 32, 48, 10]) := ⟨rfl⟩
 clear hF1 hb1 hl1
 go_wp2_with (first
  | ((with_reducible refine gate_dst (N := 15) rfl ?_); refine lit_ev ?hg (N := 15) ?hd ?hg2 26 5 [110, 101, 116, 32, 51, 10, 112, 111, 111, 108, 32, 48, 10, 102, 111, 114, 107, 115, 32, 49, 10, 102, 111, 114, 107, 32, 97, 32, 108, 105, 110, 107, 101, 100, 32, 104, 101, 97, 100, 115, 47, 109, 32, 48, 32, 48, 10] ?hr (.tmp 15) rfl Tryz.underlying26 Tryz.underlying5 rfl (by decide) HL1.out ?_; (case hg => rfl); (case hd => rfl); (case hg2 => rfl); (case hr => first | (go_simp; done) | (go_simp; rfl)); intro v2 W2 hv2 hb2; have HV2 := am hv2; have HB2 := am hb2; clear hv2 hb2))
 have hB2 := qW HB1.out HB2.out
 obtain ⟨A2, c2, rfl, hl2, hF2⟩ := HV2.out
 have HT2 := am (HT.out.below hB2)
 have hC2 := Kd.F_now hF2
 have HB2' := am hB2
 clear hB2 hl2 hF2 HV2
 change Calls Tryz.prog 9 #[.slice A2 47 c2] W2 _
 refine (get_h1 HT2.out A2 c2 _ hC2 (by decide +kernel)).mono ?_
 rintro r W3 ⟨hb3, Ap, cp, Af, cf, rfl, hpl, hcp, hfk, hcf⟩
 have hx2 := hb3
 have HB3 := am (qW HB2'.out hb3)
 have HFK := am (And.intro hfk hcf)
 have HPL := am (And.intro hpl hcp)
 clear hb3 hpl hcp hfk hcf hC2
 have HL2 : Asd (lit_bytes.f [110, 101, 116, 32, 51, 10, 112, 111, 111, 108, 32, 48, 10, 102, 111, 114, 107, 115, 32, 49, 10] = some [110, 101, 116, 32, 51, 10, 112, 111, 111, 108, 32, 48, 10, 102, 111, 114, 107, 115, 32, 49, 10]) := ⟨rfl⟩
 have hT3 : Tb W3 := HT.out.below HB3.out
 have HT3 := am hT3
 clear hT3
 go_wp2_with (first
  | ((with_reducible refine gate_dst (N := 21) rfl ?_); refine lit_ev ?hg (N := 21) ?hd ?hg2 26 5 [110, 101, 116, 32, 51, 10, 112, 111, 111, 108, 32, 48, 10, 102, 111, 114, 107, 115, 32, 49, 10] ?hr (.tmp 21) rfl Tryz.underlying26 Tryz.underlying5 rfl (by decide) HL2.out ?_; (case hg => rfl); (case hd => rfl); (case hg2 => rfl); (case hr => first | (go_simp; done) | (go_simp; rfl)); intro v4 W4 hv4 hb4; have HV4 := am hv4; have HB4 := am hb4; clear hv4 hb4))
 have hx4 := qB HB4.out (heap_alloc_new W3 (.cells #[.int .i64 3, .slice Ap 0 cp, .slice Af 1 cf] 25))
 have hb34 := qW (bal (Below.refl W3.heap.size W3) (.cells #[.int .i64 3, .slice Ap 0 cp, .slice Af 1 cf] 25)) HB4.out
 have hB4 := qW HB3.out hb34
 obtain ⟨A4, c4, rfl, hl4, hF4⟩ := HV4.out
 have HT4 := am (HT.out.below hB4)
 have hC4 := Kd.F_now hF4
 have HX4 := am hx4
 have HB34 := am hb34
 have HBB4 := am hB4
 clear hx4 hb34 hB4 hl4 hF4 HV4
 change Calls Tryz.prog 9 #[.slice A4 21 c4] W4 _
 refine (get_h2 HT4.out A4 c4 _ hC4 (by decide +kernel)).mono ?_
 rintro r W5 ⟨hb5, rfl⟩
 have HB5 := am hb5
 clear hb5 hC4
 go_upto_region 5 with (go_at_call 7; refine (put_h2 (some ⟨W5.heap.size + 1, 0, none⟩) 1 (C_fork1 fkB (by rw [<- sz_alloc W5 (.cells #[.int .i64 0, .slice none 0 0, .slice none 0 0] 25)]; exact heap_alloc_new _ _) (Nat.le_refl _) (Kd.C_nil _ _) (Nat.le_refl _) (Kd.C_nil _ _)) (Nat.le_refl _)).mono ?_; rintro r W6 ⟨rfl, hb6⟩; have HB56 := am (qW (bal (bal (Below.refl W5.heap.size W5) _) _) hb6); clear hb6)
 have hB36 := qW HB34.out (qW HB5.out HB56.out)
 have hx6 := qB (qW HB5.out HB56.out) HX4.out
 have hBW6 := qW HB3.out hB36
 have hB16 : Below W1.heap.size W1 W6 := qW HB2.out (qW hx2 hB36)
 have hs1 := Kd.C_string (P := Tryz.prog) (src := 26) (dst := 9) (c := c1) Tryz.underlying26 Tryz.underlying5 Tryz.underlying9 (Kd.F_now (Kd.F_below HF1.out hB16))
 rw [strOf_bytesOf] at hs1
 have HBW6 := am hBW6
 have HBC := am (Below.refl W6.heap.size W6)
 have HX6 := am hx6
 have kx0 : W6.cell? ⟨W3.heap.size, 0, none⟩ = some (.int .i64 3) := (qx hx6 0 rfl).1
 have kx1 : W6.cell? ⟨W3.heap.size, 1, none⟩ = some (.slice Ap 0 cp) := (qx hx6 1 rfl).1
 have kx2 : W6.cell? ⟨W3.heap.size, 2, none⟩ = some (.slice Af 1 cf) := (qx hx6 2 rfl).1
 have hfk6 := Kd.C_below HFK.out.1 hB36
 have hpl6 := Kd.C_below HPL.out.1 hB36
 have HFA : Asd (∀ W' : World, Below W6.heap.size W6 W' -> Calls Tryz.prog 16 #[.agg #[.int .i64 3, .slice Ap 0 cp, .slice Af 1 cf], .string ⟨#[97]⟩] W' fun e w' => e = .returned (.int .i64 0) /\ Below W'.heap.size W' w') := am (fun (W' : World) (hb : Below W6.heap.size W6 W') => root_Find.calls 3 Ap cp [] Af cf [fkA] ⟨#[97]⟩ 0 W' (Kd.C_below hpl6 hb) HPL.out.2 (Kd.C_below hfk6 hb) HFK.out.2 fa)
 have HFB : Asd (∀ W' : World, Below W6.heap.size W6 W' -> Calls Tryz.prog 16 #[.agg #[.int .i64 3, .slice Ap 0 cp, .slice Af 1 cf], .string ⟨#[98]⟩] W' fun e w' => e = .returned (.int .i64 (-1)) /\ Below W'.heap.size W' w') := am (fun (W' : World) (hb : Below W6.heap.size W6 W') => root_Find.calls 3 Ap cp [] Af cf [fkA] ⟨#[98]⟩ (-1) W' (Kd.C_below hpl6 hb) HPL.out.2 (Kd.C_below hfk6 hb) HFK.out.2 fb)
 have HRT : Asd (∀ W' : World, Below W6.heap.size W6 W' -> Calls Tryz.prog 11 #[.agg #[.int .i64 3, .slice Ap 0 cp, .slice Af 1 cf]] W' fun e w' => e = .returned (.bool true) /\ Below W'.heap.size W' w') := am (fun (W' : World) (hb : Below W6.heap.size W6 W') => root_Right.calls 3000000 3 Ap cp [] Af cf [fkA] true W' (Kd.C_below hpl6 hb) HPL.out.2 (Kd.C_below hfk6 hb) HFK.out.2 r2)
 obtain ⟨ad, A3, c3, A4', c4', rfl, q0, q1, q2, q3, q4, _, _, _, _⟩ := at_T39 hfk6 0 (by decide) (by decide)
 have q1' : W6.cell? ⟨ad.block, ad.off + 1, none⟩ = some (.bool true) := by
  have e : ad.add 0 = ad := add0 ad
  have q : W6.cell? ⟨(ad.add 0).block, (ad.add 0).off + 1, none⟩ = some (.bool true) := q1
  rw [e] at q
  exact q
 generalize bytesOf ⟨#[110, 101, 116, 32, 48, 10, 112, 111, 111, 108, 32, 48, 10, 102, 111, 114, 107, 115, 32, 48, 10]⟩ = bs0 at *
 clear q0 q1 q2 q3 q4 hfk6 hpl6 hx6 hB36 hB16 hBW6 hx2 HF1 HB1 HL1 HB2 HT2 HB2' HB3 HFK HPL HL2 HT3 HB4 HT4 HX4 HB34 HBB4 HB5 HB56
 go_wp2_with (first
  | (go_at_call 16; with_reducible refine (HFA.out _ HBC.out).mono ?_; rintro r W7 ⟨rfl, hb⟩; replace HBC := am (qW HBC.out hb); have hx := qB HBC.out HX6.out; have ky0 : W7.cell? ⟨W3.heap.size, 0, none⟩ = some (.int .i64 3) := (qx hx 0 rfl).1; have ky1 : W7.cell? ⟨W3.heap.size, 1, none⟩ = some (.slice Ap 0 cp) := (qx hx 1 rfl).1; have ky2 : W7.cell? ⟨W3.heap.size, 2, none⟩ = some (.slice (some ad) 1 cf) := (qx hx 2 rfl).1; clear hx hb)
  | (go_at_call 16; with_reducible refine (HFB.out _ HBC.out).mono ?_; rintro r W8 ⟨rfl, hb⟩; replace HBC := am (qW HBC.out hb); clear hb)
  | (go_at_call 14; with_reducible refine (root_Named.calls 100 a1T true _ n1).mono ?_; rintro r W9 ⟨rfl, hb⟩; replace HBC := am (qW HBC.out hb.below); clear hb)
  | (go_at_call 14; with_reducible refine (root_Named.calls 100 ⟨#[]⟩ false _ n2).mono ?_; rintro r W10 ⟨rfl, hb⟩; replace HBC := am (qW HBC.out hb.below); have hx := qB HBC.out HX6.out; have kz0 : W10.cell? ⟨W3.heap.size, 0, none⟩ = some (.int .i64 3) := (qx hx 0 rfl).1; have kz1 : W10.cell? ⟨W3.heap.size, 1, none⟩ = some (.slice Ap 0 cp) := (qx hx 1 rfl).1; have kz2 : W10.cell? ⟨W3.heap.size, 2, none⟩ = some (.slice (some ad) 1 cf) := (qx hx 2 rfl).1; clear hx hb)
  | (go_at_call 11; with_reducible refine (HRT.out _ HBC.out).mono ?_; rintro r W11 ⟨rfl, hb⟩; replace HBC := am (qW HBC.out hb); clear hb))
 go_ret
 exact ⟨rfl, qW HBW6.out HBC.out⟩
end Go.Proofs.YtlfenakgphmepaaGreatDoor.Root
